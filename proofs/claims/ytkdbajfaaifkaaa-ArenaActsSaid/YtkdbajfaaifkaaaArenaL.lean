/- The arena (chapter 6): its functions as the laws call them; awake; ArenaCosts. -/
import Derived.Test.YtkdbajfaaifkaaaArenaZ
import Derived.Test.YtkdbajfaaifkaaaFLawA
namespace Go.Proofs.Ytkdbajfaaifkaaa
open Go.Xs
open Enc (enc)

theorem arAllocOk {ab N : Nat} {D : List (Option Bt)} {H : List Chunk} (hA : Ar ab N D H) {n : Int} {m : Nat} (hn : n = m) (he : allocE N D m = 0) :
    Tri Try.prog 16 #[.pointer (some ⟨ab, 0, none⟩), .int .i64 n] [H] (fun r S => r = .tuple #[.int .i64 (hnd D : Nat), .int .i64 0] ∧ ∃ H', Ar ab N (allocD D m) H' ∧ S = [H']) := by
  subst hn
  refine (arAlloc hA m).mono fun r S h => ?_
  rcases h with ⟨h1, _⟩ | ⟨_, m', H', h1, h2, h3, h4⟩
  · exact absurd he h1
  · obtain rfl : m = m' := by omega
    exact ⟨h2, H', h3, h4⟩
theorem arAllocNo {ab N : Nat} {D : List (Option Bt)} {H : List Chunk} (hA : Ar ab N D H) {n e : Int} (he : allocE N D n = e) (hne : e ≠ 0) :
    Tri Try.prog 16 #[.pointer (some ⟨ab, 0, none⟩), .int .i64 n] [H] (fun r S => r = .tuple #[.int .i64 0, .int .i64 e] ∧ S = [H]) := by
  refine (arAlloc hA n).mono fun r S h => ?_
  rcases h with ⟨_, h2, h3⟩ | ⟨h1, _⟩
  · exact ⟨by rw [h2, he], h3⟩
  · rw [he] at h1; exact absurd h1 hne
theorem arCompact {ab N : Nat} {D : List (Option Bt)} {H : List Chunk} (hA : Ar ab N D H) :
    Tri Try.prog 26 #[.pointer (some ⟨ab, 0, none⟩)] [H] (fun r S => r = .int .i64 ((N - usedD D : Nat) : Int) ∧ ∃ H', Ar ab N D H' ∧ S = [H']) := by
  obtain ⟨bb, kv, HK, T, B, used, top, hI, rfl, hK, rfl⟩ := hA
  refine Tri.forget (Tri.split3 ((arCompactT hI hK).mono fun r S h => ?_))
  obtain ⟨rfl, kv', HK', T', B', t, _, hI', hd, hK', rfl⟩ := h
  exact ⟨_, Junk.join3, rfl, _, hd ▸ Ar.mk (ab := ab) (bb := bb) hI' hK', rfl⟩
theorem arAllocNil {n : Int} (hn : cost n ≠ 0) : Tri Try.prog 16 #[.pointer none, .int .i64 n] [] (fun r S => r = .tuple #[.int .i64 0, .int .i64 4] ∧ S = []) := by
  obtain ⟨m, rfl, hm, hcm⟩ := cost_pos hn
  have hcn := costN_is m hm
  refine Tri.forget (ycallee Try.fx16 (Nat.le_of_ble_eq_true rfl) ?_)
  unfold Try.x16
  refine yseq ?_
  refine yregion ?_
  refine yp pC ?_
  refine yp pC ?_
  refine ynil ?_
  refine tnorm ?_
  refine yseq ?_
  refine yregion ?_
  refine yp (pI rfl) ?_
  refine ycons (ycall (arCost (m : Int)) rfl rfl fun r S' h => ?_)
  obtain ⟨rfl, rfl⟩ := h
  rw [hcm]
  refine yp (pI rfl) ?_
  refine ynil ?_
  refine tnorm ?_
  refine yseq ?_
  refine yblock ?_
  refine yseq ?_
  refine yregion ?_
  refine yp (pI rfl) ?_
  refine yp (pEq rfl rfl) ?_
  refine yp (pB rfl) ?_
  refine ynil ?_
  refine tnorm ?_
  rw [decide_eq_false (show ¬ ((costN m : Nat) : Int) = 0 from by omega)]
  refine ycondF rfl ?_
  refine yseq ?_
  refine yregion ?_
  refine yp (pI rfl) ?_
  refine yp (pP rfl) ?_
  refine ycons (ycall arLeftn rfl rfl fun r S' h => ?_)
  obtain ⟨rfl, rfl⟩ := h
  refine yp (pGt rfl rfl) ?_
  refine yp (pB rfl) ?_
  refine ynil ?_
  refine tnorm ?_
  rw [decide_eq_true (show (0 : Int) < ((costN m : Nat) : Int) from by omega)]
  refine ycondT rfl ?_
  refine yseq ?_
  refine yregion ?_
  refine yp pC ?_
  refine yp pC ?_
  refine ynil ?_
  refine tnorm ?_
  refine yret ?_
  refine bret ?_
  refine tret ?_
  exact yfin (rII rfl rfl) ⟨_, .of, rfl, rfl⟩

set_option maxRecDepth 10000 in
theorem awake6 : Tri Try.prog 14 #[] [] (fun r S => r = .bool true ∧ S = []) := by
  refine Tri.forget (ycallee Try.fx14 (Nat.le_of_ble_eq_true rfl) ?_)
  unfold Try.x14
  refine yseq ?_
  refine yregion ?_
  refine yp pC ?_
  refine ynil ?_
  refine tnorm ?_
  refine yseq ?_
  refine yregion ?_
  refine ycons (ycall (arNewA (n := 1024) (by decide) rfl) rfl rfl fun r S' h => ?_)
  obtain ⟨ab, H, rfl, hA, rfl⟩ := h
  refine yp (pU rfl) ?_
  refine yp (pExt rfl rfl) ?_
  refine yp (pExt rfl rfl) ?_
  refine yp (pP rfl) ?_
  refine yp (pI rfl) ?_
  refine ynil ?_
  refine tnorm ?_
  refine yseq ?_
  refine yregion ?_
  refine ycons (ycall (arNewn (n := 1023) (.inl (by decide))) rfl rfl fun r S' h => ?_)
  obtain ⟨rfl, rfl⟩ := h
  refine yp (pU rfl) ?_
  refine yp (pExt rfl rfl) ?_
  refine yp (pExt rfl rfl) ?_
  refine yp (pP rfl) ?_
  refine yp (pI rfl) ?_
  refine ynil ?_
  refine tnorm ?_
  refine yseq ?_
  refine yseq ?_
  refine yregion ?_
  refine yp (pI rfl) ?_
  refine yp (pNe rfl rfl) ?_
  refine yp (pB rfl) ?_
  refine ygT rfl ?_
  refine yop (pP rfl) ?_
  refine ygT rfl ?_
  refine yop (pNilP rfl rfl) ?_
  refine yp (pPickF rfl rfl) ?_
  refine yp (pB rfl) ?_
  refine ygT rfl ?_
  refine yop (pI rfl) ?_
  refine ygT rfl ?_
  refine yop (pNe rfl rfl) ?_
  refine yp (pPickF rfl rfl) ?_
  refine ynil ?_
  refine tnorm ?_
  refine ycondF rfl ?_
  refine yskip ?_
  refine tnorm ?_
  refine yseq ?_
  refine yregion ?_
  refine yp (pP rfl) ?_
  refine ycons (ycall (arAllocOk hA (m := 9) rfl (by decide)) rfl rfl fun r S' h => ?_)
  obtain ⟨rfl, H, hA, rfl⟩ := h
  rw [show allocD [] 9 = [some (zeros 9)] from rfl] at hA
  refine yp (pU rfl) ?_
  refine yp (pExt rfl rfl) ?_
  refine yp (pExt rfl rfl) ?_
  refine yp (pI rfl) ?_
  refine yp (pI rfl) ?_
  refine ynil ?_
  refine tnorm ?_
  refine yseq ?_
  refine yregion ?_
  refine yp (pP rfl) ?_
  refine ycons (ycall (arAllocNo hA (e := 3) (by decide) (by decide)) rfl rfl fun r S' h => ?_)
  obtain ⟨rfl, rfl⟩ := h
  refine yp (pU rfl) ?_
  refine yp (pExt rfl rfl) ?_
  refine yp (pExt rfl rfl) ?_
  refine yp (pI rfl) ?_
  refine yp (pI rfl) ?_
  refine ynil ?_
  refine tnorm ?_
  refine yseq ?_
  refine yregion ?_
  refine yp (pP rfl) ?_
  refine yp (pI rfl) ?_
  refine ycons (ybsl (l := cells ([97, 98, 99] : Bt)) rfl (by decide) (by decide) (by decide) rfl fun p47 => ?_)
  refine ycons (yconvB (b := p47) (e := 5) (by kernel_rfl) (by kernel_rfl) rfl ?_)
  refine ycons (ycall (arWrite hA 1 1 (S0 := [[(p47, .cells (cells ([97, 98, 99] : Bt)).toArray 5 ((cells ([97, 98, 99] : Bt)).toArray.size, (cells ([97, 98, 99] : Bt)).toArray.size + 1))]]) (Y := ([97, 98, 99] : Bt)) (.litF List.mem_cons_self rfl) (by decide)) rfl rfl fun r S' h => ?_)
  obtain ⟨rfl, H, hA, rfl⟩ := h
  rw [show writeD [some (zeros 9)] 1 1 ([97, 98, 99] : Bt) = [some ([0, 97, 98, 99, 0, 0, 0, 0, 0] : Bt)] from by decide] at hA
  refine yp (pI rfl) ?_
  refine ynil ?_
  refine tnorm ?_
  refine yseq ?_
  refine yregion ?_
  refine yp (pP rfl) ?_
  refine yp (pI rfl) ?_
  refine ycons (ycall (arRead hA 1 0 5) rfl rfl fun r S' h => ?_)
  obtain ⟨v, Ho, rfl, hL, rfl⟩ := h
  rw [show readB [some ([0, 97, 98, 99, 0, 0, 0, 0, 0] : Bt)] 1 0 5 = ([0, 97, 98, 99, 0] : Bt) from by decide] at hL
  obtain ⟨va, vc, rfl⟩ := hL.isSlice
  refine yp (pU rfl) ?_
  refine yp (pExt rfl rfl) ?_
  refine yp (pExt rfl rfl) ?_
  refine yp (pS rfl) ?_
  refine yp (pI rfl) ?_
  refine ynil ?_
  refine tnorm ?_
  refine yseq ?_
  refine yregion ?_
  refine yp (pP rfl) ?_
  refine yp (pI rfl) ?_
  refine ycons (ycall (arSize hA 1) rfl rfl fun r S' h => ?_)
  obtain ⟨rfl, rfl⟩ := h
  refine yp (pU rfl) ?_
  refine yp (pExt rfl rfl) ?_
  refine yp (pExt rfl rfl) ?_
  refine yp (pI rfl) ?_
  refine yp (pB rfl) ?_
  refine ynil ?_
  refine tnorm ?_
  refine yseq ?_
  refine yregion ?_
  refine yp pC ?_
  refine ynil ?_
  refine tnorm ?_
  refine yseq ?_
  refine yregion ?_
  refine yp (pP rfl) ?_
  refine ycons (ycall (arAllocNil (n := 1) (by decide)) rfl rfl fun r S' h => ?_)
  obtain ⟨rfl, rfl⟩ := h
  refine yp (pU rfl) ?_
  refine yp (pExt rfl rfl) ?_
  refine yp (pExt rfl rfl) ?_
  refine yp (pI rfl) ?_
  refine yp (pI rfl) ?_
  refine ynil ?_
  refine tnorm ?_
  refine yseq ?_
  refine yregion ?_
  refine yp (pI rfl) ?_
  refine yp (pEq rfl rfl) ?_
  refine yp (pB rfl) ?_
  refine ygT rfl ?_
  refine yop (pI rfl) ?_
  refine ygT rfl ?_
  refine yop (pEq rfl rfl) ?_
  refine yp (pPickT rfl rfl) ?_
  refine yp (pB rfl) ?_
  refine ygT rfl ?_
  refine yop (pI rfl) ?_
  refine ygT rfl ?_
  refine yop (pEq rfl rfl) ?_
  refine yp (pPickT rfl rfl) ?_
  refine yp (pB rfl) ?_
  refine ygT rfl ?_
  refine yop (pI rfl) ?_
  refine ygT rfl ?_
  refine yop (pEq rfl rfl) ?_
  refine yp (pPickT rfl rfl) ?_
  refine yp (pB rfl) ?_
  refine ygT rfl ?_
  refine yop (pS rfl) ?_
  refine ygT rfl ?_
  refine yb2s rfl (hL.src (by repeat (first | exact List.mem_cons_self | apply List.mem_cons_of_mem))) ?_
  refine ygT rfl ?_
  refine yop (pEqS rfl rfl) ?_
  rw [decide_eq_true (show (⟨([0, 97, 98, 99, 0] : Bt).toArray⟩ : ByteArray) = ⟨#[0, 97, 98, 99, 0]⟩ from rfl)]
  refine yp (pPickT rfl rfl) ?_
  refine yp (pB rfl) ?_
  refine ygT rfl ?_
  refine yop (pI rfl) ?_
  refine ygT rfl ?_
  refine yop (pEq rfl rfl) ?_
  refine yp (pPickT rfl rfl) ?_
  refine yp (pB rfl) ?_
  refine ygT rfl ?_
  refine yop (pI rfl) ?_
  refine ygT rfl ?_
  refine yop (pEq rfl rfl) ?_
  refine yp (pPickT rfl rfl) ?_
  refine yp (pB rfl) ?_
  refine ygT rfl ?_
  refine yop (pB rfl) ?_
  refine yp (pPickT rfl rfl) ?_
  refine yp (pB rfl) ?_
  refine ygT rfl ?_
  refine ycall (arCost 8) rfl rfl fun r S' h => ?_
  obtain ⟨rfl, rfl⟩ := h
  rw [show cost 8 = 16 from by decide +kernel]
  refine ygT rfl ?_
  refine yop (pEq rfl rfl) ?_
  refine yp (pPickT rfl rfl) ?_
  refine yp (pB rfl) ?_
  refine ygT rfl ?_
  refine ycall (arCost 9) rfl rfl fun r S' h => ?_
  obtain ⟨rfl, rfl⟩ := h
  rw [show cost 9 = 32 from by decide +kernel]
  refine ygT rfl ?_
  refine yop (pEq rfl rfl) ?_
  refine yp (pPickT rfl rfl) ?_
  refine yp (pB rfl) ?_
  refine ygT rfl ?_
  refine ycall (arCost (-1)) rfl rfl fun r S' h => ?_
  obtain ⟨rfl, rfl⟩ := h
  rw [show cost (-1) = 0 from by decide +kernel]
  refine ygT rfl ?_
  refine yop (pEq rfl rfl) ?_
  refine yp (pPickT rfl rfl) ?_
  refine yp (pB rfl) ?_
  refine ygT rfl ?_
  refine yop (pP rfl) ?_
  refine ygT rfl ?_
  refine ycall (arUsedA hA) rfl rfl fun r S' h => ?_
  obtain ⟨rfl, rfl⟩ := h
  rw [show usedD [some ([0, 97, 98, 99, 0, 0, 0, 0, 0] : Bt)] = 32 from by decide +kernel]
  refine ygT rfl ?_
  refine yop (pEq rfl rfl) ?_
  refine yp (pPickT rfl rfl) ?_
  refine yp (pB rfl) ?_
  refine ygT rfl ?_
  refine yop (pP rfl) ?_
  refine ygT rfl ?_
  refine ycall (arLeftA hA) rfl rfl fun r S' h => ?_
  obtain ⟨rfl, rfl⟩ := h
  rw [show 1024 - usedD [some ([0, 97, 98, 99, 0, 0, 0, 0, 0] : Bt)] = 992 from by decide +kernel]
  refine ygT rfl ?_
  refine yop (pEq rfl rfl) ?_
  refine yp (pPickT rfl rfl) ?_
  refine yp (pB rfl) ?_
  refine ygT rfl ?_
  refine yop (pP rfl) ?_
  refine ygT rfl ?_
  refine ycall (arCompact hA) rfl rfl fun r S' h => ?_
  obtain ⟨rfl, H, hA, rfl⟩ := h
  rw [show 1024 - usedD [some ([0, 97, 98, 99, 0, 0, 0, 0, 0] : Bt)] = 992 from by decide +kernel]
  refine ygT rfl ?_
  refine yop (pEq rfl rfl) ?_
  refine yp (pPickT rfl rfl) ?_
  refine yp (pB rfl) ?_
  refine ygT rfl ?_
  refine yop (pI rfl) ?_
  refine ygT rfl ?_
  refine yop (pEq rfl rfl) ?_
  refine yp (pPickT rfl rfl) ?_
  refine yp (pB rfl) ?_
  refine ygT rfl ?_
  refine yop (pP rfl) ?_
  refine ygT rfl ?_
  refine ycall arUsedn rfl rfl fun r S' h => ?_
  obtain ⟨rfl, rfl⟩ := h
  refine ygT rfl ?_
  refine yop (pEq rfl rfl) ?_
  refine yp (pPickT rfl rfl) ?_
  refine yp (pB rfl) ?_
  refine ynil ?_
  refine tnorm ?_
  refine yret ?_
  exact yfin (rB rfl) ⟨_, .of, rfl, rfl⟩
end Go.Proofs.Ytkdbajfaaifkaaa
