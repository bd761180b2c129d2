/- The document's own answer (freshetref6): Due. -/
import Derived.Test.YtmgiamagocefcaaLawL
import Derived.Test.YtmgiamagocefcaaFrame
namespace Go.Proofs.Ytmgiamagocefcaa
open Go.Xs
open Enc (enc)

/-- a Due of the document's -/
abbrev mseg (mb : Nat) (v : Value) : List Chunk := [(mb, .cells #[v] 29)]

theorem Src.head {α : Type} [Enc α] {S : Segs} {b ty c : Nat} {fz : Nat × Nat} {L sp : List α} {j : Nat} (hm : [(b, Obj.cells (cells (L ++ sp)).toArray ty fz)] ∈ S) (hj : j ≤ L.length) :
    Src S (.slice (some ⟨b, 0, none⟩) j c) (L.take j) := by
  have hl : (L.take j).length = j := by rw [List.length_take]; omega
  conv => arg 2; rw [← hl]
  refine .part hm ?_
  rw [List.drop_zero, hl]
  show (cells (L ++ sp)).take _ = _
  rw [cells_take, List.take_append_of_le_length hj]

theorem c46 {mb : Nat} {v : Value} {L : List (Int × Int)} {H : List Chunk} (hL : Slc 42 v L H) (hlen : L.length < 2 ^ 40) (k : Int) :
    Tri Try.prog 46 #[.pointer (some ⟨mb, 0, none⟩), .int .i64 k] [mseg mb v, H] (fun r S => r = ixV (idx k L) ∧ S = [mseg mb v, H]) := by
  refine Tri.forget (ycallee Try.fx46 (Nat.le_of_ble_eq_true rfl) ?_)
  unfold Try.x46
  obtain ⟨a, c, rfl⟩ := hL.isSlice
  refine yseq ?_
  refine yregion ?_
  refine yp pC ?_
  refine ynil ?_
  refine tnorm ?_
  refine yseq ?_
  refine yseq ?_
  refine yregion ?_
  refine yp pC ?_
  refine ynil ?_
  refine tnorm ?_
  refine yblock ?_
  refine yloop (σ := Nat) (fun i E S => Has E [(0, .pointer (some ⟨mb, 0, none⟩)), (1, .int .i64 k), (5, .int .i64 i)] ∧ i ≤ L.length ∧ (idx k L = (idx k (L.drop i)).map (· + i)) ∧ Junk S [mseg mb (.slice a L.length c), H]) (fun i => L.length - i) 0 ⟨⟨rfl, rfl, rfl, trivial⟩, Nat.zero_le _, by simp, .self⟩ fun i E S ⟨hE, hi, hx, hS⟩ => ?_
  obtain ⟨E0, e0⟩ := has_puts hE; subst e0; clear hE
  refine yforget hS ?_
  refine yseq ?_
  refine yseq ?_
  refine yregion ?_
  refine yp (pI rfl) ?_
  refine yp (pP rfl) ?_
  refine yp (pNilc rfl) ?_
  refine yp (pFadr rfl) ?_
  refine ycons (yload1 rfl rfl ?_)
  refine yp (pLen rfl) ?_
  refine yp (pLt rfl rfl) ?_
  refine ynil ?_
  refine tnorm ?_
  refine ycondD rfl (fun h => ?_) (fun h => ?_)
  · have hlt : i < L.length := by omega
    have hd : L.drop i = L[i] :: L.drop (i + 1) := List.drop_eq_getElem_cons hlt
    obtain ⟨b, sp, fz2, hz, rfl, _, rfl, rfl⟩ := hL.at' (by intro h; simp [h] at hlt)
    refine yskip ?_
    refine tnorm ?_
    refine yseq ?_
    refine yblock ?_
    refine yseq ?_
    refine yregion ?_
    refine yp (pP rfl) ?_
    refine yp (pNilc rfl) ?_
    refine yp (pFadr rfl) ?_
    refine ycons (yload1 rfl rfl ?_)
    refine yp (pI rfl) ?_
    refine yp (pIxN rfl rfl (by omega)) ?_
    refine yp (pFadr rfl) ?_
    refine ycons (yload1 (v := .int .i64 L[i].1) rfl ((row_cell (kk := 2) (j := 0) hlt rfl (by omega)).trans rfl) ?_)
    refine yp (pI rfl) ?_
    refine yp (pEq rfl rfl) ?_
    refine ynil ?_
    refine tnorm ?_
    refine ycondD rfl (fun h2 => ?_) (fun h2 => ?_)
    · refine yseq ?_
      refine yregion ?_
      refine yp (pI rfl) ?_
      refine yp (pI rfl) ?_
      refine ynil ?_
      refine tnorm ?_
      refine yret ?_
      refine bret ?_
      refine tret ?_
      refine tret ?_
      refine bret ?_
      refine tret ?_
      exact yfin (rI rfl) ⟨_, .of, by rw [hx, hd, idx, if_pos h2]; simp [ixV], rfl⟩
    · refine yskip ?_
      refine bnorm ?_
      refine tnorm ?_
      refine yregion ?_
      refine yp (pI rfl) ?_
      refine yp (pInc rfl rfl (by omega)) ?_
      refine yp (pI rfl) ?_
      refine ynil ?_
      refine tnorm ?_
      refine ⟨i + 1, ⟨⟨rfl, rfl, rfl, trivial⟩, by omega, ?_, .of⟩, by omega⟩
      rw [hx, hd, idx, if_neg h2, Option.map_map]
      congr 1
      funext x
      simp; omega
  · refine yexit ?_
    refine texit ?_
    refine texit ?_
    refine bexit ?_
    refine tnorm ?_
    refine yseq ?_
    refine yregion ?_
    refine yp pC ?_
    refine ynil ?_
    refine tnorm ?_
    refine yret ?_
    have : L.drop i = [] := List.drop_eq_nil_of_le (by omega)
    exact yfin (rI rfl) ⟨_, .of, by rw [hx, this]; rfl, rfl⟩

theorem c16 {mb : Nat} {v : Value} {L : List (Int × Int)} {H : List Chunk} (hL : Slc 42 v L H) (hlen : L.length < 2 ^ 40) (k : Int) :
    Tri Try.prog 16 #[.pointer (some ⟨mb, 0, none⟩), .int .i64 k] [mseg mb v, H] (fun r S => r = .tuple #[.int .i64 ((atK k L).getD 0), .bool (hasK k L)] ∧ S = [mseg mb v, H]) := by
  refine Tri.forget (ycallee Try.fx16 (Nat.le_of_ble_eq_true rfl) ?_)
  unfold Try.x16
  refine yseq ?_
  refine yregion ?_
  refine yp pC ?_
  refine yp pC ?_
  refine ynil ?_
  refine tnorm ?_
  refine yseq ?_
  refine yregion ?_
  refine yp (pP rfl) ?_
  refine yp (pI rfl) ?_
  refine ycons (ycall (c46 (mb := mb) hL hlen k) rfl rfl fun r S' h => ?_)
  obtain ⟨rfl, rfl⟩ := h
  cases h : idx k L with
  | none =>
    have h1 : hasK k L = false := by simp [hasK, h]
    have h2 : (atK k L).getD 0 = 0 := by simp [atK, h]
    rw [h1, h2]
    simp only [ixV]
    refine yp (pI rfl) ?_
    refine ynil ?_
    refine tnorm ?_
    refine yseq ?_
    refine yseq ?_
    refine yregion ?_
    refine yp (pI rfl) ?_
    refine yp (pLt rfl rfl) ?_
    refine ynil ?_
    refine tnorm ?_
    refine ycondT rfl ?_
    refine yseq ?_
    refine yregion ?_
    refine yp pC ?_
    refine yp pC ?_
    refine ynil ?_
    refine tnorm ?_
    refine yret ?_
    refine tret ?_
    exact yfin (rIB rfl rfl) ⟨_, .of, rfl, rfl⟩
  | some i =>
    have hi := idx_lt h
    have h1 : hasK k L = true := by simp [hasK, h]
    have h2 : (atK k L).getD 0 = L[i].2 := by simp [atK, h, hi]
    rw [h1, h2]
    simp only [ixV]
    obtain ⟨a, c, rfl⟩ := hL.isSlice
    obtain ⟨bb, sp, fz, hz, rfl, hN2, hc0, rfl⟩ := hL.at' (by intro h; simp [h] at hi)
    refine yp (pI rfl) ?_
    refine ynil ?_
    refine tnorm ?_
    refine yseq ?_
    refine yseq ?_
    refine yregion ?_
    refine yp (pI rfl) ?_
    refine yp (pLt rfl rfl) ?_
    refine ynil ?_
    refine tnorm ?_
    refine ycondF rfl ?_
    refine yskip ?_
    refine tnorm ?_
    refine yseq ?_
    refine yregion ?_
    refine yp (pP rfl) ?_
    refine yp (pNilc rfl) ?_
    refine yp (pFadr rfl) ?_
    refine ycons (yload1 rfl rfl ?_)
    refine yp (pI rfl) ?_
    refine yp (pIxN rfl rfl (by omega)) ?_
    refine yp (pFadr rfl) ?_
    refine ycons (yload1 (v := .int .i64 L[i].2) rfl ((row_cell (kk := 2) (j := 1) hi rfl (by omega)).trans rfl) ?_)
    refine yp (pI rfl) ?_
    refine yp pC ?_
    refine ynil ?_
    refine tnorm ?_
    refine yret ?_
    exact yfin (rIB rfl rfl) ⟨_, .of, rfl, rfl⟩

theorem c19 {mb : Nat} {v : Value} {L : List (Int × Int)} {H : List Chunk} (hL : Slc 42 v L H) (hlen : L.length < 2 ^ 40) (k : Int) :
    Tri Try.prog 19 #[.pointer (some ⟨mb, 0, none⟩), .int .i64 k] [mseg mb v, H] (fun r S => r = .bool (hasK k L) ∧ ∃ v' H', Slc 42 v' (dropK k L) H' ∧ S = [mseg mb v', H']) := by
  refine Tri.forget (ycallee Try.fx19 (Nat.le_of_ble_eq_true rfl) ?_)
  unfold Try.x19
  refine yseq ?_
  refine yregion ?_
  refine yp pC ?_
  refine ynil ?_
  refine tnorm ?_
  refine yseq ?_
  refine yregion ?_
  refine yp (pP rfl) ?_
  refine yp (pI rfl) ?_
  refine ycons (ycall (c46 (mb := mb) hL hlen k) rfl rfl fun r S' h => ?_)
  obtain ⟨rfl, rfl⟩ := h
  cases h : idx k L with
  | none =>
    have h1 : hasK k L = false := by simp [hasK, h]
    have h2 : dropK k L = L := by simp [dropK, h]
    rw [h1, h2]
    simp only [ixV]
    refine yp (pI rfl) ?_
    refine ynil ?_
    refine tnorm ?_
    refine yseq ?_
    refine yseq ?_
    refine yregion ?_
    refine yp (pI rfl) ?_
    refine yp (pLt rfl rfl) ?_
    refine ynil ?_
    refine tnorm ?_
    refine ycondT rfl ?_
    refine yseq ?_
    refine yregion ?_
    refine yp pC ?_
    refine ynil ?_
    refine tnorm ?_
    refine yret ?_
    refine tret ?_
    exact yfin (rB rfl) ⟨_, .of, rfl, _, _, hL, rfl⟩
  | some i =>
    have hi := idx_lt h
    have h1 : hasK k L = true := by simp [hasK, h]
    have h2 : dropK k L = L.take i ++ L.drop (i + 1) := by simp [dropK, h, List.eraseIdx_eq_take_drop_succ]
    rw [h1, h2]
    simp only [ixV]
    obtain ⟨a, c, rfl⟩ := hL.isSlice
    obtain ⟨bb, sp, fz, hz, rfl, hN2, rfl, rfl⟩ := hL.at' (by intro h; simp [h] at hi)
    refine yp (pI rfl) ?_
    refine ynil ?_
    refine tnorm ?_
    refine yseq ?_
    refine yseq ?_
    refine yregion ?_
    refine yp (pI rfl) ?_
    refine yp (pLt rfl rfl) ?_
    refine ynil ?_
    refine tnorm ?_
    refine ycondF rfl ?_
    refine yskip ?_
    refine tnorm ?_
    refine yseq ?_
    refine ydraw ?_
    refine ytq (pP rfl) ?_
    refine ytq (pP rfl) ?_
    refine ytq (pNilc rfl) ?_
    refine ytq (pFadr rfl) ?_
    refine ytl1 rfl rfl ?_
    refine ytq (pI rfl) ?_
    refine ytq (pSlTo rfl rfl (by omega)) ?_
    refine ytq (pP rfl) ?_
    refine ytq (pNilc rfl) ?_
    refine ytq (pFadr rfl) ?_
    refine ytl1 rfl rfl ?_
    refine ytq (pI rfl) ?_
    refine ytq (pInc rfl rfl (by omega)) ?_
    refine ytq (pSlFrom rfl rfl (by omega)) ?_
    refine ytaltC (ybsl0 fun p12 => ⟨by simp, ?_⟩) ytno
    refine ytaltC (yapp rfl rfl Slc.empty (Src.head (b := bb) (L := L) (sp := sp) (ty := 42) (fz := fz) (j := i) (by repeat (first | exact List.mem_cons_self | apply List.mem_cons_of_mem)) (by omega)) rfl (0, 0) rfl (by rw [List.length_take]; simp; omega) (by rw [List.length_take]; simp; omega) fun v1 H1 hL1 => ⟨by simp, ?_⟩) ytno
    refine ytalt (yapp (Y := L.drop (i + 1)) rfl rfl hL1 (Src.tail (b := bb) (L := L) (sp := sp) (ty := 42) (fz := fz) (j := i + 1) ?_ rfl (by omega)) rfl (0, 0) rfl (by simp; omega) (by simp; omega) fun v2 H2 hL2 => ?_) ytno
    · simp
    obtain ⟨a2, c2, rfl⟩ := hL2.isSlice
    refine ytq (pNilc rfl) ?_
    refine ytq (pFadr rfl) ?_
    refine ytalt (yst1_0 rfl rfl (scS rfl) ?_) ytno
    refine ytdone ?_
    refine tnorm ?_
    refine yseq ?_
    refine yregion ?_
    refine yp pC ?_
    refine ynil ?_
    refine tnorm ?_
    refine yret ?_
    exact yfin (rB rfl) ⟨_, .of, rfl, _, H2, hL2, rfl⟩

theorem c17 {mb : Nat} {v : Value} {L : List (Int × Int)} {H : List Chunk} (hL : Slc 42 v L H) (hlen : L.length < 2 ^ 40 - 1) (k t : Int) :
    Tri Try.prog 17 #[.pointer (some ⟨mb, 0, none⟩), .int .i64 k, .int .i64 t] [mseg mb v, H] (fun r S => r = .tuple #[] ∧ ∃ v' H', Slc 42 v' (dropK k L ++ [(k, t)]) H' ∧ S = [mseg mb v', H']) := by
  refine Tri.forget (ycallee Try.fx17 (Nat.le_of_ble_eq_true rfl) ?_)
  unfold Try.x17
  refine yseq ?_
  refine yregion ?_
  refine yp (pP rfl) ?_
  refine yp (pI rfl) ?_
  refine ycons (ycall (c19 (mb := mb) hL (by omega) k) rfl rfl fun r S' h => ?_)
  obtain ⟨rfl, v1, H1, hL1, rfl⟩ := h
  have hdl := dropK_length k L
  refine ynil ?_
  refine tnorm ?_
  refine yregion ?_
  refine yp (pP rfl) ?_
  refine ycons (ybsl0 fun p10 => ?_)
  obtain ⟨a, c, rfl⟩ := hL1.isSlice
  refine yp (pP rfl) ?_
  refine yp (pNilc rfl) ?_
  refine yp (pFadr rfl) ?_
  refine ycons (yload1 rfl rfl ?_)
  refine ycons (yapp rfl rfl Slc.empty (hL1.src (by repeat (first | exact List.mem_cons_self | apply List.mem_cons_of_mem))) rfl (0, 0) rfl (by simp; omega) (by simp; omega) fun v2 H2 hL2 => ?_)
  rw [List.nil_append] at hL2
  obtain ⟨a2, c2, rfl⟩ := hL2.isSlice
  refine yp (pI rfl) ?_
  refine yp (pI rfl) ?_
  refine yp (pBuild2 (scI rfl) (scI rfl)) ?_
  refine ycons (ybsl1 (k, t) rfl rfl (by decide) (by decide) rfl fun p19 => ?_)
  refine ycons (yapp (Y := [(k, t)]) rfl rfl hL2 (.lit (by repeat (first | exact List.mem_cons_self | apply List.mem_cons_of_mem)) rfl) rfl (0, 0) rfl (by simp; omega) (by simp; omega) fun v3 H3 hL3 => ?_)
  obtain ⟨a3, c3, rfl⟩ := hL3.isSlice
  refine yp (pNilc rfl) ?_
  refine yp (pFadr rfl) ?_
  refine ycons (yst1_0 rfl rfl (scS rfl) ?_)
  refine ynil ?_
  exact yfinN res0 ⟨_, .of, rfl, _, H3, hL3, rfl⟩
end Go.Proofs.Ytmgiamagocefcaa
