/- ArenaEdges: what it computes. -/
import Derived.Test.YtkdbajfaaifkaaaArenaL
namespace Go.Proofs.Ytkdbajfaaifkaaa
open Go.Xs
open Enc (enc)

/-- so many bytes x -/
def exs (n : Nat) : Bt := List.replicate n 120
def edD (n : Nat) (o : Option (Nat × Nat)) : List (Option Bt) := [some (match o with | some (x, s) => spl (zeros n) x (exs s) | none => zeros n), some (zeros 20)]
theorem zeros_len (n : Nat) : (zeros n).length = n := by simp [zeros]
theorem maxLen_eq' : Go.maxLen = 9223372036854775807 := by decide
theorem exs_len (n : Nat) : (exs n).length = n := by simp [exs]
theorem cost_small {n : Nat} (h : n ≤ 500) : costN n ≤ 512 := by
  unfold costN
  repeat' split
  all_goals omega
theorem ed_alloc1 {n : Nat} (h : n ≤ 500) : allocE 2048 [] (n : Int) = 0 ∧ allocE 2048 [some (zeros n)] ((20 : Nat) : Int) = 0 := by
  have h1 := cost_small h
  have hp := (costN_is n (by omega)).2.1
  have hc : cost (n : Int) = (costN n : Nat) := by unfold cost; rw [if_neg (by omega), Int.toNat_natCast]
  have hu : usedD [some (zeros n)] = costN n := by simp [usedD, wgt, zeros_len]
  constructor
  · unfold allocE
    rw [hc, if_neg (by omega), if_neg (by simp [usedD]; omega)]
  · unfold allocE
    rw [show cost ((20 : Nat) : Int) = 32 from by decide +kernel, if_neg (by decide), hu, if_neg (by omega)]
theorem ed_part {n s : Nat} (at_ : Int) (o : Option (Nat × Nat)) (ho : ∀ x s, o = some (x, s) → x + s ≤ n) : partE (edD n o) 1 at_ (s : Int) = if 0 ≤ at_ ∧ at_ ≤ (n : Int) ∧ (s : Int) ≤ (n : Int) - at_ then 0 else 1 := by
  have hl : ∀ (b : Bt), b.length = n → partE [some b, some (zeros 20)] 1 at_ (s : Int) = if 0 ≤ at_ ∧ at_ ≤ (n : Int) ∧ (s : Int) ≤ (n : Int) - at_ then 0 else 1 := by
    intro b hb
    have hg : getB [some b, some (zeros 20)] 1 = some b := rfl
    unfold partE
    rw [hg]
    simp only [hb]
    by_cases hf : 0 ≤ at_ ∧ at_ ≤ (n : Int) ∧ (s : Int) ≤ (n : Int) - at_
    · rw [if_pos hf, if_neg (by omega)]
    · rw [if_neg hf, if_pos (by omega)]
  unfold edD
  refine hl _ ?_
  cases o with
  | none => exact zeros_len n
  | some xs =>
    obtain ⟨x, s'⟩ := xs
    have := ho x s' rfl
    show (spl (zeros n) x (exs s')).length = n
    rw [spl_len (by rw [exs_len, zeros_len]; omega), zeros_len]
theorem pGeN {E : Env} {x y : Operand} {k : IntKind} {a b : Int} (h1 : ev E x = .int k a) (h2 : ev E y = .int k b) : pstep (ev E) (.bin .geq x y) = some (.bool (decide (b ≤ a))) := pGe h1 h2
theorem ed_read {n s x : Nat} (h : x + s ≤ n) : ((spl (zeros n) x (exs s)).drop x).take s = exs s := by
  unfold spl
  have h1 : ((zeros n).take x).length = x := by rw [List.length_take, zeros_len]; omega
  rw [List.append_assoc, List.drop_append_of_le_length (by omega), List.drop_of_length_le (by omega), List.nil_append, List.take_append_of_le_length (by rw [exs_len]; omega), List.take_of_length_le (by rw [exs_len]; omega)]
set_option maxRecDepth 10000 in
set_option maxHeartbeats 1000000 in
theorem c4 (n at_ size : Int) : Tri Try.prog 4 #[.int .i64 n, .int .i64 at_, .int .i64 size] [] (fun r S => r = .bool true ∧ S = []) := by
  refine Tri.forget (ycallee Try.fx4 (Nat.le_of_ble_eq_true rfl) ?_)
  unfold Try.x4
  refine yseq ?_
  refine yregion ?_
  refine yp pC ?_
  refine ynil ?_
  refine tnorm ?_
  refine ycutQ (fun E S => Has E [(0, .int .i64 n), (1, .int .i64 at_), (2, .int .i64 size)] ∧ (0 ≤ n ∧ n ≤ 500 ∧ 0 ≤ size ∧ size ≤ 1000) ∧ Junk S []) ?_ fun E S ⟨hE, hn, hJ⟩ => ?_
  · have hout : ∀ E : Env, Y Try.prog none 206 (.seq (.region [⟨some 39, .call (.func 14) [], none⟩, ⟨some 6, .mov (.tmp 39), none⟩]) .ret) (fnQ Try.prog #[.tmp 6] fun v S' => ∃ S'', Junk S' S'' ∧ v = .bool true ∧ S'' = []) E [] := fun E => by
      refine yseq ?_
      refine yregion ?_
      refine ycons (ycall awake6 rfl rfl fun r S' h => ?_)
      obtain ⟨rfl, rfl⟩ := h
      refine yp (pB rfl) ?_
      refine ynil ?_
      refine tnorm ?_
      refine yret ?_
      exact yfin (rB rfl) ⟨_, .of, rfl, rfl⟩
    refine yseq ?_
    refine yregion ?_
    refine yp (pI rfl) ?_
    refine yp (pLt rfl rfl) ?_
    refine yp (pB rfl) ?_
    by_cases c1 : n < 0
    · rw [decide_eq_true c1]
      refine ygF rfl ?_
      refine ygF rfl ?_
      refine yp (pPickT rfl rfl) ?_
      refine yp (pB rfl) ?_
      refine ygF rfl ?_
      refine ygF rfl ?_
      refine yp (pPickT rfl rfl) ?_
      refine yp (pB rfl) ?_
      refine ygF rfl ?_
      refine ygF rfl ?_
      refine yp (pPickT rfl rfl) ?_
      refine ynil ?_
      refine tnorm ?_
      refine ycondT rfl ?_
      refine yseq ?_
      refine yregion ?_
      refine ycons (ycall awake6 rfl rfl fun r S' h => ?_)
      obtain ⟨rfl, rfl⟩ := h
      refine yp (pB rfl) ?_
      refine ynil ?_
      refine tnorm ?_
      refine yret ?_
      refine tret ?_
      exact yfin (rB rfl) ⟨_, .of, rfl, rfl⟩
    rw [decide_eq_false c1]
    refine ygT rfl ?_
    refine yop (pI rfl) ?_
    refine ygT rfl ?_
    refine yop (pGt rfl rfl) ?_
    refine yp (pPickF rfl rfl) ?_
    refine yp (pB rfl) ?_
    by_cases c2 : 500 < n
    · rw [decide_eq_true c2]
      refine ygF rfl ?_
      refine ygF rfl ?_
      refine yp (pPickT rfl rfl) ?_
      refine yp (pB rfl) ?_
      refine ygF rfl ?_
      refine ygF rfl ?_
      refine yp (pPickT rfl rfl) ?_
      refine ynil ?_
      refine tnorm ?_
      refine ycondT rfl ?_
      refine yseq ?_
      refine yregion ?_
      refine ycons (ycall awake6 rfl rfl fun r S' h => ?_)
      obtain ⟨rfl, rfl⟩ := h
      refine yp (pB rfl) ?_
      refine ynil ?_
      refine tnorm ?_
      refine yret ?_
      refine tret ?_
      exact yfin (rB rfl) ⟨_, .of, rfl, rfl⟩
    rw [decide_eq_false c2]
    refine ygT rfl ?_
    refine yop (pI rfl) ?_
    refine ygT rfl ?_
    refine yop (pLt rfl rfl) ?_
    refine yp (pPickF rfl rfl) ?_
    refine yp (pB rfl) ?_
    by_cases c3 : size < 0
    · rw [decide_eq_true c3]
      refine ygF rfl ?_
      refine ygF rfl ?_
      refine yp (pPickT rfl rfl) ?_
      refine ynil ?_
      refine tnorm ?_
      refine ycondT rfl ?_
      refine yseq ?_
      refine yregion ?_
      refine ycons (ycall awake6 rfl rfl fun r S' h => ?_)
      obtain ⟨rfl, rfl⟩ := h
      refine yp (pB rfl) ?_
      refine ynil ?_
      refine tnorm ?_
      refine yret ?_
      refine tret ?_
      exact yfin (rB rfl) ⟨_, .of, rfl, rfl⟩
    rw [decide_eq_false c3]
    refine ygT rfl ?_
    refine yop (pI rfl) ?_
    refine ygT rfl ?_
    refine yop (pGt rfl rfl) ?_
    refine yp (pPickF rfl rfl) ?_
    refine ynil ?_
    refine tnorm ?_
    by_cases c4 : 1000 < size
    · rw [decide_eq_true c4]
      refine ycondT rfl ?_
      refine yseq ?_
      refine yregion ?_
      refine ycons (ycall awake6 rfl rfl fun r S' h => ?_)
      obtain ⟨rfl, rfl⟩ := h
      refine yp (pB rfl) ?_
      refine ynil ?_
      refine tnorm ?_
      refine yret ?_
      refine tret ?_
      exact yfin (rB rfl) ⟨_, .of, rfl, rfl⟩
    rw [decide_eq_false c4]
    refine ycondF rfl ?_
    refine yskip ?_
    refine tnorm ?_
    exact ⟨⟨rfl, rfl, rfl, trivial⟩, by omega, .of⟩
  obtain ⟨m, rfl⟩ := Int.eq_ofNat_of_zero_le hn.1
  obtain ⟨s, rfl⟩ := Int.eq_ofNat_of_zero_le hn.2.2.1
  have hm : m ≤ 500 := by omega
  have hs : s ≤ 1000 := by omega
  clear hn
  obtain ⟨E0, e0⟩ := has_puts hE; subst e0; clear hE
  refine yforget hJ ?_
  refine yseq ?_
  refine yregion ?_
  refine ycons (ycall (arNewA (n := 2048) (by decide) rfl) rfl rfl fun r S' h => ?_)
  obtain ⟨ab, H, rfl, hA, rfl⟩ := h
  refine yp (pU rfl) ?_
  refine yp (pExt rfl rfl) ?_
  refine yp (pExt rfl rfl) ?_
  refine yp (pP rfl) ?_
  refine yp (pI rfl) ?_
  refine ynil ?_
  refine tnorm ?_
  refine yseq ?_
  refine yseq ?_
  refine yregion ?_
  refine yp (pI rfl) ?_
  refine yp (pNe rfl rfl) ?_
  refine yp (pB rfl) ?_
  refine ygT rfl ?_
  refine yop (pP rfl) ?_
  refine ygT rfl ?_
  refine yop (pNilP rfl rfl) ?_
  refine yp (pPickF rfl rfl) ?_
  refine ynil ?_
  refine tnorm ?_
  refine ycondF rfl ?_
  refine yskip ?_
  refine tnorm ?_
  refine yseq ?_
  refine yregion ?_
  refine yp (pP rfl) ?_
  refine yp (pI rfl) ?_
  refine ycons (ycall (arAllocOk hA (m := m) rfl (ed_alloc1 hm).1) rfl rfl fun r S' h => ?_)
  obtain ⟨rfl, H, hA, rfl⟩ := h
  rw [show allocD [] m = [some (zeros m)] from rfl] at hA
  refine yp (pU rfl) ?_
  refine yp (pExt rfl rfl) ?_
  refine yp (pExt rfl rfl) ?_
  refine yp (pI rfl) ?_
  refine yp (pI rfl) ?_
  refine ynil ?_
  refine tnorm ?_
  refine yseq ?_
  refine yregion ?_
  refine yp (pP rfl) ?_
  refine ycons (ycall (arAllocOk hA (m := 20) rfl (ed_alloc1 hm).2) rfl rfl fun r S' h => ?_)
  obtain ⟨rfl, H, hA, rfl⟩ := h
  rw [show allocD [some (zeros m)] 20 = edD m none from rfl] at hA
  rw [show hnd ([] : List (Option Bt)) = 1 from rfl, show hnd [some (zeros m)] = 2 from rfl]
  refine yp (pU rfl) ?_
  refine yp (pExt rfl rfl) ?_
  refine yp (pExt rfl rfl) ?_
  refine yp (pI rfl) ?_
  refine yp (pI rfl) ?_
  refine ynil ?_
  refine tnorm ?_
  refine yseq ?_
  refine yseq ?_
  refine yregion ?_
  refine yp (pI rfl) ?_
  refine yp (pNe rfl rfl) ?_
  refine yp (pB rfl) ?_
  refine ygT rfl ?_
  refine yop (pI rfl) ?_
  refine ygT rfl ?_
  refine yop (pNe rfl rfl) ?_
  refine yp (pPickF rfl rfl) ?_
  refine ynil ?_
  refine tnorm ?_
  refine ycondF rfl ?_
  refine yskip ?_
  refine tnorm ?_
  refine yseq ?_
  refine yregion ?_
  refine yp (pI rfl) ?_
  refine ycons (ymksl (m := s) (cap := s) rfl rfl (Nat.le_refl _) rfl (by omega) (by omega) fun bb => ?_)
  rw [replicate_cells (z := [.int .u8 0]) s (0 : UInt8) rfl]
  refine yp (pS rfl) ?_
  refine ynil ?_
  refine tnorm ?_
  refine ykeep [(0, .int .i64 (m : Int)), (1, .int .i64 at_), (2, .int .i64 (s : Int)), (7, .pointer (some ⟨ab, 0, none⟩)), (9, .int .i64 1), (11, .int .i64 2), (13, .slice (some ⟨bb, 0, none⟩) s s)] ⟨rfl, rfl, rfl, rfl, rfl, rfl, rfl, trivial⟩ fun E0 => ?_
  refine yseq ?_
  refine yseq ?_
  refine yregion ?_
  refine yp pC ?_
  refine ynil ?_
  refine tnorm ?_
  refine yblock ?_
  refine yloop (σ := Nat) (fun j E S => Has E [(0, .int .i64 (m : Int)), (1, .int .i64 at_), (2, .int .i64 (s : Int)), (7, .pointer (some ⟨ab, 0, none⟩)), (9, .int .i64 1), (11, .int .i64 2), (13, .slice (some ⟨bb, 0, none⟩) s s), (14, .int .i64 (j : Int))] ∧ j ≤ s ∧ ∃ L : Bt, L.length = s ∧ (∀ k, k < j → L[k]? = some 120) ∧ Junk S [[(bb, .cells (cells L).toArray 5)], H]) (fun j => s - j) 0 ⟨⟨rfl, rfl, rfl, rfl, rfl, rfl, rfl, rfl, trivial⟩, Nat.zero_le _, List.replicate s 0, by simp, fun k h => by omega, .of⟩ fun j E S ⟨hE, hj, L, hL, hk, hJ⟩ => ?_
  obtain ⟨E0, e0⟩ := has_puts hE; subst e0; clear hE
  refine yforget hJ ?_
  refine yseq ?_
  refine yseq ?_
  refine yregion ?_
  refine yp (pI rfl) ?_
  refine yp (pI rfl) ?_
  refine yp (pLt rfl rfl) ?_
  refine ynil ?_
  refine tnorm ?_
  refine ycondD rfl (fun h => ?_) (fun h => ?_)
  · refine yskip ?_
    refine tnorm ?_
    refine yseq ?_
    refine yblock ?_
    refine yregion ?_
    refine yp (pS rfl) ?_
    refine yp (pI rfl) ?_
    refine yp (pIxN rfl rfl (by omega)) ?_
    refine ycons (ystoreE (M := L) (y := (120 : UInt8)) rfl (by omega) rfl rfl (.inl rfl) ?_)
    refine ynil ?_
    refine bnorm ?_
    refine tnorm ?_
    refine yregion ?_
    refine yp (pI rfl) ?_
    refine yp (pInc rfl rfl (by omega)) ?_
    refine yp (pI rfl) ?_
    refine ynil ?_
    refine tnorm ?_
    refine ⟨j + 1, ⟨⟨rfl, rfl, rfl, rfl, rfl, rfl, rfl, rfl, trivial⟩, by omega, L.set j 120, by simpa using hL, fun k h2 => ?_, .of⟩, by omega⟩
    rw [List.getElem?_set]
    split
    · next hjk => rw [if_pos (by omega)]
    · exact hk k (by omega)
  have hLx : L = exs s := by
    refine List.ext_getElem? fun k => ?_
    by_cases hks : k < s
    · rw [hk k (by omega)]; simp [exs, hks]
    · rw [List.getElem?_eq_none (by omega), List.getElem?_eq_none (by rw [exs_len]; omega)]
  subst hLx
  clear hk hL
  have hp0 := ed_part (n := m) (s := s) at_ none (fun x s h => by cases h)
  have hX : Src [[(bb, Obj.cells (cells (exs s)).toArray 5)]] (.slice (some ⟨bb, 0, none⟩) s s) (exs s) := .litF List.mem_cons_self (exs_len s).symm
  have hn0 : ¬ ((m : Int) < 0) := by omega
  by_cases hf : 0 ≤ at_ ∧ at_ ≤ (m : Int) ∧ (s : Int) ≤ (m : Int) - at_
  · -- it fits
    rw [if_pos hf] at hp0
    obtain ⟨f1, f2, f3⟩ := hf
    obtain ⟨x, rfl⟩ := Int.eq_ofNat_of_zero_le f1
    have hxs : x + s ≤ m := by omega
    have hsl : (spl (zeros m) x (exs s)).length = m := by rw [spl_len (by rw [exs_len, zeros_len]; omega), zeros_len]
    have hp1 : partE (edD m (some (x, s))) 1 (x : Int) (s : Int) = 0 := by
      rw [ed_part (n := m) (s := s) x (some (x, s)) (fun x s h => by cases h; omega), if_pos ⟨f1, f2, f3⟩]
    have hp2 : partE (edD m (some (x, s))) 1 0 (m : Int) = 0 := by
      rw [ed_part (n := m) (s := m) 0 (some (x, s)) (fun x s h => by cases h; omega), if_pos (by omega)]
    have hp3 : partE (edD m (some (x, s))) 2 0 20 = 0 := rfl
    have hp4 : partE (edD m (some (x, s))) 99 0 ([] : Bt).length = 5 := rfl
    have hw : writeD (edD m none) 1 (x : Int) (exs s) = edD m (some (x, s)) := by
      unfold writeD; rw [exs_len, hp0]; rfl
    have hr1 : readB (edD m (some (x, s))) 1 (x : Int) (s : Int) = exs s := by
      unfold readB; rw [hp1]
      exact ed_read hxs
    have hr2 : readB (edD m (some (x, s))) 1 0 (m : Int) = spl (zeros m) x (exs s) := by
      unfold readB; rw [hp2]
      show ((spl (zeros m) x (exs s)).drop 0).take m = _
      rw [List.drop_zero, List.take_of_length_le (by omega)]
    have hr3 : readB (edD m (some (x, s))) 2 0 20 = zeros 20 := rfl
    refine yexit ?_
    refine texit ?_
    refine texit ?_
    refine bexit ?_
    refine tnorm ?_
    refine yseq ?_
    refine yregion ?_
    refine yp (pI rfl) ?_
    refine yp (pGe rfl rfl) ?_
    refine yp (pB rfl) ?_
    refine ygT rfl ?_
    refine yop (pI rfl) ?_
    refine ygT rfl ?_
    refine yop (pI rfl) ?_
    refine ygT rfl ?_
    refine yop (pLe rfl rfl) ?_
    refine yp (pPickT rfl rfl) ?_
    refine yp (pB rfl) ?_
    rw [decide_eq_true (show (0 : Int) ≤ (x : Int) from f1)]
    skip
    rw [decide_eq_true (show (x : Int) ≤ (m : Int) from f2)]
    refine ygT rfl ?_
    refine yop (pI rfl) ?_
    refine ygT rfl ?_
    refine yop (pI rfl) ?_
    refine ygT rfl ?_
    refine yop (pI rfl) ?_
    refine ygT rfl ?_
    refine yop (pSub rfl rfl (by omega)) ?_
    refine ygT rfl ?_
    refine yop (pLe rfl rfl) ?_
    refine yp (pPickT rfl rfl) ?_
    refine yp (pB rfl) ?_
    refine ynil ?_
    refine tnorm ?_
    refine yseq ?_
    refine yregion ?_
    refine yp (pP rfl) ?_
    refine yp (pI rfl) ?_
    refine yp (pI rfl) ?_
    refine yp (pS rfl) ?_
    rw [decide_eq_true f3]
    skip
    refine ycons (ycall (arWrite hA 1 (x : Int) hX (by rw [exs_len, maxLen_eq']; omega)) rfl rfl fun r S' h => ?_)
    obtain ⟨rfl, H, hA, rfl⟩ := h
    rw [exs_len, hp0]
    rw [hw] at hA
    refine yp (pI rfl) ?_
    refine ynil ?_
    refine tnorm ?_
    refine ykeep [(0, .int .i64 (m : Int)), (1, .int .i64 (x : Int)), (2, .int .i64 (s : Int)), (7, .pointer (some ⟨ab, 0, none⟩)), (9, .int .i64 1), (11, .int .i64 2), (13, .slice (some ⟨bb, 0, none⟩) s s), (15, .bool true), (16, .int .i64 0)] ⟨rfl, rfl, rfl, rfl, rfl, rfl, rfl, rfl, rfl, trivial⟩ fun E1 => ?_
    refine yseq ?_
    refine yregion ?_
    refine yp (pP rfl) ?_
    refine yp (pI rfl) ?_
    refine yp (pI rfl) ?_
    refine yp (pI rfl) ?_
    refine ycons (ycall (arRead hA 1 (x : Int) (s : Int)) rfl rfl fun r S' h => ?_)
    obtain ⟨v1, H1, rfl, hL1, rfl⟩ := h
    rw [hp1]
    rw [hr1] at hL1
    obtain ⟨a1, c1, rfl⟩ := hL1.isSlice
    refine yp (pU rfl) ?_
    refine yp (pExt rfl rfl) ?_
    refine yp (pExt rfl rfl) ?_
    refine yp (pS rfl) ?_
    refine yp (pI rfl) ?_
    refine ynil ?_
    refine tnorm ?_
    refine yseq ?_
    refine yregion ?_
    refine yp (pP rfl) ?_
    refine yp (pI rfl) ?_
    refine yp (pI rfl) ?_
    refine ycons (ycall (arRead hA 1 0 (m : Int)) rfl rfl fun r S' h => ?_)
    obtain ⟨v2, H2, rfl, hL2, rfl⟩ := h
    rw [hp2]
    rw [hr2] at hL2
    obtain ⟨a2, c2, rfl⟩ := hL2.isSlice
    refine yp (pU rfl) ?_
    refine yp (pExt rfl rfl) ?_
    refine yp (pExt rfl rfl) ?_
    refine yp (pS rfl) ?_
    refine yp (pI rfl) ?_
    refine ynil ?_
    refine tnorm ?_
    refine yseq ?_
    refine yregion ?_
    refine yp (pP rfl) ?_
    refine yp (pI rfl) ?_
    refine ycons (ycall (arRead hA 2 0 20) rfl rfl fun r S' h => ?_)
    obtain ⟨v3, H3, rfl, hL3, rfl⟩ := h
    rw [hp3]
    rw [hr3] at hL3
    have hz20 : (zeros 20).length = 20 := zeros_len 20
    generalize hz : zeros 20 = z20 at hL3 hz20
    obtain ⟨a3, c3, rfl⟩ := hL3.isSlice
    refine yp (pU rfl) ?_
    refine yp (pExt rfl rfl) ?_
    refine yp (pExt rfl rfl) ?_
    refine yp (pS rfl) ?_
    refine yp (pI rfl) ?_
    refine ynil ?_
    refine tnorm ?_
    refine ykeep [(0, .int .i64 (m : Int)), (1, .int .i64 (x : Int)), (2, .int .i64 (s : Int)), (7, .pointer (some ⟨ab, 0, none⟩)), (9, .int .i64 1), (11, .int .i64 2), (13, .slice (some ⟨bb, 0, none⟩) s s), (15, .bool true), (16, .int .i64 0), (17, .slice a1 (exs s).length c1), (18, .int .i64 0), (19, .slice a2 (spl (zeros m) x (exs s)).length c2), (20, .int .i64 0), (21, .slice a3 z20.length c3), (22, .int .i64 0)] ⟨rfl, rfl, rfl, rfl, rfl, rfl, rfl, rfl, rfl, rfl, rfl, rfl, rfl, rfl, rfl, trivial⟩ fun E2 => ?_
    refine ycut (fun E S => Has E [(0, .int .i64 (m : Int)), (1, .int .i64 (x : Int)), (2, .int .i64 (s : Int)), (7, .pointer (some ⟨ab, 0, none⟩)), (13, .slice (some ⟨bb, 0, none⟩) s s), (15, .bool true), (17, .slice a1 (exs s).length c1), (19, .slice a2 (spl (zeros m) x (exs s)).length c2)] ∧ Junk S [[(bb, .cells (cells (exs s)).toArray 5)], H, H1, H2]) ?_ fun E S ⟨hE, hJ⟩ => ?_
    · refine yseq ?_
      refine ydraw ?_
      refine ytq (pI rfl) ?_
      refine ytq (pEq rfl rfl) ?_
      refine ytq (pB rfl) ?_
      refine ytq (pNeB rfl rfl) ?_
      refine ytq (pB rfl) ?_
      refine ytgT rfl ?_
      refine ytq (pI rfl) ?_
      refine ytgT rfl ?_
      refine ytq (pEq rfl rfl) ?_
      refine ytgT rfl ?_
      refine ytq (pB rfl) ?_
      refine ytgT rfl ?_
      refine ytq (pNeB rfl rfl) ?_
      refine ytq (pPickF rfl rfl) ?_
      refine ytq (pB rfl) ?_
      refine ytgT rfl ?_
      refine ytq (pB rfl) ?_
      refine ytgT rfl ?_
      refine ytq (pNot rfl) ?_
      refine ytgT rfl ?_
      refine ytq (pB rfl) ?_
      refine ytgF rfl ?_
      refine ytgF rfl ?_
      refine ytgF rfl ?_
      refine ytgU rfl ?_
      refine ytgU rfl ?_
      refine ytgF rfl ?_
      refine ytgF rfl ?_
      refine ytgU rfl ?_
      refine ytgU rfl ?_
      refine ytgU rfl ?_
      refine ytgF rfl ?_
      refine ytgT rfl ?_
      refine ytq (pPickF rfl rfl) ?_
      refine ytq (pPickF rfl rfl) ?_
      refine ytq (pB rfl) ?_
      refine ytgT rfl ?_
      refine ytq (pI rfl) ?_
      refine ytgT rfl ?_
      refine ytq (pNe rfl rfl) ?_
      refine ytq (pPickF rfl rfl) ?_
      refine ytq (pB rfl) ?_
      refine ytgT rfl ?_
      refine ytq (pI rfl) ?_
      refine ytgT rfl ?_
      refine ytq (pNe rfl rfl) ?_
      refine ytq (pPickF rfl rfl) ?_
      refine ytq (pB rfl) ?_
      refine ytgT rfl ?_
      refine ytq (pS rfl) ?_
      have hmk : ∀ (K : Env → Segs → Prop) (E : Env) (S : Segs) (d : Option Tmp), (∀ b, K (putE d (.slice (some ⟨b, 0, none⟩) 20 20) E) ([(b, .cells (cells z20).toArray 5)] :: S)) → YO Try.prog none 206 d (.mksl 5 1 1 [(.int .u8 0)] (.const (.int .i64 20)) (.const (.int .i64 20))) K E S := fun K E S d hK => by
        refine ymksl (m := 20) (cap := 20) rfl rfl (Nat.le_refl _) rfl (by omega) (by omega) fun b2 => ?_
        rw [replicate_cells (z := [.int .u8 0]) 20 (0 : UInt8) rfl, show List.replicate 20 (0 : UInt8) = z20 from hz]
        exact hK b2
      refine ytaltT rfl (ytalt (yb2s rfl (hL3.src (by simp)) ?_) ytno) (ytaltT rfl (ytalt (hmk _ _ _ _ fun b2 => ?_) ytno) ytno)
      · refine ytaltT rfl (ytalt (hmk _ _ _ _ fun b2 => ?_) ytno) ytno
        refine ytaltT rfl (ytalt (yb2s rfl (Src.lit (b := b2) (e := 5) (Y := z20) (by simp) hz20.symm) ?_) ytno) ytno
        refine ytgT rfl ?_
        refine ytq (pNeS rfl rfl) ?_
        rw [decide_eq_true rfl]
        refine ytq (pPickF rfl rfl) ?_
        refine ytq (pB rfl) ?_
        refine ytgT rfl ?_
        refine ytq (pS rfl) ?_
        refine ytgT rfl ?_
        refine ytq (pLen rfl) ?_
        refine ytgT rfl ?_
        refine ytq (pI rfl) ?_
        refine ytgT rfl ?_
        refine ytq (pNe rfl rfl) ?_
        refine ytq (pPickF rfl rfl) ?_
        refine ytdone ?_
        refine tnorm ?_
        refine ycondN rfl (fun hne => absurd (congrArg (fun k : Nat => (k : Int)) hsl) hne) (fun _ => ?_)
        refine yskip ?_
        refine tnorm ?_
        exact ⟨⟨rfl, rfl, rfl, rfl, rfl, rfl, rfl, rfl, trivial⟩, .of⟩
      · refine ytaltT rfl (ytalt (yb2s rfl (hL3.src (by simp)) ?_) ytno) (ytaltT rfl (ytalt (yb2s rfl (Src.lit (b := b2) (e := 5) (Y := z20) (by simp) hz20.symm) ?_) ytno) ytno)
        · refine ytaltT rfl (ytalt (yb2s rfl (Src.lit (b := b2) (e := 5) (Y := z20) (by simp) hz20.symm) ?_) ytno) ytno
          refine ytgT rfl ?_
          refine ytq (pNeS rfl rfl) ?_
          rw [decide_eq_true rfl]
          refine ytq (pPickF rfl rfl) ?_
          refine ytq (pB rfl) ?_
          refine ytgT rfl ?_
          refine ytq (pS rfl) ?_
          refine ytgT rfl ?_
          refine ytq (pLen rfl) ?_
          refine ytgT rfl ?_
          refine ytq (pI rfl) ?_
          refine ytgT rfl ?_
          refine ytq (pNe rfl rfl) ?_
          refine ytq (pPickF rfl rfl) ?_
          refine ytdone ?_
          refine tnorm ?_
          refine ycondN rfl (fun hne => absurd (congrArg (fun k : Nat => (k : Int)) hsl) hne) (fun _ => ?_)
          refine yskip ?_
          refine tnorm ?_
          exact ⟨⟨rfl, rfl, rfl, rfl, rfl, rfl, rfl, rfl, trivial⟩, .of⟩
        · refine ytaltT rfl (ytalt (yb2s rfl (hL3.src (by simp)) ?_) ytno) ytno
          refine ytgT rfl ?_
          refine ytq (pNeS rfl rfl) ?_
          rw [decide_eq_true rfl]
          refine ytq (pPickF rfl rfl) ?_
          refine ytq (pB rfl) ?_
          refine ytgT rfl ?_
          refine ytq (pS rfl) ?_
          refine ytgT rfl ?_
          refine ytq (pLen rfl) ?_
          refine ytgT rfl ?_
          refine ytq (pI rfl) ?_
          refine ytgT rfl ?_
          refine ytq (pNe rfl rfl) ?_
          refine ytq (pPickF rfl rfl) ?_
          refine ytdone ?_
          refine tnorm ?_
          refine ycondN rfl (fun hne => absurd (congrArg (fun k : Nat => (k : Int)) hsl) hne) (fun _ => ?_)
          refine yskip ?_
          refine tnorm ?_
          exact ⟨⟨rfl, rfl, rfl, rfl, rfl, rfl, rfl, rfl, trivial⟩, .of⟩
    obtain ⟨E0, e0⟩ := has_puts hE; subst e0; clear hE
    refine yforget hJ ?_
    refine yseq ?_
    refine yseq ?_
    refine yregion ?_
    refine yp pC ?_
    refine ynil ?_
    refine tnorm ?_
    refine yblock ?_
    refine yloop (σ := Nat) (fun q E S => Has E [(0, .int .i64 (m : Int)), (1, .int .i64 (x : Int)), (2, .int .i64 (s : Int)), (7, .pointer (some ⟨ab, 0, none⟩)), (13, .slice (some ⟨bb, 0, none⟩) s s), (15, .bool true), (17, .slice a1 (exs s).length c1), (19, .slice a2 (spl (zeros m) x (exs s)).length c2), (23, .int .i64 (q : Int))] ∧ q ≤ m ∧ Junk S [[(bb, .cells (cells (exs s)).toArray 5)], H, H1, H2]) (fun q => m - q) 0 ⟨⟨rfl, rfl, rfl, rfl, rfl, rfl, rfl, rfl, rfl, trivial⟩, Nat.zero_le _, .of⟩ fun q E S ⟨hE, hq, hJ⟩ => ?_
    obtain ⟨E0, e0⟩ := has_puts hE; subst e0; clear hE
    refine yforget hJ ?_
    refine yseq ?_
    refine yseq ?_
    refine yregion ?_
    refine yp (pI rfl) ?_
    refine yp (pI rfl) ?_
    refine yp (pLt rfl rfl) ?_
    refine ynil ?_
    refine tnorm ?_
    refine ycondD rfl (fun h => ?_) (fun h => ?_)
    · have hlt : q < (spl (zeros m) x (exs s)).length := by rw [hsl]; omega
      refine yskip ?_
      refine tnorm ?_
      refine yseq ?_
      refine yblock ?_
      refine yseq ?_
      refine yregion ?_
      refine yp pC ?_
      refine ynil ?_
      refine tnorm ?_
      refine ycut (fun E S => Has E [(0, .int .i64 (m : Int)), (1, .int .i64 (x : Int)), (2, .int .i64 (s : Int)), (7, .pointer (some ⟨ab, 0, none⟩)), (13, .slice (some ⟨bb, 0, none⟩) s s), (15, .bool true), (17, .slice a1 (exs s).length c1), (19, .slice a2 (spl (zeros m) x (exs s)).length c2), (23, .int .i64 (q : Int)), (24, .int .u8 (((spl (zeros m) x (exs s))[q].toNat : Nat) : Int))] ∧ Junk S [[(bb, .cells (cells (exs s)).toArray 5)], H, H1, H2]) ?_ fun E S ⟨hE, hJ⟩ => ?_
      · have hg := spl_get (b := zeros m) (Y := exs s) (x := x) (by rw [exs_len, zeros_len]; omega) q
        rw [List.getElem?_eq_getElem hlt, exs_len] at hg
        refine yseq ?_
        refine yregion ?_
        refine yp (pB rfl) ?_
        refine yp (pB rfl) ?_
        refine ygT rfl ?_
        refine yop (pI rfl) ?_
        refine ygT rfl ?_
        refine yop (pI rfl) ?_
        refine ygT rfl ?_
        refine yop (pGe rfl rfl) ?_
        refine yp (pPickT rfl rfl) ?_
        refine yp (pB rfl) ?_
        by_cases c1' : x ≤ q
        · rw [decide_eq_true (show (x : Int) ≤ (q : Int) from by omega)]
          refine ygT rfl ?_
          refine yop (pI rfl) ?_
          refine ygT rfl ?_
          refine yop (pI rfl) ?_
          refine ygT rfl ?_
          refine yop (pI rfl) ?_
          refine ygT rfl ?_
          refine yop (pAddN rfl rfl (by omega)) ?_
          refine ygT rfl ?_
          refine yop (pLt rfl rfl) ?_
          refine yp (pPickT rfl rfl) ?_
          refine ynil ?_
          refine tnorm ?_
          by_cases c2' : q < x + s
          · rw [decide_eq_true (show (q : Int) < ((x + s : Nat) : Int) from by omega)]
            refine ycondT rfl ?_
            refine yregion ?_
            refine yp pC ?_
            refine ynil ?_
            refine tnorm ?_
            have hv : (spl (zeros m) x (exs s))[q] = 120 := by
              rw [if_neg (by omega), if_pos c2'] at hg
              have : (exs s)[q - x]? = some 120 := by rw [exs, List.getElem?_replicate, if_pos (by omega)]
              rw [this] at hg
              exact Option.some.inj hg
            rw [hv]
            exact ⟨⟨rfl, rfl, rfl, rfl, rfl, rfl, rfl, rfl, rfl, rfl, trivial⟩, .of⟩
          · rw [decide_eq_false (show ¬ (q : Int) < ((x + s : Nat) : Int) from by omega)]
            refine ycondF rfl ?_
            refine yskip ?_
            refine tnorm ?_
            have hv : (spl (zeros m) x (exs s))[q] = 0 := by
              rw [if_neg (by omega), if_neg c2'] at hg
              have : (zeros m)[q]? = some 0 := by rw [zeros, List.getElem?_replicate, if_pos (by omega)]
              rw [this] at hg
              exact Option.some.inj hg
            rw [hv]
            exact ⟨⟨rfl, rfl, rfl, rfl, rfl, rfl, rfl, rfl, rfl, rfl, trivial⟩, .of⟩
        · rw [decide_eq_false (show ¬ (x : Int) ≤ (q : Int) from by omega)]
          refine ygF rfl ?_
          refine ygF rfl ?_
          refine ygF rfl ?_
          refine ygF rfl ?_
          refine ygF rfl ?_
          refine yp (pPickF rfl rfl) ?_
          refine ynil ?_
          refine tnorm ?_
          refine ycondF rfl ?_
          refine yskip ?_
          refine tnorm ?_
          have hv : (spl (zeros m) x (exs s))[q] = 0 := by
            rw [if_pos (by omega)] at hg
            have : (zeros m)[q]? = some 0 := by rw [zeros, List.getElem?_replicate, if_pos (by omega)]
            rw [this] at hg
            exact Option.some.inj hg
          rw [hv]
          exact ⟨⟨rfl, rfl, rfl, rfl, rfl, rfl, rfl, rfl, rfl, rfl, trivial⟩, .of⟩
      obtain ⟨E0, e0⟩ := has_puts hE; subst e0; clear hE
      refine yforget hJ ?_
      obtain ⟨b2, sp, fz, hz2, hae, _, hce, rfl⟩ := hL2.at' (by intro h; rw [h] at hlt; simp at hlt)
      subst hae
      refine yseq ?_
      refine yregion ?_
      refine yp (pS rfl) ?_
      refine yp (pI rfl) ?_
      refine yp (pIxN rfl rfl (by omega)) ?_
      refine ycons (yload1 (v := .int .u8 (((spl (zeros m) x (exs s))[q].toNat : Nat) : Int)) rfl ((row_cell (kk := 1) (j := 0) hlt rfl (by omega)).trans rfl) ?_)
      refine yp (pI rfl) ?_
      refine yp (pNe rfl rfl) ?_
      refine ynil ?_
      refine tnorm ?_
      rw [decide_eq_true rfl]
      refine ycondF rfl ?_
      refine yskip ?_
      refine bnorm ?_
      refine tnorm ?_
      refine yregion ?_
      refine yp (pI rfl) ?_
      refine yp (pInc rfl rfl (by omega)) ?_
      refine yp (pI rfl) ?_
      refine ynil ?_
      refine tnorm ?_
      exact ⟨q + 1, ⟨⟨rfl, rfl, rfl, rfl, rfl, rfl, rfl, rfl, rfl, trivial⟩, by omega, .of⟩, by omega⟩
    refine yexit ?_
    refine texit ?_
    refine texit ?_
    refine bexit ?_
    refine tnorm ?_
    refine yseq ?_
    refine yregion ?_
    refine yp (pB rfl) ?_
    refine yp (pNot rfl) ?_
    refine yp (pB rfl) ?_
    refine ygT rfl ?_
    refine yop (pS rfl) ?_
    refine ygT rfl ?_
    refine yb2s rfl (hL1.src (by simp)) ?_
    refine ygT rfl ?_
    refine yop (pS rfl) ?_
    refine ygT rfl ?_
    refine yb2s rfl (Src.lit (b := bb) (e := 5) (Y := exs s) (by simp) (exs_len s).symm) ?_
    refine ygT rfl ?_
    refine yop (pEqS rfl rfl) ?_
    rw [decide_eq_true rfl]
    refine yp (pPickF rfl rfl) ?_
    refine yp (pB rfl) ?_
    refine ygT rfl ?_
    refine yop (pP rfl) ?_
    refine ygT rfl ?_
    refine ycall (arWrite (S0 := []) hA 99 0 (Y := ([] : Bt)) .nil (Nat.zero_le _)) rfl rfl fun r S' h => ?_
    obtain ⟨rfl, H5, hA5, rfl⟩ := h
    rw [hp4]
    refine ygT rfl ?_
    refine yop (pEq rfl rfl) ?_
    refine yp (pPickT rfl rfl) ?_
    refine yp (pB rfl) ?_
    refine ygT rfl ?_
    refine ycall awake6 rfl rfl fun r S' h2 => ?_
    obtain ⟨rfl, rfl⟩ := h2
    refine yp (pPickT rfl rfl) ?_
    refine yp (pB rfl) ?_
    refine ynil ?_
    refine tnorm ?_
    refine yret ?_
    exact yfin (rB rfl) ⟨_, .of, rfl, rfl⟩
  · -- it does not
    rw [if_neg hf] at hp0
    have hp1 : partE (edD m none) 1 at_ (s : Int) = 1 := hp0
    have hp2 : partE (edD m none) 1 0 (m : Int) = 0 := by
      rw [ed_part (n := m) (s := m) 0 none (fun x s h => by cases h), if_pos (by omega)]
    have hp3 : partE (edD m none) 2 0 20 = 0 := rfl
    have hp4 : partE (edD m none) 99 0 ([] : Bt).length = 5 := rfl
    have hw : writeD (edD m none) 1 at_ (exs s) = edD m none := by
      unfold writeD; rw [exs_len, hp0]; rfl
    have hr1 : readB (edD m none) 1 at_ (s : Int) = [] := by
      unfold readB; rw [hp1]; rfl
    have hr2 : readB (edD m none) 1 0 (m : Int) = zeros m := by
      unfold readB; rw [hp2]
      show ((zeros m).drop 0).take m = _
      rw [List.drop_zero, List.take_of_length_le (by rw [zeros_len]; omega)]
    have hr3 : readB (edD m none) 2 0 20 = zeros 20 := rfl
    refine yexit ?_
    refine texit ?_
    refine texit ?_
    refine bexit ?_
    refine tnorm ?_
    refine ycut (fun E S => Has E [(0, .int .i64 (m : Int)), (1, .int .i64 at_), (2, .int .i64 (s : Int)), (7, .pointer (some ⟨ab, 0, none⟩)), (9, .int .i64 1), (11, .int .i64 2), (13, .slice (some ⟨bb, 0, none⟩) s s), (15, .bool false)] ∧ Junk S [[(bb, .cells (cells (exs s)).toArray 5)], H]) ?_ fun E S ⟨hE, hJ⟩ => ?_
    · refine yregion ?_
      refine yp (pI rfl) ?_
      refine yp (pGe rfl rfl) ?_
      refine yp (pB rfl) ?_
      by_cases c1 : 0 ≤ at_
      · rw [decide_eq_true c1]
        refine ygT rfl ?_
        refine yop (pI rfl) ?_
        refine ygT rfl ?_
        refine yop (pI rfl) ?_
        refine ygT rfl ?_
        refine yop (pLe rfl rfl) ?_
        refine yp (pPickT rfl rfl) ?_
        refine yp (pB rfl) ?_
        by_cases c2 : at_ ≤ (m : Int)
        · rw [decide_eq_true c2]
          refine ygT rfl ?_
          refine yop (pI rfl) ?_
          refine ygT rfl ?_
          refine yop (pI rfl) ?_
          refine ygT rfl ?_
          refine yop (pI rfl) ?_
          refine ygT rfl ?_
          refine yop (pSub rfl rfl (by omega)) ?_
          refine ygT rfl ?_
          refine yop (pLe rfl rfl) ?_
          refine yp (pPickT rfl rfl) ?_
          refine yp (pB rfl) ?_
          refine ynil ?_
          refine tnorm ?_
          rw [decide_eq_false (show ¬ (s : Int) ≤ (m : Int) - at_ from fun h => hf ⟨c1, c2, h⟩)]
          skip
          exact ⟨⟨rfl, rfl, rfl, rfl, rfl, rfl, rfl, rfl, trivial⟩, .of⟩
        · rw [decide_eq_false c2]
          refine ygF rfl ?_
          refine ygF rfl ?_
          refine ygF rfl ?_
          refine ygF rfl ?_
          refine ygF rfl ?_
          refine yp (pPickF rfl rfl) ?_
          refine yp (pB rfl) ?_
          refine ynil ?_
          refine tnorm ?_
          exact ⟨⟨rfl, rfl, rfl, rfl, rfl, rfl, rfl, rfl, trivial⟩, .of⟩
      · rw [decide_eq_false c1]
        refine ygF rfl ?_
        refine ygF rfl ?_
        refine ygF rfl ?_
        refine yp (pPickF rfl rfl) ?_
        refine yp (pB rfl) ?_
        refine ygF rfl ?_
        refine ygF rfl ?_
        refine ygF rfl ?_
        refine ygF rfl ?_
        refine ygF rfl ?_
        refine yp (pPickF rfl rfl) ?_
        refine yp (pB rfl) ?_
        refine ynil ?_
        refine tnorm ?_
        exact ⟨⟨rfl, rfl, rfl, rfl, rfl, rfl, rfl, rfl, trivial⟩, .of⟩
    obtain ⟨E0, e0⟩ := has_puts hE; subst e0; clear hE
    refine yforget hJ ?_
    refine yseq ?_
    refine yregion ?_
    refine yp (pP rfl) ?_
    refine yp (pI rfl) ?_
    refine yp (pI rfl) ?_
    refine yp (pS rfl) ?_
    refine ycons (ycall (arWrite hA 1 at_ hX (by rw [exs_len, maxLen_eq']; omega)) rfl rfl fun r S' h => ?_)
    obtain ⟨rfl, H, hA, rfl⟩ := h
    rw [exs_len, hp0]
    rw [hw] at hA
    refine yp (pI rfl) ?_
    refine ynil ?_
    refine tnorm ?_
    refine ykeep [(0, .int .i64 (m : Int)), (1, .int .i64 at_), (2, .int .i64 (s : Int)), (7, .pointer (some ⟨ab, 0, none⟩)), (9, .int .i64 1), (11, .int .i64 2), (13, .slice (some ⟨bb, 0, none⟩) s s), (15, .bool false), (16, .int .i64 1)] ⟨rfl, rfl, rfl, rfl, rfl, rfl, rfl, rfl, rfl, trivial⟩ fun E1 => ?_
    refine yseq ?_
    refine yregion ?_
    refine yp (pP rfl) ?_
    refine yp (pI rfl) ?_
    refine yp (pI rfl) ?_
    refine yp (pI rfl) ?_
    refine ycons (ycall (arRead hA 1 at_ (s : Int)) rfl rfl fun r S' h => ?_)
    obtain ⟨v1, H1, rfl, hL1, rfl⟩ := h
    rw [hp1]
    rw [hr1] at hL1
    obtain ⟨a1, c1, rfl⟩ := hL1.isSlice
    refine yp (pU rfl) ?_
    refine yp (pExt rfl rfl) ?_
    refine yp (pExt rfl rfl) ?_
    refine yp (pS rfl) ?_
    refine yp (pI rfl) ?_
    refine ynil ?_
    refine tnorm ?_
    refine yseq ?_
    refine yregion ?_
    refine yp (pP rfl) ?_
    refine yp (pI rfl) ?_
    refine yp (pI rfl) ?_
    refine ycons (ycall (arRead hA 1 0 (m : Int)) rfl rfl fun r S' h => ?_)
    obtain ⟨v2, H2, rfl, hL2, rfl⟩ := h
    rw [hp2]
    rw [hr2] at hL2
    obtain ⟨a2, c2, rfl⟩ := hL2.isSlice
    refine yp (pU rfl) ?_
    refine yp (pExt rfl rfl) ?_
    refine yp (pExt rfl rfl) ?_
    refine yp (pS rfl) ?_
    refine yp (pI rfl) ?_
    refine ynil ?_
    refine tnorm ?_
    refine yseq ?_
    refine yregion ?_
    refine yp (pP rfl) ?_
    refine yp (pI rfl) ?_
    refine ycons (ycall (arRead hA 2 0 20) rfl rfl fun r S' h => ?_)
    obtain ⟨v3, H3, rfl, hL3, rfl⟩ := h
    rw [hp3]
    rw [hr3] at hL3
    have hz20 : (zeros 20).length = 20 := zeros_len 20
    generalize hz : zeros 20 = z20 at hL3 hz20
    obtain ⟨a3, c3, rfl⟩ := hL3.isSlice
    refine yp (pU rfl) ?_
    refine yp (pExt rfl rfl) ?_
    refine yp (pExt rfl rfl) ?_
    refine yp (pS rfl) ?_
    refine yp (pI rfl) ?_
    refine ynil ?_
    refine tnorm ?_
    refine ykeep [(0, .int .i64 (m : Int)), (1, .int .i64 at_), (2, .int .i64 (s : Int)), (7, .pointer (some ⟨ab, 0, none⟩)), (9, .int .i64 1), (11, .int .i64 2), (13, .slice (some ⟨bb, 0, none⟩) s s), (15, .bool false), (16, .int .i64 1), (17, .slice a1 ([] : Bt).length c1), (18, .int .i64 1), (19, .slice a2 (zeros m).length c2), (20, .int .i64 0), (21, .slice a3 z20.length c3), (22, .int .i64 0)] ⟨rfl, rfl, rfl, rfl, rfl, rfl, rfl, rfl, rfl, rfl, rfl, rfl, rfl, rfl, rfl, trivial⟩ fun E2 => ?_
    refine ycut (fun E S => Has E [(0, .int .i64 (m : Int)), (1, .int .i64 at_), (2, .int .i64 (s : Int)), (7, .pointer (some ⟨ab, 0, none⟩)), (13, .slice (some ⟨bb, 0, none⟩) s s), (15, .bool false), (17, .slice a1 ([] : Bt).length c1), (19, .slice a2 (zeros m).length c2)] ∧ Junk S [[(bb, .cells (cells (exs s)).toArray 5)], H, H1, H2]) ?_ fun E S ⟨hE, hJ⟩ => ?_
    · refine yseq ?_
      refine ydraw ?_
      refine ytq (pI rfl) ?_
      refine ytq (pEq rfl rfl) ?_
      refine ytq (pB rfl) ?_
      refine ytq (pNeB rfl rfl) ?_
      refine ytq (pB rfl) ?_
      refine ytgT rfl ?_
      refine ytq (pI rfl) ?_
      refine ytgT rfl ?_
      refine ytq (pEq rfl rfl) ?_
      refine ytgT rfl ?_
      refine ytq (pB rfl) ?_
      refine ytgT rfl ?_
      refine ytq (pNeB rfl rfl) ?_
      refine ytq (pPickF rfl rfl) ?_
      refine ytq (pB rfl) ?_
      refine ytgT rfl ?_
      refine ytq (pB rfl) ?_
      refine ytgT rfl ?_
      refine ytq (pNot rfl) ?_
      refine ytgT rfl ?_
      refine ytq (pB rfl) ?_
      refine ytgT rfl ?_
      refine ytq (pI rfl) ?_
      refine ytgT rfl ?_
      refine ytq (pNe rfl rfl) ?_
      refine ytgT rfl ?_
      refine ytq (pB rfl) ?_
      refine ytgT rfl ?_
      refine ytq (pI rfl) ?_
      refine ytgT rfl ?_
      refine ytq (pNe rfl rfl) ?_
      refine ytgT rfl ?_
      refine ytq (pPickF rfl rfl) ?_
      refine ytgT rfl ?_
      refine ytq (pB rfl) ?_
      refine ytgT rfl ?_
      refine ytq (pS rfl) ?_
      refine ytgT rfl ?_
      refine ytq (pLen rfl) ?_
      refine ytgT rfl ?_
      refine ytq (pNe rfl rfl) ?_
      refine ytgT rfl ?_
      refine ytq (pPickF rfl rfl) ?_
      refine ytgT rfl ?_
      refine ytq (pPickT rfl rfl) ?_
      refine ytq (pPickF rfl rfl) ?_
      refine ytq (pB rfl) ?_
      refine ytgT rfl ?_
      refine ytq (pI rfl) ?_
      refine ytgT rfl ?_
      refine ytq (pNe rfl rfl) ?_
      refine ytq (pPickF rfl rfl) ?_
      refine ytq (pB rfl) ?_
      refine ytgT rfl ?_
      refine ytq (pI rfl) ?_
      refine ytgT rfl ?_
      refine ytq (pNe rfl rfl) ?_
      refine ytq (pPickF rfl rfl) ?_
      refine ytq (pB rfl) ?_
      refine ytgT rfl ?_
      refine ytq (pS rfl) ?_
      have hmk : ∀ (K : Env → Segs → Prop) (E : Env) (S : Segs) (d : Option Tmp), (∀ b, K (putE d (.slice (some ⟨b, 0, none⟩) 20 20) E) ([(b, .cells (cells z20).toArray 5)] :: S)) → YO Try.prog none 206 d (.mksl 5 1 1 [(.int .u8 0)] (.const (.int .i64 20)) (.const (.int .i64 20))) K E S := fun K E S d hK => by
        refine ymksl (m := 20) (cap := 20) rfl rfl (Nat.le_refl _) rfl (by omega) (by omega) fun b2 => ?_
        rw [replicate_cells (z := [.int .u8 0]) 20 (0 : UInt8) rfl, show List.replicate 20 (0 : UInt8) = z20 from hz]
        exact hK b2
      refine ytaltT rfl (ytalt (yb2s rfl (hL3.src (by simp)) ?_) ytno) (ytaltT rfl (ytalt (hmk _ _ _ _ fun b2 => ?_) ytno) ytno)
      · refine ytaltT rfl (ytalt (hmk _ _ _ _ fun b2 => ?_) ytno) ytno
        refine ytaltT rfl (ytalt (yb2s rfl (Src.lit (b := b2) (e := 5) (Y := z20) (by simp) hz20.symm) ?_) ytno) ytno
        refine ytgT rfl ?_
        refine ytq (pNeS rfl rfl) ?_
        rw [decide_eq_true rfl]
        refine ytq (pPickF rfl rfl) ?_
        refine ytq (pB rfl) ?_
        refine ytgT rfl ?_
        refine ytq (pS rfl) ?_
        refine ytgT rfl ?_
        refine ytq (pLen rfl) ?_
        refine ytgT rfl ?_
        refine ytq (pI rfl) ?_
        refine ytgT rfl ?_
        refine ytq (pNe rfl rfl) ?_
        refine ytq (pPickF rfl rfl) ?_
        refine ytdone ?_
        refine tnorm ?_
        refine ycondN rfl (fun hne => absurd (congrArg (fun k : Nat => (k : Int)) (zeros_len m)) hne) (fun _ => ?_)
        refine yskip ?_
        refine tnorm ?_
        exact ⟨⟨rfl, rfl, rfl, rfl, rfl, rfl, rfl, rfl, trivial⟩, .of⟩
      · refine ytaltT rfl (ytalt (yb2s rfl (hL3.src (by simp)) ?_) ytno) (ytaltT rfl (ytalt (yb2s rfl (Src.lit (b := b2) (e := 5) (Y := z20) (by simp) hz20.symm) ?_) ytno) ytno)
        · refine ytaltT rfl (ytalt (yb2s rfl (Src.lit (b := b2) (e := 5) (Y := z20) (by simp) hz20.symm) ?_) ytno) ytno
          refine ytgT rfl ?_
          refine ytq (pNeS rfl rfl) ?_
          rw [decide_eq_true rfl]
          refine ytq (pPickF rfl rfl) ?_
          refine ytq (pB rfl) ?_
          refine ytgT rfl ?_
          refine ytq (pS rfl) ?_
          refine ytgT rfl ?_
          refine ytq (pLen rfl) ?_
          refine ytgT rfl ?_
          refine ytq (pI rfl) ?_
          refine ytgT rfl ?_
          refine ytq (pNe rfl rfl) ?_
          refine ytq (pPickF rfl rfl) ?_
          refine ytdone ?_
          refine tnorm ?_
          refine ycondN rfl (fun hne => absurd (congrArg (fun k : Nat => (k : Int)) (zeros_len m)) hne) (fun _ => ?_)
          refine yskip ?_
          refine tnorm ?_
          exact ⟨⟨rfl, rfl, rfl, rfl, rfl, rfl, rfl, rfl, trivial⟩, .of⟩
        · refine ytaltT rfl (ytalt (yb2s rfl (hL3.src (by simp)) ?_) ytno) ytno
          refine ytgT rfl ?_
          refine ytq (pNeS rfl rfl) ?_
          rw [decide_eq_true rfl]
          refine ytq (pPickF rfl rfl) ?_
          refine ytq (pB rfl) ?_
          refine ytgT rfl ?_
          refine ytq (pS rfl) ?_
          refine ytgT rfl ?_
          refine ytq (pLen rfl) ?_
          refine ytgT rfl ?_
          refine ytq (pI rfl) ?_
          refine ytgT rfl ?_
          refine ytq (pNe rfl rfl) ?_
          refine ytq (pPickF rfl rfl) ?_
          refine ytdone ?_
          refine tnorm ?_
          refine ycondN rfl (fun hne => absurd (congrArg (fun k : Nat => (k : Int)) (zeros_len m)) hne) (fun _ => ?_)
          refine yskip ?_
          refine tnorm ?_
          exact ⟨⟨rfl, rfl, rfl, rfl, rfl, rfl, rfl, rfl, trivial⟩, .of⟩
    obtain ⟨E0, e0⟩ := has_puts hE; subst e0; clear hE
    refine yforget hJ ?_
    refine yseq ?_
    refine yseq ?_
    refine yregion ?_
    refine yp pC ?_
    refine ynil ?_
    refine tnorm ?_
    refine yblock ?_
    refine yloop (σ := Nat) (fun q E S => Has E [(0, .int .i64 (m : Int)), (1, .int .i64 at_), (2, .int .i64 (s : Int)), (7, .pointer (some ⟨ab, 0, none⟩)), (13, .slice (some ⟨bb, 0, none⟩) s s), (15, .bool false), (17, .slice a1 ([] : Bt).length c1), (19, .slice a2 (zeros m).length c2), (23, .int .i64 (q : Int))] ∧ q ≤ m ∧ Junk S [[(bb, .cells (cells (exs s)).toArray 5)], H, H1, H2]) (fun q => m - q) 0 ⟨⟨rfl, rfl, rfl, rfl, rfl, rfl, rfl, rfl, rfl, trivial⟩, Nat.zero_le _, .of⟩ fun q E S ⟨hE, hq, hJ⟩ => ?_
    obtain ⟨E0, e0⟩ := has_puts hE; subst e0; clear hE
    refine yforget hJ ?_
    refine yseq ?_
    refine yseq ?_
    refine yregion ?_
    refine yp (pI rfl) ?_
    refine yp (pI rfl) ?_
    refine yp (pLt rfl rfl) ?_
    refine ynil ?_
    refine tnorm ?_
    refine ycondD rfl (fun h => ?_) (fun h => ?_)
    · have hlt : q < (zeros m).length := by rw [(zeros_len m)]; omega
      refine yskip ?_
      refine tnorm ?_
      refine yseq ?_
      refine yblock ?_
      refine yseq ?_
      refine yregion ?_
      refine yp pC ?_
      refine ynil ?_
      refine tnorm ?_
      refine ycut (fun E S => Has E [(0, .int .i64 (m : Int)), (1, .int .i64 at_), (2, .int .i64 (s : Int)), (7, .pointer (some ⟨ab, 0, none⟩)), (13, .slice (some ⟨bb, 0, none⟩) s s), (15, .bool false), (17, .slice a1 ([] : Bt).length c1), (19, .slice a2 (zeros m).length c2), (23, .int .i64 (q : Int)), (24, .int .u8 (((zeros m)[q].toNat : Nat) : Int))] ∧ Junk S [[(bb, .cells (cells (exs s)).toArray 5)], H, H1, H2]) ?_ fun E S ⟨hE, hJ⟩ => ?_
      · have hv : (zeros m)[q] = 0 := by simp [zeros]
        refine yseq ?_
        refine yregion ?_
        refine yp (pB rfl) ?_
        refine yp (pB rfl) ?_
        refine ygF rfl ?_
        refine ygF rfl ?_
        refine ygF rfl ?_
        refine yp (pPickF rfl rfl) ?_
        refine yp (pB rfl) ?_
        refine ygF rfl ?_
        refine ygF rfl ?_
        refine ygF rfl ?_
        refine ygF rfl ?_
        refine ygF rfl ?_
        refine yp (pPickF rfl rfl) ?_
        refine ynil ?_
        refine tnorm ?_
        refine ycondF rfl ?_
        refine yskip ?_
        refine tnorm ?_
        rw [hv]
        exact ⟨⟨rfl, rfl, rfl, rfl, rfl, rfl, rfl, rfl, rfl, rfl, trivial⟩, .of⟩
      obtain ⟨E0, e0⟩ := has_puts hE; subst e0; clear hE
      refine yforget hJ ?_
      obtain ⟨b2, sp, fz, hz2, hae, _, hce, rfl⟩ := hL2.at' (by intro h; rw [h] at hlt; simp at hlt)
      subst hae
      refine yseq ?_
      refine yregion ?_
      refine yp (pS rfl) ?_
      refine yp (pI rfl) ?_
      refine yp (pIxN rfl rfl (by omega)) ?_
      refine ycons (yload1 (v := .int .u8 (((zeros m)[q].toNat : Nat) : Int)) rfl ((row_cell (kk := 1) (j := 0) hlt rfl (by omega)).trans rfl) ?_)
      refine yp (pI rfl) ?_
      refine yp (pNe rfl rfl) ?_
      refine ynil ?_
      refine tnorm ?_
      rw [decide_eq_true rfl]
      refine ycondF rfl ?_
      refine yskip ?_
      refine bnorm ?_
      refine tnorm ?_
      refine yregion ?_
      refine yp (pI rfl) ?_
      refine yp (pInc rfl rfl (by omega)) ?_
      refine yp (pI rfl) ?_
      refine ynil ?_
      refine tnorm ?_
      exact ⟨q + 1, ⟨⟨rfl, rfl, rfl, rfl, rfl, rfl, rfl, rfl, rfl, trivial⟩, by omega, .of⟩, by omega⟩
    refine yexit ?_
    refine texit ?_
    refine texit ?_
    refine bexit ?_
    refine tnorm ?_
    refine yseq ?_
    refine yregion ?_
    refine yp (pB rfl) ?_
    refine yp (pNot rfl) ?_
    refine yp (pB rfl) ?_
    refine ygF rfl ?_
    refine ygF rfl ?_
    refine ygF rfl ?_
    refine ygF rfl ?_
    refine ygF rfl ?_
    refine yp (pPickT rfl rfl) ?_
    refine yp (pB rfl) ?_
    refine ygT rfl ?_
    refine yop (pP rfl) ?_
    refine ygT rfl ?_
    refine ycall (arWrite (S0 := []) hA 99 0 (Y := ([] : Bt)) .nil (Nat.zero_le _)) rfl rfl fun r S' h => ?_
    obtain ⟨rfl, H5, hA5, rfl⟩ := h
    rw [hp4]
    refine ygT rfl ?_
    refine yop (pEq rfl rfl) ?_
    refine yp (pPickT rfl rfl) ?_
    refine yp (pB rfl) ?_
    refine ygT rfl ?_
    refine ycall awake6 rfl rfl fun r S' h2 => ?_
    obtain ⟨rfl, rfl⟩ := h2
    refine yp (pPickT rfl rfl) ?_
    refine yp (pB rfl) ?_
    refine ynil ?_
    refine tnorm ?_
    refine yret ?_
    exact yfin (rB rfl) ⟨_, .of, rfl, rfl⟩
end Go.Proofs.Ytkdbajfaaifkaaa
