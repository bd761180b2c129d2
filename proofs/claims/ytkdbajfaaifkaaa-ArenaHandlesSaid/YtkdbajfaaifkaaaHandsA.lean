/- ArenaHandles: what it computes. -/
import Derived.Test.YtkdbajfaaifkaaaArenaL
import Derived.Test.YtkdbajfaaifkaaaAlk
namespace Go.Proofs.Ytkdbajfaaifkaaa
open Go.Xs
open Enc (enc)

structure HI (n : Nat) (D : List (Option Bt)) (I : List Bool) : Prop where
  dl : D.length = n
  il : I.length = 33
  is : ∀ i : Nat, i < 33 → I[i]? = some (getB D (i : Int)).isSome
  w : ∀ (i : Nat) (b : Bt), D[i]? = some (some b) → costN b.length = 16
theorem used_cnt : ∀ (D : List (Option Bt)), (∀ (i : Nat) (b : Bt), D[i]? = some (some b) → costN b.length = 16) → usedD D = 16 * D.countP Option.isSome
  | [], _ => rfl
  | o :: D, h => by
    have ih := used_cnt D fun i b hi => h (i + 1) b (by simpa using hi)
    cases o with
    | none => rw [usedD_cons, ih]; simp [wgt]
    | some b =>
      have := h 0 b rfl
      rw [usedD_cons, ih]
      simp [wgt, this]; omega
theorem getB_zero (D : List (Option Bt)) : getB D 0 = none := rfl
theorem HI.free {n k : Nat} {D : List (Option Bt)} {I : List Bool} (h : HI n D I) (hk : 1 ≤ k) (hk2 : k ≤ n) (_hn : n ≤ 30) : HI n (freeD D (k : Int)) (I.set k false) ∧ (getB (freeD D (k : Int)) (k : Int)) = none := by
  obtain ⟨j, rfl⟩ : ∃ j, k = j + 1 := ⟨k - 1, by omega⟩
  have e1 : (((j + 1 : Nat) : Int) - 1).toNat = j := by omega
  have e2 : ∀ D : List (Option Bt), getB D ((j + 1 : Nat) : Int) = (D[j]?).join := fun D => getB_idx D j
  have hl := h.dl
  have hnone : getB (freeD D ((j + 1 : Nat) : Int)) ((j + 1 : Nat) : Int) = none := by
    unfold freeD
    split
    · rw [e1, e2, List.getElem?_set_self (by omega)]; rfl
    · next hc => simpa using hc
  refine ⟨⟨?_, by rw [List.length_set]; exact h.il, fun i hi => ?_, fun i b hi => ?_⟩, hnone⟩
  · unfold freeD; split <;> simp [hl]
  · rw [List.getElem?_set]
    split
    · next hij =>
      subst hij
      rw [hnone, h.il, if_pos hi]; rfl
    · next hij =>
      rw [h.is i hi]
      congr 2
      unfold freeD
      split
      · cases i with
        | zero => rfl
        | succ i => rw [e1, show ((i + 1 : Nat) : Int) = (i : Int) + 1 from by omega, getB_idx, getB_idx, List.getElem?_set_ne (by omega)]
      · rfl
  · unfold freeD at hi
    split at hi
    · rw [e1, List.getElem?_set] at hi
      split at hi
      · split at hi <;> cases hi
      · exact h.w i b hi
    · exact h.w i b hi
theorem HI.alloc {n : Nat} {D : List (Option Bt)} {I : List Bool} (h : HI n D I) (hh : hnd D ≤ n) (_hn : n ≤ 30) : HI n (allocD D 5) (I.set (hnd D) true) := by
  have hp := hnd_pos D
  have hl := h.dl
  obtain ⟨j, hj⟩ : ∃ j, hnd D = j + 1 := ⟨hnd D - 1, by omega⟩
  have ea : allocD D 5 = D.set j (some (zeros 5)) := by
    unfold allocD
    rw [if_pos (by omega), hj, Nat.add_sub_cancel]
  rw [ea, hj]
  refine ⟨by simp [hl], by rw [List.length_set]; exact h.il, fun i hi => ?_, fun i b hi => ?_⟩
  · rw [List.getElem?_set]
    split
    · next hij =>
      subst hij
      rw [h.il, if_pos hi, show ((j + 1 : Nat) : Int) = (j : Int) + 1 from by omega, getB_idx, List.getElem?_set_self (by omega)]; rfl
    · next hij =>
      rw [h.is i hi]
      congr 2
      cases i with
      | zero => rfl
      | succ i => rw [show ((i + 1 : Nat) : Int) = (i : Int) + 1 from by omega, getB_idx, getB_idx, List.getElem?_set_ne (by omega)]
  · rw [List.getElem?_set] at hi
    split at hi
    · split at hi
      · obtain rfl : zeros 5 = b := by simpa using hi
        decide
      · cases hi
    · exact h.w i b hi
theorem hnd_le_of_none {D : List (Option Bt)} {k : Nat} (hk : 1 ≤ k) (h : getB D (k : Int) = none) : hnd D ≤ k := by
  refine Classical.byContradiction fun hc => ?_
  obtain ⟨b, hb⟩ := hnd_some D (k - 1) (by omega)
  obtain ⟨j, rfl⟩ : ∃ j, k = j + 1 := ⟨k - 1, by omega⟩
  rw [show ((j + 1 : Nat) : Int) = (j : Int) + 1 from by omega, getB_idx] at h
  rw [Nat.add_sub_cancel] at hb
  rw [hb] at h; cases h
theorem cnt_le {n : Nat} {D : List (Option Bt)} {I : List Bool} (h : HI n D I) : usedD D ≤ 16 * n := by
  rw [used_cnt D h.w]
  have := List.countP_le_length (p := Option.isSome) (l := D)
  have := h.dl
  omega
def ones (i : Nat) : List (Option Bt) := List.replicate i (some (zeros 1))
theorem ones_hnd : ∀ i, hnd (ones i) = i + 1
  | 0 => rfl
  | i + 1 => by
    have := ones_hnd i
    unfold ones at this ⊢
    rw [List.replicate_succ, hnd, this]
theorem ones_used (i : Nat) : usedD (ones i) = 16 * i := by
  induction i with
  | zero => rfl
  | succ i ih =>
    unfold ones at ih ⊢
    rw [List.replicate_succ, usedD_cons, ih]
    simp [wgt, zeros, costN]; omega
theorem ones_alloc (i : Nat) : allocD (ones i) 1 = ones (i + 1) := by
  unfold allocD
  rw [ones_hnd, if_neg (by simp [ones])]
  simp [ones, List.replicate_succ']
set_option maxRecDepth 10000 in
set_option maxHeartbeats 1000000 in
theorem c7 {S : Segs} (n : Int) {v : Value} {G : List Int} (hG : Src S v G) (_hm : G.length ≤ maxLen) (_hq : ∀ a ∈ G, -9223372036854775808 ≤ a ∧ a ≤ 9223372036854775807) : Tri Try.prog 7 #[.int .i64 n, v] S (fun r S' => r = .bool true ∧ S' = S) := by
  refine Tri.forget (ycallee Try.fx7 (Nat.le_of_ble_eq_true rfl) ?_)
  unfold Try.x7
  obtain ⟨ga, gc, rfl⟩ := hG.isSlice
  refine yseq ?_
  refine yregion ?_
  refine yp pC ?_
  refine ynil ?_
  refine tnorm ?_
  refine ycutQ (fun E S' => Has E [(0, .int .i64 n), (1, .slice ga G.length gc)] ∧ (1 ≤ n ∧ n ≤ 30 ∧ G.length ≤ 20) ∧ Junk S' S) ?_ fun E S' ⟨hE, hn, hJ⟩ => ?_
  · refine yseq ?_
    refine yregion ?_
    refine yp (pI rfl) ?_
    refine yp (pLt rfl rfl) ?_
    refine yp (pB rfl) ?_
    by_cases c1 : n < 1
    · rw [decide_eq_true c1]
      refine ygF rfl ?_
      refine ygF rfl ?_
      refine yp (pPickT rfl rfl) ?_
      refine yp (pB rfl) ?_
      refine ygF rfl ?_
      refine ygF rfl ?_
      refine ygF rfl ?_
      refine yp (pPickT rfl rfl) ?_
      refine ynil ?_
      refine tnorm ?_
      refine ycondT rfl ?_
      refine yseq ?_
      refine yregion ?_
      refine ycons (ycall awake6 rfl rfl fun r S' h => ?_)
      obtain ⟨rfl, rfl⟩ := h
      refine yp (pB rfl) ?_
      refine ynil ?_
      refine tnorm ?_
      refine yret ?_
      refine tret ?_
      exact yfin (rB rfl) ⟨_, .of, rfl, rfl⟩
    rw [decide_eq_false c1]
    refine ygT rfl ?_
    refine yop (pI rfl) ?_
    refine ygT rfl ?_
    refine yop (pGt rfl rfl) ?_
    refine yp (pPickF rfl rfl) ?_
    refine yp (pB rfl) ?_
    by_cases c2 : 30 < n
    · rw [decide_eq_true c2]
      refine ygF rfl ?_
      refine ygF rfl ?_
      refine ygF rfl ?_
      refine yp (pPickT rfl rfl) ?_
      refine ynil ?_
      refine tnorm ?_
      refine ycondT rfl ?_
      refine yseq ?_
      refine yregion ?_
      refine ycons (ycall awake6 rfl rfl fun r S' h => ?_)
      obtain ⟨rfl, rfl⟩ := h
      refine yp (pB rfl) ?_
      refine ynil ?_
      refine tnorm ?_
      refine yret ?_
      refine tret ?_
      exact yfin (rB rfl) ⟨_, .of, rfl, rfl⟩
    rw [decide_eq_false c2]
    refine ygT rfl ?_
    refine yop (pS rfl) ?_
    refine ygT rfl ?_
    refine yop (pLen rfl) ?_
    refine ygT rfl ?_
    refine yop (pGt rfl rfl) ?_
    refine yp (pPickF rfl rfl) ?_
    refine ynil ?_
    refine tnorm ?_
    by_cases c3 : (20 : Int) < (G.length : Int)
    · rw [decide_eq_true c3]
      refine ycondT rfl ?_
      refine yseq ?_
      refine yregion ?_
      refine ycons (ycall awake6 rfl rfl fun r S' h => ?_)
      obtain ⟨rfl, rfl⟩ := h
      refine yp (pB rfl) ?_
      refine ynil ?_
      refine tnorm ?_
      refine yret ?_
      refine tret ?_
      exact yfin (rB rfl) ⟨_, .of, rfl, rfl⟩
    rw [decide_eq_false c3]
    refine ycondF rfl ?_
    refine yskip ?_
    refine tnorm ?_
    exact ⟨⟨rfl, rfl, trivial⟩, by omega, .of⟩
  obtain ⟨m, rfl⟩ := Int.eq_ofNat_of_zero_le (show 0 ≤ n from by omega)
  have hm1 : 1 ≤ m := by omega
  have hm2 : m ≤ 30 := by omega
  have hG20 := hn.2.2
  clear hn
  obtain ⟨E0, e0⟩ := has_puts hE; subst e0; clear hE
  refine yforget hJ ?_
  refine yseq ?_
  refine yregion ?_
  refine ycons (ycall (arNewA (n := 1024) (by decide) rfl) rfl rfl fun r S' h => ?_)
  obtain ⟨ab, H, rfl, hA, rfl⟩ := h
  refine yp (pU rfl) ?_
  refine yp (pExt rfl rfl) ?_
  refine yp (pExt rfl rfl) ?_
  refine yp (pP rfl) ?_
  refine yp (pI rfl) ?_
  refine ynil ?_
  refine tnorm ?_
  refine yseq ?_
  refine yseq ?_
  refine yregion ?_
  refine yp (pI rfl) ?_
  refine yp (pNe rfl rfl) ?_
  refine yp (pB rfl) ?_
  refine ygT rfl ?_
  refine yop (pP rfl) ?_
  refine ygT rfl ?_
  refine yop (pNilP rfl rfl) ?_
  refine yp (pPickF rfl rfl) ?_
  refine ynil ?_
  refine tnorm ?_
  refine ycondF rfl ?_
  refine yskip ?_
  refine tnorm ?_
  refine yseq ?_
  refine yregion ?_
  refine ycons (ymksl (m := 33) (cap := 33) rfl rfl (Nat.le_refl _) rfl (by omega) (by omega) fun bi => ?_)
  rw [replicate_cells (z := [.bool false]) 33 false rfl]
  refine yp (pS rfl) ?_
  refine ynil ?_
  refine tnorm ?_
  refine yseq ?_
  refine yseq ?_
  refine yregion ?_
  refine yp pC ?_
  refine ynil ?_
  refine tnorm ?_
  refine yblock ?_
  refine yloop (σ := Nat) (fun i E S' => Has E [(0, .int .i64 (m : Int)), (1, .slice ga G.length gc), (5, .pointer (some ⟨ab, 0, none⟩)), (7, .slice (some ⟨bi, 0, none⟩) 33 33), (8, .int .i64 (i : Int))] ∧ 1 ≤ i ∧ i ≤ m + 1 ∧ ∃ (I : List Bool) (H : List Chunk), I.length = 33 ∧ (∀ j, j < 33 → I[j]? = some (decide (1 ≤ j ∧ j < i))) ∧ Ar ab 1024 (ones (i - 1)) H ∧ Junk S' ([(bi, .cells (cells I).toArray 4)] :: H :: S)) (fun i => m + 1 - i) 1
    ⟨⟨rfl, rfl, rfl, rfl, rfl, trivial⟩, Nat.le_refl _, by omega, List.replicate 33 false, H, by simp, fun j hj => by rw [List.getElem?_replicate, if_pos hj, decide_eq_false (by omega)], hA, .of⟩ fun i E S' ⟨hE, hi, hi2, I, H, hIl, hI, hA, hJ⟩ => ?_
  obtain ⟨E0, e0⟩ := has_puts hE; subst e0; clear hE
  refine yforget hJ ?_
  refine yseq ?_
  refine yseq ?_
  refine yregion ?_
  refine yp (pI rfl) ?_
  refine yp (pI rfl) ?_
  refine yp (pLe rfl rfl) ?_
  refine ynil ?_
  refine tnorm ?_
  refine ycondD rfl (fun h => ?_) (fun h => ?_)
  · have hh : hnd (ones (i - 1)) = i := by rw [ones_hnd]; omega
    refine yskip ?_
    refine tnorm ?_
    refine yseq ?_
    refine yblock ?_
    refine yseq ?_
    refine yregion ?_
    refine yp (pP rfl) ?_
    refine ycons (ycall (arAllocOk hA (m := 1) rfl ?_) rfl rfl fun r S' h => ?_)
    · unfold allocE
      rw [show cost ((1 : Nat) : Int) = 16 from by decide +kernel, if_neg (by decide), ones_used, if_neg (by omega)]
    obtain ⟨rfl, H, hA, rfl⟩ := h
    rw [ones_alloc, show i - 1 + 1 = i + 1 - 1 from by omega] at hA
    rw [hh]
    refine yp (pU rfl) ?_
    refine yp (pExt rfl rfl) ?_
    refine yp (pExt rfl rfl) ?_
    refine yp (pI rfl) ?_
    refine yp (pI rfl) ?_
    refine ynil ?_
    refine tnorm ?_
    refine yseq ?_
    refine yseq ?_
    refine yregion ?_
    refine yp (pI rfl) ?_
    refine yp (pNe rfl rfl) ?_
    refine yp (pB rfl) ?_
    refine ygT rfl ?_
    refine yop (pI rfl) ?_
    refine ygT rfl ?_
    refine yop (pI rfl) ?_
    refine ygT rfl ?_
    refine yop (pNe rfl rfl) ?_
    refine yp (pPickF rfl rfl) ?_
    refine ynil ?_
    refine tnorm ?_
    rw [decide_eq_true rfl]
    refine ycondF rfl ?_
    refine yskip ?_
    refine tnorm ?_
    refine yregion ?_
    refine yp (pS rfl) ?_
    refine yp (pI rfl) ?_
    refine yp (pIxN rfl rfl (by omega)) ?_
    refine ycons (ystoreE (M := I) (y := true) rfl (by omega) rfl rfl (.inl rfl) ?_)
    refine ynil ?_
    refine bnorm ?_
    refine tnorm ?_
    refine yregion ?_
    refine yp (pI rfl) ?_
    refine yp (pInc rfl rfl (by omega)) ?_
    refine yp (pI rfl) ?_
    refine ynil ?_
    refine tnorm ?_
    refine ⟨i + 1, ⟨⟨rfl, rfl, rfl, rfl, rfl, trivial⟩, by omega, by omega, I.set i true, H, by simpa using hIl, fun j hj => ?_, hA, .of⟩, by omega⟩
    rw [List.getElem?_set]
    split
    · next hij => rw [hIl, if_pos (by omega), decide_eq_true (by omega)]
    · rw [hI j hj]; congr 1; rw [decide_eq_decide]; omega
  have hi3 : i = m + 1 := by omega
  subst hi3
  rw [Nat.add_sub_cancel] at hA
  have hHI : HI m (ones m) I := by
    refine ⟨by simp [ones], hIl, fun j hj => ?_, fun j b hb => ?_⟩
    · rw [hI j hj]
      cases j with
      | zero => rfl
      | succ j =>
        rw [show ((j + 1 : Nat) : Int) = (j : Int) + 1 from by omega, getB_idx, ones, List.getElem?_replicate]
        by_cases hjm : j < m
        · rw [if_pos hjm, decide_eq_true (by omega)]; rfl
        · rw [if_neg hjm, decide_eq_false (by omega)]; rfl
    · rw [ones, List.getElem?_replicate] at hb
      split at hb
      · obtain rfl : zeros 1 = b := by simpa using hb
        decide
      · cases hb
  generalize ones m = D at hA hHI
  clear hI hIl
  refine yexit ?_
  refine texit ?_
  refine texit ?_
  refine bexit ?_
  refine tnorm ?_
  refine yseq ?_
  refine yseq ?_
  refine yregion ?_
  refine yp pC ?_
  refine ynil ?_
  refine tnorm ?_
  refine yblock ?_
  refine yloop (σ := Nat) (fun i E S' => Has E [(0, .int .i64 (m : Int)), (1, .slice ga G.length gc), (5, .pointer (some ⟨ab, 0, none⟩)), (7, .slice (some ⟨bi, 0, none⟩) 33 33), (11, .int .i64 (i : Int))] ∧ i ≤ G.length ∧ ∃ (I : List Bool) (D : List (Option Bt)) (H : List Chunk), HI m D I ∧ Ar ab 1024 D H ∧ Junk S' ([(bi, .cells (cells I).toArray 4)] :: H :: S)) (fun i => G.length - i) 0
    ⟨⟨rfl, rfl, rfl, rfl, rfl, trivial⟩, Nat.zero_le _, I, D, H, hHI, hA, .of⟩ fun i E S' ⟨hE, hi, I, D, H, hHI, hA, hJ⟩ => ?_
  obtain ⟨E0, e0⟩ := has_puts hE; subst e0; clear hE
  refine yforget hJ ?_
  refine yseq ?_
  refine yseq ?_
  refine yregion ?_
  refine yp (pI rfl) ?_
  refine yp (pS rfl) ?_
  refine yp (pLen rfl) ?_
  refine yp (pLt rfl rfl) ?_
  refine ynil ?_
  refine tnorm ?_
  refine ycondD rfl (fun h => ?_) (fun h => ?_)
  · have hlt : i < G.length := by omega
    obtain ⟨b, o, ca, ty, fz, rfl, hm', hmem, hg, _⟩ := hG.get (by intro h; simp [h] at hlt)
    have hg0 := hg i 0 hlt (by decide)
    generalize G[i] = t at hg0
    refine yskip ?_
    refine tnorm ?_
    refine yseq ?_
    refine yblock ?_
    refine yseq ?_
    refine yregion ?_
    refine yp (pS rfl) ?_
    refine yp (pI rfl) ?_
    refine yp (pIxN rfl rfl (by omega)) ?_
    refine ycons (yloadM (S := [(bi, .cells (cells I).toArray 4)] :: H :: S) (v := .int .i64 t) (by repeat (first | exact hmem | apply List.mem_cons_of_mem)) rfl hg0 ?_)
    refine yp (pI rfl) ?_
    refine ycons (ycall (cRound t (m : Int) (by omega)) rfl rfl fun r S' h => ?_)
    obtain ⟨rfl, rfl⟩ := h
    have hr := round_lt t (m : Int) (by omega)
    generalize round t (m : Int) = k0 at hr
    obtain ⟨k, rfl⟩ := Int.eq_ofNat_of_zero_le hr.1
    obtain ⟨hF, hFn⟩ := hHI.free (k := k + 1) (by omega) (by omega) hm2
    have hIk := hHI.is (k + 1) (by omega)
    refine yp (pAddN (j := 1) (k := k) rfl rfl (by omega)) ?_
    rw [show 1 + k = k + 1 from by omega]
    have hIl := hHI.il
    refine yp (pI rfl) ?_
    refine ynil ?_
    refine tnorm ?_
    refine yseq ?_
    refine yseq ?_
    refine ydrawR (R := [[(bi, .cells (cells I).toArray 4)]]) (by simp) ?_
    refine ytq (pP rfl) ?_
    refine ytq (pI rfl) ?_
    refine ytq (pS rfl) ?_
    refine ytq (pI rfl) ?_
    refine ytq (pIxN rfl rfl (by omega)) ?_
    refine ytl1 rfl (boolAt hIk) ?_
    refine ytaltC (ycall (arFree hA ((k + 1 : Nat) : Int)) rfl rfl fun r S' h => ?_) ytno
    obtain ⟨rfl, H2, hA2, rfl⟩ := h
    refine ⟨by simp, ?_⟩
    have hfe : decide (freeR D ((k + 1 : Nat) : Int) = 0) = (getB D ((k + 1 : Nat) : Int)).isSome := by
      unfold freeR
      cases (getB D ((k + 1 : Nat) : Int)).isSome <;> rfl
    refine ytq (pEq rfl rfl) ?_
    refine ytq (pNeB rfl rfl) ?_
    refine ytdone ?_
    refine tnorm ?_
    rw [hfe]
    generalize (getB D ((k + 1 : Nat) : Int)).isSome = bb
    rw [show (!(bb == bb)) = false from by simp]
    refine ycondF rfl ?_
    refine yskip ?_
    refine tnorm ?_
    refine yseq ?_
    refine yregion ?_
    refine yp (pS rfl) ?_
    refine yp (pI rfl) ?_
    refine yp (pIxN rfl rfl (by omega)) ?_
    refine ycons (ystoreE (M := I) (y := false) rfl (by omega) rfl rfl (.inl rfl) ?_)
    refine ynil ?_
    refine tnorm ?_
    refine yseq ?_
    refine yseq ?_
    refine yregion ?_
    refine yp (pI rfl) ?_
    refine yp (pRem rfl rfl (by decide)) ?_
    refine yp (pEq rfl rfl) ?_
    refine ynil ?_
    refine tnorm ?_
    refine ycondD rfl (fun h2 => ?_) (fun h2 => ?_)
    · refine yexit ?_
      refine texit ?_
      refine bexit ?_
      refine tnorm ?_
      refine yregion ?_
      refine yp (pI rfl) ?_
      refine yp (pInc rfl rfl (by omega)) ?_
      refine yp (pI rfl) ?_
      refine ynil ?_
      refine tnorm ?_
      exact ⟨i + 1, ⟨⟨rfl, rfl, rfl, rfl, rfl, trivial⟩, by omega, I.set (k + 1) false, _, H2, hF, hA2, .of⟩, by omega⟩
    have hw := hnd_le_of_none (k := k + 1) (by omega) hFn
    have hal := hF.alloc (by omega) hm2
    have hul := cnt_le hF
    generalize freeD D ((k + 1 : Nat) : Int) = D2 at hF hA2 hw hal hul
    generalize hI2 : I.set (k + 1) false = I2 at hF hal
    have hhp := hnd_pos D2
    refine yskip ?_
    refine tnorm ?_
    refine yseq ?_
    refine yregion ?_
    refine yp pC ?_
    refine ynil ?_
    refine tnorm ?_
    refine ykeep [(0, .int .i64 (m : Int)), (1, .slice (some ⟨b, o, none⟩) G.length gc), (5, .pointer (some ⟨ab, 0, none⟩)), (7, .slice (some ⟨bi, 0, none⟩) 33 33), (11, .int .i64 (i : Int)), (13, .int .i64 1)] ⟨rfl, rfl, rfl, rfl, rfl, rfl, trivial⟩ fun E0 => ?_
    refine ycut (fun E S' => Has E [(0, .int .i64 (m : Int)), (1, .slice (some ⟨b, o, none⟩) G.length gc), (5, .pointer (some ⟨ab, 0, none⟩)), (7, .slice (some ⟨bi, 0, none⟩) 33 33), (11, .int .i64 (i : Int)), (13, .int .i64 ((hnd D2 : Nat) : Int))] ∧ Junk S' ([(bi, .cells (cells I2).toArray 4)] :: H2 :: S)) ?_ fun E S' ⟨hE, hJ⟩ => ?_
    · refine yblock ?_
      refine yloop (σ := Nat) (fun w E S' => Has E [(0, .int .i64 (m : Int)), (1, .slice (some ⟨b, o, none⟩) G.length gc), (5, .pointer (some ⟨ab, 0, none⟩)), (7, .slice (some ⟨bi, 0, none⟩) 33 33), (11, .int .i64 (i : Int)), (13, .int .i64 (w : Int))] ∧ 1 ≤ w ∧ w ≤ hnd D2 ∧ Junk S' ([(bi, .cells (cells I2).toArray 4)] :: H2 :: S)) (fun w => hnd D2 - w) 1 ⟨⟨rfl, rfl, rfl, rfl, rfl, rfl, trivial⟩, Nat.le_refl _, hhp, by rw [← hI2]; exact .of⟩ fun w E S' ⟨hE, hw1, hw2, hJ⟩ => ?_
      have hIw := hF.is w (by omega)
      have hI2l := hF.il
      obtain ⟨w', hw'⟩ : ∃ w', w = w' + 1 := ⟨w - 1, by omega⟩
      have hgw : getB D2 (w : Int) = (D2[w']?).join := by rw [hw', show ((w' + 1 : Nat) : Int) = (w' : Int) + 1 from by omega, getB_idx]
      obtain ⟨E0, e0⟩ := has_puts hE; subst e0; clear hE
      refine yforget hJ ?_
      refine yseq ?_
      refine yseq ?_
      refine yregion ?_
      refine yp (pS rfl) ?_
      refine yp (pI rfl) ?_
      refine yp (pIxN rfl rfl (by omega)) ?_
      refine ycons (yload1 rfl (boolAt hIw) ?_)
      by_cases hwh : w < hnd D2
      · obtain ⟨c, hc⟩ := hnd_some D2 w' (by omega)
        rw [hgw, hc]
        refine ynil ?_
        refine tnorm ?_
        refine ycondT rfl ?_
        refine yskip ?_
        refine tnorm ?_
        refine yblock ?_
        refine yregion ?_
        refine yp (pI rfl) ?_
        refine yp (pInc rfl rfl (by omega)) ?_
        refine yp (pI rfl) ?_
        refine ynil ?_
        refine bnorm ?_
        refine tnorm ?_
        exact ⟨w + 1, ⟨⟨rfl, rfl, rfl, rfl, rfl, rfl, trivial⟩, by omega, by omega, .of⟩, by omega⟩
      · have hwe : w = hnd D2 := by omega
        have hno := hnd_none D2
        rw [← hwe, show w - 1 = w' from by omega] at hno
        rw [hgw, hno]
        refine ynil ?_
        refine tnorm ?_
        refine ycondF rfl ?_
        refine yexit ?_
        refine texit ?_
        refine texit ?_
        refine bexit ?_
        refine tnorm ?_
        rw [← hwe]
        exact ⟨⟨rfl, rfl, rfl, rfl, rfl, rfl, trivial⟩, .of⟩
    have hI2l := hF.il
    obtain ⟨E0, e0⟩ := has_puts hE; subst e0; clear hE
    refine yforget hJ ?_
    refine yseq ?_
    refine yregion ?_
    refine yp (pP rfl) ?_
    refine ycons (ycall (arAllocOk hA2 (m := 5) rfl ?_) rfl rfl fun r S' h => ?_)
    · unfold allocE
      rw [show cost ((5 : Nat) : Int) = 16 from by decide +kernel, if_neg (by decide), if_neg (by omega)]
    obtain ⟨rfl, H3, hA3, rfl⟩ := h
    refine yp (pU rfl) ?_
    refine yp (pExt rfl rfl) ?_
    refine yp (pExt rfl rfl) ?_
    refine yp (pI rfl) ?_
    refine yp (pI rfl) ?_
    refine ynil ?_
    refine tnorm ?_
    refine yseq ?_
    refine yseq ?_
    refine yregion ?_
    refine yp (pI rfl) ?_
    refine yp (pNe rfl rfl) ?_
    refine yp (pB rfl) ?_
    refine ygT rfl ?_
    refine yop (pI rfl) ?_
    refine ygT rfl ?_
    refine yop (pI rfl) ?_
    refine ygT rfl ?_
    refine yop (pNe rfl rfl) ?_
    refine yp (pPickF rfl rfl) ?_
    refine ynil ?_
    refine tnorm ?_
    rw [decide_eq_true rfl]
    refine ycondF rfl ?_
    refine yskip ?_
    refine tnorm ?_
    refine yregion ?_
    refine yp (pS rfl) ?_
    refine yp (pI rfl) ?_
    refine yp (pIxN rfl rfl (by omega)) ?_
    refine ycons (ystoreE (M := I2) (y := true) rfl (by omega) rfl rfl (.inl rfl) ?_)
    refine ynil ?_
    refine bnorm ?_
    refine tnorm ?_
    refine yregion ?_
    refine yp (pI rfl) ?_
    refine yp (pInc rfl rfl (by omega)) ?_
    refine yp (pI rfl) ?_
    refine ynil ?_
    refine tnorm ?_
    exact ⟨i + 1, ⟨⟨rfl, rfl, rfl, rfl, rfl, trivial⟩, by omega, _, _, H3, hal, hA3, .of⟩, by omega⟩
  have hIl := hHI.il
  have hdl := hHI.dl
  refine yexit ?_
  refine texit ?_
  refine texit ?_
  refine bexit ?_
  refine tnorm ?_
  refine yseq ?_
  refine yregion ?_
  refine yp pC ?_
  refine ynil ?_
  refine tnorm ?_
  refine yseq ?_
  refine yseq ?_
  refine yregion ?_
  refine yp pC ?_
  refine ynil ?_
  refine tnorm ?_
  refine yblock ?_
  refine yloop (σ := Nat) (fun j E S' => Has E [(5, .pointer (some ⟨ab, 0, none⟩)), (7, .slice (some ⟨bi, 0, none⟩) 33 33), (16, .int .i64 (((D.take (j - 1)).countP Option.isSome : Nat) : Int)), (17, .int .i64 (j : Int))] ∧ 1 ≤ j ∧ j ≤ 33 ∧ Junk S' ([(bi, .cells (cells I).toArray 4)] :: H :: S)) (fun j => 33 - j) 1 ⟨⟨rfl, rfl, rfl, rfl, trivial⟩, Nat.le_refl _, by decide, .of⟩ fun j E S' ⟨hE, hj1, hj2, hJ⟩ => ?_
  obtain ⟨j', hj'⟩ : ∃ j', j = j' + 1 := ⟨j - 1, by omega⟩
  have hgj : getB D (j : Int) = (D[j']?).join := by rw [hj', show ((j' + 1 : Nat) : Int) = (j' : Int) + 1 from by omega, getB_idx]
  have hcl := List.countP_le_length (p := Option.isSome) (l := D.take (j - 1))
  rw [List.length_take] at hcl
  obtain ⟨E0, e0⟩ := has_puts hE; subst e0; clear hE
  refine yforget hJ ?_
  refine yseq ?_
  refine yseq ?_
  refine yregion ?_
  refine yp (pI rfl) ?_
  refine yp (pLt rfl rfl) ?_
  refine ynil ?_
  refine tnorm ?_
  refine ycondD rfl (fun h2 => ?_) (fun h2 => ?_)
  · have hIj := hHI.is j (by omega)
    refine yskip ?_
    refine tnorm ?_
    refine yseq ?_
    refine yblock ?_
    refine yseq ?_
    refine yregion ?_
    refine yp (pP rfl) ?_
    refine yp (pI rfl) ?_
    refine ycons (ycall (arSize hA (j : Int)) rfl rfl fun r S' h => ?_)
    obtain ⟨rfl, rfl⟩ := h
    have hsz : (sizeR D (j : Int)).2 = (getB D (j : Int)).isSome := by
      unfold sizeR
      cases getB D (j : Int) <;> rfl
    have hcnt : ((D.take j).countP Option.isSome : Nat) = (D.take (j - 1)).countP Option.isSome + (if (getB D (j : Int)).isSome then 1 else 0) := by
      rw [hgj, hj', Nat.add_sub_cancel, List.take_add_one, List.countP_append]
      congr 1
      cases D[j']? with
      | none => rfl
      | some x => cases x <;> rfl
    rw [hsz]
    generalize hbb : (getB D (j : Int)).isSome = bb at hIj hcnt
    refine yp (pU rfl) ?_
    refine yp (pExt rfl rfl) ?_
    refine yp (pExt rfl rfl) ?_
    refine yp (pI rfl) ?_
    refine yp (pB rfl) ?_
    refine ynil ?_
    refine tnorm ?_
    refine yseq ?_
    refine yseq ?_
    refine yregion ?_
    refine yp (pB rfl) ?_
    refine yp (pS rfl) ?_
    refine yp (pI rfl) ?_
    refine yp (pIxN rfl rfl (by omega)) ?_
    refine ycons (yload1 rfl (boolAt hIj) ?_)
    refine yp (pNeB rfl rfl) ?_
    rw [show (!(bb == bb)) = false from by simp]
    refine ynil ?_
    refine tnorm ?_
    refine ycondF rfl ?_
    refine yskip ?_
    refine tnorm ?_
    refine yseq ?_
    refine yregion ?_
    refine yp (pB rfl) ?_
    refine ynil ?_
    refine tnorm ?_
    cases bb with
    | true =>
      refine ycondT rfl ?_
      refine yregion ?_
      refine yp (pI rfl) ?_
      refine yp (pInc rfl rfl (by omega)) ?_
      refine yp (pI rfl) ?_
      refine ynil ?_
      refine bnorm ?_
      refine tnorm ?_
      refine yregion ?_
      refine yp (pI rfl) ?_
      refine yp (pInc rfl rfl (by omega)) ?_
      refine yp (pI rfl) ?_
      refine ynil ?_
      refine tnorm ?_
      exact ⟨j + 1, ⟨⟨rfl, rfl, congrArg (Value.int .i64) (by rw [Nat.add_sub_cancel, hcnt]; simp), rfl, trivial⟩, by omega, by omega, .of⟩, by omega⟩
    | false =>
      refine ycondF rfl ?_
      refine yskip ?_
      refine bnorm ?_
      refine tnorm ?_
      refine yregion ?_
      refine yp (pI rfl) ?_
      refine yp (pInc rfl rfl (by omega)) ?_
      refine yp (pI rfl) ?_
      refine ynil ?_
      refine tnorm ?_
      exact ⟨j + 1, ⟨⟨rfl, rfl, congrArg (Value.int .i64) (by rw [Nat.add_sub_cancel, hcnt]; simp), rfl, trivial⟩, by omega, by omega, .of⟩, by omega⟩
  have hj33 : j = 33 := by omega
  have hu := used_cnt D hHI.w
  rw [hj33, List.take_of_length_le (by omega)]
  refine yexit ?_
  refine texit ?_
  refine texit ?_
  refine bexit ?_
  refine tnorm ?_
  refine yseq ?_
  refine yregion ?_
  refine yp (pP rfl) ?_
  refine ycons (ycall (arUsedA hA) rfl rfl fun r S' h => ?_)
  obtain ⟨rfl, rfl⟩ := h
  rw [hu]
  refine yp (pI rfl) ?_
  refine yp (pMulN (j := 16) (k := D.countP Option.isSome) rfl rfl (by have := List.countP_le_length (p := Option.isSome) (l := D); omega)) ?_
  refine yp (pEq rfl rfl) ?_
  refine yp (pB rfl) ?_
  rw [decide_eq_true rfl]
  refine ygT rfl ?_
  refine ycall awake6 rfl rfl fun r S' h2 => ?_
  obtain ⟨rfl, rfl⟩ := h2
  refine yp (pPickT rfl rfl) ?_
  refine yp (pB rfl) ?_
  refine ynil ?_
  refine tnorm ?_
  refine yret ?_
  exact yfin (rB rfl) ⟨_, .of, rfl, rfl⟩
end Go.Proofs.Ytkdbajfaaifkaaa
