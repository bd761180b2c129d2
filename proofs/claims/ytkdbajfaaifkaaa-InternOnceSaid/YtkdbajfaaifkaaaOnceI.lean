/- InternOnce: what it computes. -/
import Derived.Test.YtkdbajfaaifkaaaI1
namespace Go.Proofs.Ytkdbajfaaifkaaa
open Go.Xs
open Enc (enc)

/-- one name, so often -/
def oneL (n : Bs) (k : Nat) : List Nm := if k = 0 then [] else [⟨1, n, k⟩]
theorem oneL_len (n : Bs) (k : Nat) : (oneL n (k + 1)).length = 1 := by unfold oneL; rw [if_neg (by omega)]; rfl
theorem oneL_by (n : Bs) (k : Nat) : byI (oneL n (k + 1)) 1 = some ⟨1, n, k + 1⟩ := by
  unfold oneL; rw [if_neg (by omega)]; rfl
theorem oneL_u {n : Bs} {k : Nat} (h : k < 100) : ∀ e ∈ oneL n k, e.u + 1 < 2 ^ 60 := fun e he => by
  unfold oneL at he
  split at he
  · simp at he
  · rw [List.mem_singleton.1 he]; show k + 1 < 2 ^ 60; omega
theorem oneL_pos {n : Bs} {k : Nat} : Pos (oneL n k) := fun e he => by
  unfold oneL at he
  split at he
  · simp at he
  · rw [List.mem_singleton.1 he]; show 1 ≤ k; omega
theorem oneL_byN {n : Bs} {k : Nat} : byN (oneL n k) n = if k = 0 then none else some ⟨1, n, k⟩ := by
  by_cases hk : k = 0
  · subst hk; rfl
  · unfold oneL
    rw [if_neg hk, if_neg hk]
    unfold byN nixN
    rw [if_pos rfl]; rfl
theorem oneL_add {D : List (Option Bt)} {n : Bs} {k : Nat} (hD : k = 0 → D = []) : addL D (oneL n k) n = oneL n (k + 1) ∧ addI D (oneL n k) n = 1 := by
  cases k with
  | zero => rw [hD rfl]; exact ⟨rfl, rfl⟩
  | succ k =>
    have h := oneL_byN (n := n) (k := k + 1)
    rw [if_neg (by omega)] at h
    obtain ⟨j, h1, h2, _⟩ := byN_some h
    refine ⟨?_, ?_⟩
    · unfold addL; rw [h1]; simp only [h2]
      have : oneL n (k + 1) = [⟨1, n, k + 1⟩] := by unfold oneL; rw [if_neg (by omega)]
      rw [this] at h2 ⊢
      have hj : j = 0 := by have := (List.getElem?_eq_some_iff.1 h2).1; simp at this; omega
      subst hj
      unfold oneL reuse; rw [if_neg (by omega)]; rfl
    · unfold addI; rw [h]; rfl
theorem oneL_drop {n : Bs} {k : Nat} : dropL (oneL n (k + 1)) 1 = oneL n k ∧ dropR (oneL n (k + 1)) 1 = 0 := by
  have hb := oneL_by n k
  refine ⟨?_, by unfold dropR; rw [hb]; rfl⟩
  have : oneL n (k + 1) = [⟨1, n, k + 1⟩] := by unfold oneL; rw [if_neg (by omega)]
  rw [this]
  show (if k + 1 = 1 then _ else _) = _
  unfold oneL
  cases k with
  | zero => rfl
  | succ k => rw [if_neg (by omega), if_neg (by omega)]; rfl
set_option maxRecDepth 10000 in
set_option maxHeartbeats 2000000 in
theorem c10 (n : ByteArray) (uses : Int) : Tri Try.prog 10 #[.string n, .int .i64 uses] [] (fun r S => r = .bool true ∧ S = []) := by
  obtain ⟨Y, rfl⟩ : ∃ Y : Bs, n = ⟨Y.toArray⟩ := ⟨n.data.toList, rfl⟩
  refine Tri.forget (ycallee Try.fx10 (Nat.le_of_ble_eq_true rfl) ?_)
  unfold Try.x10
  refine yseq ?_
  refine yregion ?_
  refine yp pC ?_
  refine ynil ?_
  refine tnorm ?_
  refine ycutQ (fun E S => Has E [(0, sv Y), (1, .int .i64 uses)] ∧ (Y.length ≤ 255 ∧ vld Y = true ∧ 1 ≤ uses ∧ uses ≤ 30) ∧ Junk S []) ?_ fun E S ⟨hE, ⟨hY, hv, hu1, hu2⟩, hJ⟩ => ?_
  · refine yseq ?_
    refine yregion ?_
    refine yp (pT rfl) ?_
    refine yp (pLenS rfl) ?_
    refine yp (pGt rfl rfl) ?_
    refine yp (pB rfl) ?_
    rw [szS]
    by_cases c1 : 255 < (Y.length : Int)
    · rw [decide_eq_true c1]
      refine ygF rfl ?_
      refine ygF rfl ?_
      refine ygF rfl ?_
      refine yp (pPickT rfl rfl) ?_
      refine yp (pB rfl) ?_
      refine ygF rfl ?_
      refine ygF rfl ?_
      refine yp (pPickT rfl rfl) ?_
      refine yp (pB rfl) ?_
      refine ygF rfl ?_
      refine ygF rfl ?_
      refine yp (pPickT rfl rfl) ?_
      refine ynil ?_
      refine tnorm ?_
      refine ycondT rfl ?_
      refine yseq ?_
      refine yregion ?_
      refine ycons (ycall awake7 rfl rfl fun r S' h => ?_)
      obtain ⟨rfl, rfl⟩ := h
      refine yp (pB rfl) ?_
      refine ynil ?_
      refine tnorm ?_
      refine yret ?_
      refine tret ?_
      exact yfin (rB rfl) ⟨_, .of, rfl, rfl⟩
    rw [decide_eq_false c1]
    refine ygT rfl ?_
    refine yop (pT rfl) ?_
    refine ygT rfl ?_
    refine ycall (rnValid Y (by omega)) rfl rfl fun r S' h => ?_
    obtain ⟨rfl, rfl⟩ := h
    cases hv : vld Y with
    | false =>
      refine ygT rfl ?_
      refine yop (pNot rfl) ?_
      refine yp (pPickF rfl rfl) ?_
      refine yp (pB rfl) ?_
      refine ygF rfl ?_
      refine ygF rfl ?_
      refine yp (pPickT rfl rfl) ?_
      refine yp (pB rfl) ?_
      refine ygF rfl ?_
      refine ygF rfl ?_
      refine yp (pPickT rfl rfl) ?_
      refine ynil ?_
      refine tnorm ?_
      refine ycondT rfl ?_
      refine yseq ?_
      refine yregion ?_
      refine ycons (ycall awake7 rfl rfl fun r S' h => ?_)
      obtain ⟨rfl, rfl⟩ := h
      refine yp (pB rfl) ?_
      refine ynil ?_
      refine tnorm ?_
      refine yret ?_
      refine tret ?_
      exact yfin (rB rfl) ⟨_, .of, rfl, rfl⟩
    | true =>
    refine ygT rfl ?_
    refine yop (pNot rfl) ?_
    refine yp (pPickF rfl rfl) ?_
    refine yp (pB rfl) ?_
    refine ygT rfl ?_
    refine yop (pI rfl) ?_
    refine ygT rfl ?_
    refine yop (pLt rfl rfl) ?_
    refine yp (pPickF rfl rfl) ?_
    refine yp (pB rfl) ?_
    by_cases c2 : uses < 1
    · rw [decide_eq_true c2]
      refine ygF rfl ?_
      refine ygF rfl ?_
      refine yp (pPickT rfl rfl) ?_
      refine ynil ?_
      refine tnorm ?_
      refine ycondT rfl ?_
      refine yseq ?_
      refine yregion ?_
      refine ycons (ycall awake7 rfl rfl fun r S' h => ?_)
      obtain ⟨rfl, rfl⟩ := h
      refine yp (pB rfl) ?_
      refine ynil ?_
      refine tnorm ?_
      refine yret ?_
      refine tret ?_
      exact yfin (rB rfl) ⟨_, .of, rfl, rfl⟩
    rw [decide_eq_false c2]
    refine ygT rfl ?_
    refine yop (pI rfl) ?_
    refine ygT rfl ?_
    refine yop (pGt rfl rfl) ?_
    refine yp (pPickF rfl rfl) ?_
    refine ynil ?_
    refine tnorm ?_
    by_cases c3 : 30 < uses
    · rw [decide_eq_true c3]
      refine ycondT rfl ?_
      refine yseq ?_
      refine yregion ?_
      refine ycons (ycall awake7 rfl rfl fun r S' h => ?_)
      obtain ⟨rfl, rfl⟩ := h
      refine yp (pB rfl) ?_
      refine ynil ?_
      refine tnorm ?_
      refine yret ?_
      refine tret ?_
      exact yfin (rB rfl) ⟨_, .of, rfl, rfl⟩
    rw [decide_eq_false c3]
    refine ycondF rfl ?_
    refine yskip ?_
    refine tnorm ?_
    exact ⟨⟨rfl, rfl, trivial⟩, ⟨by omega, rfl, by omega, by omega⟩, .of⟩
  obtain ⟨m, rfl⟩ := Int.eq_ofNat_of_zero_le (show 0 ≤ uses from by omega)
  have hfl := foldB_len Y
  have hY2 : Y.length < 2 ^ 62 := by omega
  obtain ⟨hvf, hff⟩ := foldB_vld hv
  have hcst : cost ((Y.length : Int) + 8) = (costN (8 + Y.length) : Nat) := by unfold cost; rw [if_neg (by omega)]; congr 2; omega
  have hcb := (costN_is (8 + Y.length) (by omega)).2
  have hcl : costN (8 + Y.length) ≤ 512 := by
    unfold costN
    repeat' split
    all_goals omega
  obtain ⟨E0, e0⟩ := has_puts hE; subst e0; clear hE
  refine yforget hJ ?_
  refine yseq ?_
  refine yregion ?_
  refine ycons (ycall (arNewA (n := 4096) (by decide) rfl) rfl rfl fun r S' h => ?_)
  obtain ⟨ab, H, rfl, hA, rfl⟩ := h
  refine yp (pU rfl) ?_
  refine yp (pExt rfl rfl) ?_
  refine yp (pExt rfl rfl) ?_
  refine yp (pP rfl) ?_
  refine yp (pI rfl) ?_
  refine ynil ?_
  refine tnorm ?_
  refine yseq ?_
  refine yregion ?_
  refine yp (pP rfl) ?_
  refine ycons (ycall (tbNew (ab := ab)) rfl rfl fun r S' h => ?_)
  obtain ⟨tb, T, rfl, hT, rfl⟩ := h
  refine yp (pP rfl) ?_
  refine ynil ?_
  refine tnorm ?_
  refine yseq ?_
  refine yseq ?_
  refine yregion ?_
  refine yp (pI rfl) ?_
  refine yp (pNe rfl rfl) ?_
  refine yp (pB rfl) ?_
  refine ygT rfl ?_
  refine yop (pP rfl) ?_
  refine ygT rfl ?_
  refine yop (pNilP rfl rfl) ?_
  refine yp (pPickF rfl rfl) ?_
  refine ynil ?_
  refine tnorm ?_
  refine ycondF rfl ?_
  refine yskip ?_
  refine tnorm ?_
  refine yseq ?_
  refine yregion ?_
  refine yp pC ?_
  refine ynil ?_
  refine tnorm ?_
  refine ycut (fun E S => ∃ (D : List (Option Bt)) (H T : List Chunk), Has E [(0, sv Y), (1, .int .i64 (m : Int)), (5, .pointer (some ⟨ab, 0, none⟩)), (7, .pointer (some ⟨tb, 0, none⟩)), (8, .int .i64 1)] ∧ Tb tb ab (oneL (foldB Y) m) T ∧ Ar ab 4096 D H ∧ Inn D (oneL (foldB Y) m) ∧ Junk S [T, H]) ?_ fun E S ⟨D, H, T, hE, hT, hA, hI, hJ⟩ => ?_
  · refine yseq ?_
    refine yregion ?_
    refine yp pC ?_
    refine ynil ?_
    refine tnorm ?_
    refine yblock ?_
    refine yloop (σ := Nat) (fun i E S => ∃ (D : List (Option Bt)) (H T : List Chunk), Has E [(0, sv Y), (1, .int .i64 (m : Int)), (5, .pointer (some ⟨ab, 0, none⟩)), (7, .pointer (some ⟨tb, 0, none⟩)), (8, .int .i64 (if i = 0 then 0 else 1)), (9, .int .i64 (i : Int))] ∧ i ≤ m ∧ (i = 0 → D = []) ∧ Tb tb ab (oneL (foldB Y) i) T ∧ Ar ab 4096 D H ∧ Inn D (oneL (foldB Y) i) ∧ Junk S [T, H]) (fun i => m - i) 0
      ⟨[], H, T, ⟨rfl, rfl, rfl, rfl, rfl, rfl, trivial⟩, Nat.zero_le _, fun _ => rfl, hT, hA, .nil, .of⟩ fun i E S ⟨D, H, T, hE, hi, hD0, hT, hA, hI, hJ⟩ => ?_
    obtain ⟨E0, e0⟩ := has_puts hE; subst e0; clear hE
    refine yforget hJ ?_
    refine yseq ?_
    refine yseq ?_
    refine yregion ?_
    refine yp (pI rfl) ?_
    refine yp (pI rfl) ?_
    refine yp (pLt rfl rfl) ?_
    refine ynil ?_
    refine tnorm ?_
    refine ycondD rfl (fun h => ?_) (fun h => ?_)
    · have hlt : i < m := by omega
      refine yskip ?_
      refine tnorm ?_
      refine yseq ?_
      refine yblock ?_
      refine yseq ?_
      refine yregion ?_
      refine yp (pT rfl) ?_
      refine yp (pT rfl) ?_
      refine ynil ?_
      refine tnorm ?_
      refine ycut (fun E S => ∃ Z : Bs, Has E [(0, sv Y), (1, .int .i64 (m : Int)), (5, .pointer (some ⟨ab, 0, none⟩)), (7, .pointer (some ⟨tb, 0, none⟩)), (8, .int .i64 (if i = 0 then 0 else 1)), (9, .int .i64 (i : Int)), (10, sv Z)] ∧ (vld Z = true ∧ foldB Z = foldB Y ∧ Z.length = Y.length) ∧ Junk S [T, H]) ?_ fun E S ⟨Z, hE, ⟨hvZ, hfZ, hlZ⟩, hJ⟩ => ?_
      · refine yseq ?_
        refine yregion ?_
        refine yp (pI rfl) ?_
        refine yp (pRem rfl rfl (by decide)) ?_
        refine yp (pEq rfl rfl) ?_
        refine ynil ?_
        refine tnorm ?_
        refine ycondD rfl (fun h2 => ?_) (fun h2 => ?_)
        · refine yregion ?_
          refine yp (pT rfl) ?_
          refine ycons (ycall (rnFold Y hY2) rfl rfl fun r S' h => ?_)
          obtain ⟨rfl, rfl⟩ := h
          refine yp (pT rfl) ?_
          refine ynil ?_
          refine tnorm ?_
          exact ⟨foldB Y, ⟨rfl, rfl, rfl, rfl, rfl, rfl, rfl, trivial⟩, ⟨hvf, hff, hfl⟩, .of⟩
        · refine yskip ?_
          refine tnorm ?_
          exact ⟨Y, ⟨rfl, rfl, rfl, rfl, rfl, rfl, rfl, trivial⟩, ⟨hv, rfl, rfl⟩, .of⟩
      have hE0 : addE 4096 D (oneL (foldB Y) i) Z = 0 := by
        unfold addE
        rw [if_neg (by rw [hvZ]; decide), hfZ, oneL_byN]
        by_cases hi0 : i = 0
        · rw [if_pos hi0, if_neg (by decide), hD0 hi0, hlZ]
          unfold allocE
          rw [show (8 : Int) + (Y.length : Int) = (Y.length : Int) + 8 from by omega, hcst, if_neg (by omega), if_neg (by show ¬ ((4096 : Nat) : Int) - ((0 : Nat) : Int) < _; omega)]
        · rw [if_neg hi0]; rfl
      obtain ⟨E0, e0⟩ := has_puts hE; subst e0; clear hE
      refine yforget hJ ?_
      refine yseq ?_
      refine yregion ?_
      refine yp (pP rfl) ?_
      refine yp (pT rfl) ?_
      refine ycons (ycall (tbAddOk hT hA hI (oneL_u (by omega)) Z (by omega) hE0) rfl rfl fun r S' h => ?_)
      obtain ⟨rfl, T2, H2, D2, hT2, hA2, hI2, _, rfl⟩ := h
      obtain ⟨ea, ei⟩ := oneL_add (n := foldB Y) hD0
      rw [hfZ, ea] at hT2 hI2
      rw [hfZ, ei]
      have hus : usedD D2 = costN (8 + Y.length) := by
        rw [hI2.used]; unfold oneL; rw [if_neg (by omega)]; simp [hfl]
      refine yp (pU rfl) ?_
      refine yp (pExt rfl rfl) ?_
      refine yp (pExt rfl rfl) ?_
      refine yp (pI rfl) ?_
      refine yp (pI rfl) ?_
      refine ynil ?_
      refine tnorm ?_
      refine yseq ?_
      refine yseq ?_
      refine yregion ?_
      refine yp (pI rfl) ?_
      refine yp (pNe rfl rfl) ?_
      refine yp (pB rfl) ?_
      refine ygT rfl ?_
      refine yop (pI rfl) ?_
      refine ygT rfl ?_
      refine yop (pGt rfl rfl) ?_
      refine ygT rfl ?_
      refine yop (pB rfl) ?_
      by_cases h0 : (0 : Int) < (i : Int)
      · rw [decide_eq_true h0, if_neg (show ¬ i = 0 from by omega)]
        refine ygT rfl ?_
        refine yop (pI rfl) ?_
        refine ygT rfl ?_
        refine yop (pI rfl) ?_
        refine ygT rfl ?_
        refine yop (pNe rfl rfl) ?_
        refine ygT rfl ?_
        refine yop (pPickT rfl rfl) ?_
        refine yp (pPickF rfl rfl) ?_
        refine yp (pB rfl) ?_
        refine ygT rfl ?_
        refine yop (pP rfl) ?_
        refine ygT rfl ?_
        refine yop (pI rfl) ?_
        refine ygT rfl ?_
        refine ycall (tbUses hT2 hA2 hI2 1) rfl rfl fun r S' h => ?_
        obtain ⟨rfl, rfl⟩ := h
        rw [oneL_by]
        refine ygT rfl ?_
        refine yop (pI rfl) ?_
        refine ygT rfl ?_
        refine yop (pInc rfl rfl (by omega)) ?_
        refine ygT rfl ?_
        refine yop (pNe rfl rfl) ?_
        refine yp (pPickF rfl rfl) ?_
        refine yp (pB rfl) ?_
        rw [decide_eq_true (show (((Option.map (fun x : Nm => x.u) (some ⟨1, foldB Y, i + 1⟩)).getD 0 : Nat) : Int) = ((i + 1 : Nat) : Int) from rfl)]
        refine ygT rfl ?_
        refine yop (pP rfl) ?_
        refine ygT rfl ?_
        refine ycall (tbCount hT2) rfl rfl fun r S' h => ?_
        obtain ⟨rfl, rfl⟩ := h
        rw [oneL_len]
        refine ygT rfl ?_
        refine yop (pNe rfl rfl) ?_
        refine yp (pPickF rfl rfl) ?_
        refine yp (pB rfl) ?_
        refine ygT rfl ?_
        refine yop (pP rfl) ?_
        refine ygT rfl ?_
        refine ycall (arUsedA hA2) rfl rfl fun r S' h => ?_
        obtain ⟨rfl, rfl⟩ := h
        rw [hus]
        refine ygT rfl ?_
        refine yop (pT rfl) ?_
        refine ygT rfl ?_
        refine yop (pLenS rfl) ?_
        refine ygT rfl ?_
        rw [szS]
        refine yop (pAdd rfl rfl (by omega)) ?_
        refine ygT rfl ?_
        refine ycall (arCost ((Y.length : Int) + 8)) rfl rfl fun r S' h => ?_
        obtain ⟨rfl, rfl⟩ := h
        rw [hcst]
        refine ygT rfl ?_
        refine yop (pNe rfl rfl) ?_
        refine yp (pPickF rfl rfl) ?_
        refine ynil ?_
        refine tnorm ?_
        rw [decide_eq_true rfl]
        refine ycondF rfl ?_
        refine yskip ?_
        refine tnorm ?_
        refine yregion ?_
        refine yp (pI rfl) ?_
        refine yp (pI rfl) ?_
        refine ynil ?_
        refine bnorm ?_
        refine tnorm ?_
        refine yregion ?_
        refine yp (pI rfl) ?_
        refine yp (pInc rfl rfl (by omega)) ?_
        refine yp (pI rfl) ?_
        refine ynil ?_
        refine tnorm ?_
        exact ⟨i + 1, ⟨D2, H2, T2, ⟨rfl, rfl, rfl, rfl, (by show _ = Value.int .i64 (if i + 1 = 0 then 0 else 1); rw [if_neg (show ¬ i + 1 = 0 from by omega)]; rfl), rfl, trivial⟩, by omega, (fun h : i + 1 = 0 => by omega), hT2, hA2, hI2, .of⟩, by omega⟩
      · rw [decide_eq_false h0]
        refine ygF rfl ?_
        refine ygF rfl ?_
        refine ygF rfl ?_
        refine ygT rfl ?_
        refine yop (pPickF rfl rfl) ?_
        refine yp (pPickF rfl rfl) ?_
        refine yp (pB rfl) ?_
        refine ygT rfl ?_
        refine yop (pP rfl) ?_
        refine ygT rfl ?_
        refine yop (pI rfl) ?_
        refine ygT rfl ?_
        refine ycall (tbUses hT2 hA2 hI2 1) rfl rfl fun r S' h => ?_
        obtain ⟨rfl, rfl⟩ := h
        rw [oneL_by]
        refine ygT rfl ?_
        refine yop (pI rfl) ?_
        refine ygT rfl ?_
        refine yop (pInc rfl rfl (by omega)) ?_
        refine ygT rfl ?_
        refine yop (pNe rfl rfl) ?_
        refine yp (pPickF rfl rfl) ?_
        refine yp (pB rfl) ?_
        rw [decide_eq_true (show (((Option.map (fun x : Nm => x.u) (some ⟨1, foldB Y, i + 1⟩)).getD 0 : Nat) : Int) = ((i + 1 : Nat) : Int) from rfl)]
        refine ygT rfl ?_
        refine yop (pP rfl) ?_
        refine ygT rfl ?_
        refine ycall (tbCount hT2) rfl rfl fun r S' h => ?_
        obtain ⟨rfl, rfl⟩ := h
        rw [oneL_len]
        refine ygT rfl ?_
        refine yop (pNe rfl rfl) ?_
        refine yp (pPickF rfl rfl) ?_
        refine yp (pB rfl) ?_
        refine ygT rfl ?_
        refine yop (pP rfl) ?_
        refine ygT rfl ?_
        refine ycall (arUsedA hA2) rfl rfl fun r S' h => ?_
        obtain ⟨rfl, rfl⟩ := h
        rw [hus]
        refine ygT rfl ?_
        refine yop (pT rfl) ?_
        refine ygT rfl ?_
        refine yop (pLenS rfl) ?_
        refine ygT rfl ?_
        rw [szS]
        refine yop (pAdd rfl rfl (by omega)) ?_
        refine ygT rfl ?_
        refine ycall (arCost ((Y.length : Int) + 8)) rfl rfl fun r S' h => ?_
        obtain ⟨rfl, rfl⟩ := h
        rw [hcst]
        refine ygT rfl ?_
        refine yop (pNe rfl rfl) ?_
        refine yp (pPickF rfl rfl) ?_
        refine ynil ?_
        refine tnorm ?_
        rw [decide_eq_true rfl]
        refine ycondF rfl ?_
        refine yskip ?_
        refine tnorm ?_
        refine yregion ?_
        refine yp (pI rfl) ?_
        refine yp (pI rfl) ?_
        refine ynil ?_
        refine bnorm ?_
        refine tnorm ?_
        refine yregion ?_
        refine yp (pI rfl) ?_
        refine yp (pInc rfl rfl (by omega)) ?_
        refine yp (pI rfl) ?_
        refine ynil ?_
        refine tnorm ?_
        exact ⟨i + 1, ⟨D2, H2, T2, ⟨rfl, rfl, rfl, rfl, (by show _ = Value.int .i64 (if i + 1 = 0 then 0 else 1); rw [if_neg (show ¬ i + 1 = 0 from by omega)]; rfl), rfl, trivial⟩, by omega, (fun h : i + 1 = 0 => by omega), hT2, hA2, hI2, .of⟩, by omega⟩
    · have him : i = m := by omega
      subst him
      refine yexit ?_
      refine texit ?_
      refine texit ?_
      refine bexit ?_
      refine tnorm ?_
      exact ⟨D, H, T, ⟨rfl, rfl, rfl, rfl, (by show Value.int .i64 (if i = 0 then 0 else 1) = _; rw [if_neg (by omega)]), trivial⟩, hT, hA, hI, .of⟩
  obtain ⟨E0, e0⟩ := has_puts hE; subst e0; clear hE
  refine yforget hJ ?_
  refine ycut (fun E S => ∃ (D : List (Option Bt)) (H T : List Chunk), Has E [(0, sv Y), (5, .pointer (some ⟨ab, 0, none⟩)), (7, .pointer (some ⟨tb, 0, none⟩)), (8, .int .i64 1)] ∧ Tb tb ab [] T ∧ Ar ab 4096 D H ∧ Inn D [] ∧ Junk S [T, H]) ?_ fun E S ⟨D, H, T, hE, hT, hA, hI, hJ⟩ => ?_
  · refine yseq ?_
    refine yregion ?_
    refine yp pC ?_
    refine ynil ?_
    refine tnorm ?_
    refine yblock ?_
    refine yloop (σ := Nat) (fun i E S => ∃ (D : List (Option Bt)) (H T : List Chunk), Has E [(0, sv Y), (1, .int .i64 (m : Int)), (5, .pointer (some ⟨ab, 0, none⟩)), (7, .pointer (some ⟨tb, 0, none⟩)), (8, .int .i64 1), (13, .int .i64 (i : Int))] ∧ i ≤ m ∧ Tb tb ab (oneL (foldB Y) (m - i)) T ∧ Ar ab 4096 D H ∧ Inn D (oneL (foldB Y) (m - i)) ∧ Junk S [T, H]) (fun i => m - i) 0
      ⟨D, H, T, ⟨rfl, rfl, rfl, rfl, rfl, rfl, trivial⟩, Nat.zero_le _, hT, hA, hI, .of⟩ fun i E S ⟨D, H, T, hE, hi, hT, hA, hI, hJ⟩ => ?_
    obtain ⟨E0, e0⟩ := has_puts hE; subst e0; clear hE
    refine yforget hJ ?_
    refine yseq ?_
    refine yseq ?_
    refine yregion ?_
    refine yp (pI rfl) ?_
    refine yp (pI rfl) ?_
    refine yp (pLt rfl rfl) ?_
    refine ynil ?_
    refine tnorm ?_
    refine ycondD rfl (fun h => ?_) (fun h => ?_)
    · have hlt : i < m := by omega
      obtain ⟨k, hk⟩ : ∃ k, m - i = k + 1 := ⟨m - i - 1, by omega⟩
      rw [hk] at hT hI
      obtain ⟨e1, e2⟩ := oneL_drop (n := foldB Y) (k := k)
      refine yskip ?_
      refine tnorm ?_
      refine yseq ?_
      refine yblock ?_
      refine yseq ?_
      refine yregion ?_
      refine yp (pP rfl) ?_
      refine yp (pI rfl) ?_
      refine ycons (ycall (tbUses hT hA hI 1) rfl rfl fun r S' h => ?_)
      obtain ⟨rfl, rfl⟩ := h
      rw [oneL_by]
      refine yp (pI rfl) ?_
      refine yp (pI rfl) ?_
      refine yp (pSub rfl rfl (by omega)) ?_
      refine yp (pNe rfl rfl) ?_
      refine yp (pB rfl) ?_
      rw [decide_eq_true (show (((Option.map (fun x : Nm => x.u) (some ⟨1, foldB Y, k + 1⟩)).getD 0 : Nat) : Int) = (m : Int) - (i : Int) from by show ((k + 1 : Nat) : Int) = _; omega)]
      refine ygT rfl ?_
      refine yop (pP rfl) ?_
      refine ygT rfl ?_
      refine yop (pI rfl) ?_
      refine ygT rfl ?_
      refine ycall (tbDrop hT hA hI oneL_pos 1) rfl rfl fun r S' h => ?_
      obtain ⟨rfl, T2, H2, D2, hT2, hA2, hI2, _, rfl⟩ := h
      rw [e1] at hT2 hI2
      rw [e2]
      refine ygT rfl ?_
      refine yop (pNe rfl rfl) ?_
      refine yp (pPickF rfl rfl) ?_
      refine ynil ?_
      refine tnorm ?_
      refine ycondF rfl ?_
      refine yskip ?_
      refine bnorm ?_
      refine tnorm ?_
      refine yregion ?_
      refine yp (pI rfl) ?_
      refine yp (pInc rfl rfl (by omega)) ?_
      refine yp (pI rfl) ?_
      refine ynil ?_
      refine tnorm ?_
      exact ⟨i + 1, ⟨D2, H2, T2, ⟨rfl, rfl, rfl, rfl, rfl, rfl, trivial⟩, by omega, by rw [show m - (i + 1) = k from by omega]; exact hT2, hA2, by rw [show m - (i + 1) = k from by omega]; exact hI2, .of⟩, by omega⟩
    · rw [show m - i = 0 from by omega] at hT hI
      refine yexit ?_
      refine texit ?_
      refine texit ?_
      refine bexit ?_
      refine tnorm ?_
      exact ⟨D, H, T, ⟨rfl, rfl, rfl, rfl, trivial⟩, hT, hA, hI, .of⟩
  have hu0 : usedD D = 0 := hI.used
  obtain ⟨E0, e0⟩ := has_puts hE; subst e0; clear hE
  refine yforget hJ ?_
  refine yseq ?_
  refine yregion ?_
  refine yp (pP rfl) ?_
  refine yp (pT rfl) ?_
  refine ycons (ycall (tbFind hT Y hY2) rfl rfl fun r S' h => ?_)
  obtain ⟨rfl, rfl⟩ := h
  rw [show byN [] (foldB Y) = none from rfl]
  refine yp (pU rfl) ?_
  refine yp (pExt rfl rfl) ?_
  refine yp (pExt rfl rfl) ?_
  refine yp (pI rfl) ?_
  refine yp (pB rfl) ?_
  refine ynil ?_
  refine tnorm ?_
  refine yseq ?_
  refine yregion ?_
  refine yp (pB rfl) ?_
  refine yp (pNot rfl) ?_
  refine yp (pB rfl) ?_
  refine ygT rfl ?_
  refine yop (pP rfl) ?_
  refine ygT rfl ?_
  refine ycall (tbCount hT) rfl rfl fun r S' h => ?_
  obtain ⟨rfl, rfl⟩ := h
  refine ygT rfl ?_
  refine yop (pEq rfl rfl) ?_
  refine yp (pPickT rfl rfl) ?_
  refine yp (pB rfl) ?_
  refine ygT rfl ?_
  refine yop (pP rfl) ?_
  refine ygT rfl ?_
  refine ycall (arUsedA hA) rfl rfl fun r S' h => ?_
  obtain ⟨rfl, rfl⟩ := h
  rw [hu0]
  refine ygT rfl ?_
  refine yop (pEq rfl rfl) ?_
  refine yp (pPickT rfl rfl) ?_
  refine yp (pB rfl) ?_
  refine ygT rfl ?_
  refine yop (pP rfl) ?_
  refine ygT rfl ?_
  refine yop (pI rfl) ?_
  refine ygT rfl ?_
  refine ycall (tbDrop hT hA hI .nil 1) rfl rfl fun r S' h => ?_
  obtain ⟨rfl, T2, H2, D2, hT2, hA2, hI2, _, rfl⟩ := h
  rw [show dropR [] 1 = 5 from rfl]
  refine ygT rfl ?_
  refine yop (pEq rfl rfl) ?_
  refine yp (pPickT rfl rfl) ?_
  refine yp (pB rfl) ?_
  refine ygT rfl ?_
  refine ycall awake7 rfl rfl fun r S' h => ?_
  obtain ⟨rfl, rfl⟩ := h
  refine yp (pPickT rfl rfl) ?_
  refine yp (pB rfl) ?_
  refine ynil ?_
  refine tnorm ?_
  refine yret ?_
  exact yfin (rB rfl) ⟨_, .of, rfl, rfl⟩
end Go.Proofs.Ytkdbajfaaifkaaa
