/- ArenaCosts: what it computes. -/
import Derived.Test.YtkdbajfaaifkaaaArenaL
namespace Go.Proofs.Ytkdbajfaaifkaaa
open Go.Xs

theorem pow_and {c : Nat} (h : Pow c) : xbits .and .i64 (c : Int) ((c : Int) - 1) = 0 := by
  unfold Pow at h
  rcases h with rfl | rfl | rfl | rfl | rfl | rfl | rfl | rfl | rfl | rfl <;> decide +kernel
theorem pAndE {E : Env} {x y : Operand} {k : IntKind} {a b : Int} (h1 : ev E x = .int k a) (h2 : ev E y = .int k b) : pstep (ev E) (.bin .and x y) = some (.int k (xbits .and k a b)) := by
  simp [pstep, h1, h2, xbin, xint]
theorem c3 (n : Int) : Tri Try.prog 3 #[.int .i64 n] [] (fun r S => r = .bool true ∧ S = []) := by
  refine Tri.forget (ycallee Try.fx3 (Nat.le_of_ble_eq_true rfl) ?_)
  unfold Try.x3
  refine yseq ?_
  refine yregion ?_
  refine yp pC ?_
  refine ynil ?_
  refine tnorm ?_
  refine yseq ?_
  refine yregion ?_
  refine yp (pI rfl) ?_
  refine ycons (ycall (arCost n) rfl rfl fun r S' h => ?_)
  obtain ⟨rfl, rfl⟩ := h
  refine yp (pI rfl) ?_
  refine ynil ?_
  refine tnorm ?_
  refine yseq ?_
  refine yseq ?_
  refine yregion ?_
  refine yp (pI rfl) ?_
  refine yp (pLt rfl rfl) ?_
  refine yp (pB rfl) ?_
  by_cases h0 : cost n = 0
  · have hbad : n < 0 ∨ 4096 < n := by
      refine Classical.byContradiction fun hc => ?_
      unfold cost at h0
      rw [if_neg hc] at h0
      have := (costN_is n.toNat (by omega)).2.1
      omega
    have hfin : ∀ {E : Env} {K : Env → Segs → Prop}, K (putE (some 15) (.bool true) E) [] → YO Try.prog none 46 (some 15) (.call (.func 14) []) K E [] := fun h => ycall awake6 rfl rfl fun r S' h2 => by
      obtain ⟨rfl, rfl⟩ := h2
      exact h
    by_cases h1 : n < 0
    · rw [decide_eq_true h1]
      refine ygF rfl ?_
      refine ygF rfl ?_
      refine yp (pPickT rfl rfl) ?_
      refine ynil ?_
      refine tnorm ?_
      refine ycondT rfl ?_
      refine yseq ?_
      refine yregion ?_
      refine yp (pI rfl) ?_
      refine yp (pEq rfl rfl) ?_
      refine yp (pB rfl) ?_
      rw [decide_eq_true h0]
      refine ygT rfl ?_
      refine hfin ?_
      refine yp (pPickT rfl rfl) ?_
      refine yp (pB rfl) ?_
      refine ynil ?_
      refine tnorm ?_
      refine yret ?_
      refine tret ?_
      exact yfin (rB rfl) ⟨_, .of, rfl, rfl⟩
    · rw [decide_eq_false h1]
      refine ygT rfl ?_
      refine yop (pI rfl) ?_
      refine ygT rfl ?_
      refine yop (pGt rfl rfl) ?_
      refine yp (pPickF rfl rfl) ?_
      refine ynil ?_
      refine tnorm ?_
      rw [decide_eq_true (show 4096 < n from by omega)]
      refine ycondT rfl ?_
      refine yseq ?_
      refine yregion ?_
      refine yp (pI rfl) ?_
      refine yp (pEq rfl rfl) ?_
      refine yp (pB rfl) ?_
      rw [decide_eq_true h0]
      refine ygT rfl ?_
      refine hfin ?_
      refine yp (pPickT rfl rfl) ?_
      refine yp (pB rfl) ?_
      refine ynil ?_
      refine tnorm ?_
      refine yret ?_
      refine tret ?_
      exact yfin (rB rfl) ⟨_, .of, rfl, rfl⟩
  obtain ⟨m, rfl, hm, hcm⟩ := cost_pos h0
  have hcn := costN_is m hm
  have hpw := pow_and hcn.1
  rw [hcm]
  generalize costN m = c at hcn hpw
  have h16 : 16 ≤ c ∧ c ≤ 8192 := by have := hcn.1; unfold Pow at this; omega
  rw [decide_eq_false (show ¬ (m : Int) < 0 from by omega)]
  refine ygT rfl ?_
  refine yop (pI rfl) ?_
  refine ygT rfl ?_
  refine yop (pGt rfl rfl) ?_
  refine yp (pPickF rfl rfl) ?_
  refine ynil ?_
  refine tnorm ?_
  rw [decide_eq_false (show ¬ (4096 : Int) < (m : Int) from by omega)]
  refine ycondF rfl ?_
  refine yskip ?_
  refine tnorm ?_
  refine yseq ?_
  refine yregion ?_
  refine yp (pI rfl) ?_
  refine yp (pGe rfl rfl) ?_
  refine yp (pB rfl) ?_
  rw [decide_eq_true (show (16 : Int) ≤ (c : Int) from by omega)]
  refine ygT rfl ?_
  refine yop (pI rfl) ?_
  refine ygT rfl ?_
  refine yop (pI rfl) ?_
  refine ygT rfl ?_
  refine yop (pSub rfl rfl (by omega)) ?_
  refine ygT rfl ?_
  refine yop (pAndE rfl rfl) ?_
  rw [hpw]
  refine ygT rfl ?_
  refine yop (pEq rfl rfl) ?_
  refine yp (pPickT rfl rfl) ?_
  refine yp (pB rfl) ?_
  refine ygT rfl ?_
  refine yop (pI rfl) ?_
  refine ygT rfl ?_
  refine yop (pI rfl) ?_
  refine ygT rfl ?_
  refine yop (pAdd rfl rfl (by omega)) ?_
  refine ygT rfl ?_
  refine yop (pGe rfl rfl) ?_
  refine yp (pPickT rfl rfl) ?_
  refine yp (pB rfl) ?_
  rw [decide_eq_true (show (m : Int) + 8 ≤ (c : Int) from by omega)]
  refine ygT rfl ?_
  refine yop (pI rfl) ?_
  refine ygT rfl ?_
  refine yop (pEq rfl rfl) ?_
  refine ygT rfl ?_
  refine yop (pB rfl) ?_
  by_cases hc16 : c = 16
  · subst hc16
    refine ygF rfl ?_
    refine ygF rfl ?_
    refine ygF rfl ?_
    refine ygF rfl ?_
    refine ygF rfl ?_
    refine ygT rfl ?_
    refine yop (pPickT rfl rfl) ?_
    refine yp (pPickT rfl rfl) ?_
    refine yp (pB rfl) ?_
    refine ygT rfl ?_
    refine ycall awake6 rfl rfl fun r S' h2 => ?_
    obtain ⟨rfl, rfl⟩ := h2
    refine yp (pPickT rfl rfl) ?_
    refine yp (pB rfl) ?_
    refine ynil ?_
    refine tnorm ?_
    refine yret ?_
    exact yfin (rB rfl) ⟨_, .of, rfl, rfl⟩
  · rw [decide_eq_false (show ¬ (c : Int) = 16 from by omega)]
    refine ygT rfl ?_
    refine yop (pI rfl) ?_
    refine ygT rfl ?_
    refine yop (pQuoN (j := c) (k := 2) rfl rfl (by omega) (by omega)) ?_
    refine ygT rfl ?_
    refine yop (pI rfl) ?_
    refine ygT rfl ?_
    refine yop (pAdd rfl rfl (by omega)) ?_
    refine ygT rfl ?_
    refine yop (pLt rfl rfl) ?_
    refine ygT rfl ?_
    refine yop (pPickF rfl rfl) ?_
    refine yp (pPickT rfl rfl) ?_
    refine yp (pB rfl) ?_
    rw [decide_eq_true (show ((c / 2 : Nat) : Int) < (m : Int) + 8 from by omega)]
    refine ygT rfl ?_
    refine ycall awake6 rfl rfl fun r S' h2 => ?_
    obtain ⟨rfl, rfl⟩ := h2
    refine yp (pPickT rfl rfl) ?_
    refine yp (pB rfl) ?_
    refine ynil ?_
    refine tnorm ?_
    refine yret ?_
    exact yfin (rB rfl) ⟨_, .of, rfl, rfl⟩
end Go.Proofs.Ytkdbajfaaifkaaa
