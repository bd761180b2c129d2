/- TimerRoom: what it computes. -/
import Derived.Test.YtmgiamagocefcaaLawT
namespace Go.Proofs.Ytmgiamagocefcaa
open Go.Xs
open Enc (enc)

def iota (m : Nat) : List (Int × Int) := (List.range m).map fun (j : Nat) => ((j : Int), (j : Int))
theorem iota_length (m : Nat) : (iota m).length = m := by simp [iota]
theorem iota_succ (m : Nat) : iota (m + 1) = iota m ++ [((m : Int), (m : Int))] := by simp [iota, List.range_succ]
theorem iota_mem {m : Nat} {e : Int × Int} (h : e ∈ iota m) : ∃ j : Nat, j < m ∧ e = ((j : Int), (j : Int)) := by
  obtain ⟨j, hj, rfl⟩ := List.mem_map.1 h
  exact ⟨j, List.mem_range.1 hj, rfl⟩
theorem idx_none {k : Int} : ∀ {L : List (Int × Int)}, (∀ e ∈ L, e.1 ≠ k) → idx k L = none
  | [], _ => rfl
  | e :: L, h => by
    rw [idx, if_neg (h e List.mem_cons_self), idx_none fun e he => h e (List.mem_cons_of_mem _ he)]
    rfl
theorem idx_last {k t : Int} : ∀ {L : List (Int × Int)}, idx k L = none → idx k (L ++ [(k, t)]) = some L.length
  | [], _ => by simp [idx]
  | e :: L, h => by
    rw [idx] at h
    split at h
    · simp at h
    · next hk =>
      rw [Option.map_eq_none_iff] at h
      rw [List.cons_append, idx, if_neg hk, idx_last h]
      simp
theorem dropK_none {k : Int} {L : List (Int × Int)} (h : idx k L = none) : dropK k L = L := by simp [dropK, h]
theorem dropK_last {k t : Int} {L : List (Int × Int)} (h : idx k L = none) : dropK k (L ++ [(k, t)]) = L := by
  rw [dropK, idx_last h]
  show (L ++ [(k, t)]).eraseIdx L.length = L
  rw [List.eraseIdx_append_of_length_le (Nat.le_refl _)]
  simp
theorem dropAll_ahead : ∀ (A B : List (Int × Int)), dropAll (A.map (·.1)) (A ++ B) = B
  | [], B => rfl
  | a :: A, B => by
    have : dropK a.1 (a :: A ++ B) = A ++ B := by
      rw [dropK, List.cons_append, idx, if_pos rfl]
      rfl
    show dropAll (A.map (·.1)) (dropK a.1 (a :: A ++ B)) = B
    rw [this]; exact dropAll_ahead A B
theorem iota_take (h g : Nat) : (iota h).take g = iota (min g h) := by
  rw [iota, ← List.map_take, List.take_range]; rfl
theorem upto_iota (h k : Nat) : upto ((k : Int) - 1) (iota h) = iota (min h k) := by
  have hs : isort byAt (iota h) = iota h := by
    refine (SS.eq (L := iota h) (R := iota h) ⟨?_, fun _ => rfl⟩).symm
    refine List.pairwise_map.2 (List.pairwise_lt_range.imp fun {a b} hab => ?_)
    show (a : Int) ≤ (b : Int)
    omega
  rw [upto, hs]
  induction h with
  | zero => simp [iota]
  | succ h ih =>
    rw [iota_succ, List.filter_append, ih ?_]
    · by_cases hk : h < k
      · rw [show min h k = h from by omega, show min (h + 1) k = h + 1 from by omega, iota_succ]
        congr 1
        rw [List.filter_cons_of_pos]
        · rfl
        · show decide ((h : Int) ≤ (k : Int) - 1) = true
          exact decide_eq_true (by omega)
      · rw [show min h k = k from by omega, show min (h + 1) k = k from by omega]
        rw [List.filter_cons_of_neg]
        · simp
        · show ¬ decide ((h : Int) ≤ (k : Int) - 1) = true
          simp; omega
    · refine (SS.eq (L := iota h) (R := iota h) ⟨?_, fun _ => rfl⟩).symm
      refine List.pairwise_map.2 (List.pairwise_lt_range.imp fun {a b} hab => ?_)
      show (a : Int) ≤ (b : Int)
      omega

theorem c5 (most n fire : Int) : Tri Try.prog 5 #[.int .i64 most, .int .i64 n, .int .i64 fire] [] (fun r S => r = .bool true ∧ S = []) := by
  refine Tri.forget (ycallee Try.fx5 (Nat.le_of_ble_eq_true rfl) ?_)
  unfold Try.x5
  refine yseq ?_
  refine yregion ?_
  refine yp pC ?_
  refine ynil ?_
  refine tnorm ?_
  refine yseq ?_
  refine yseq ?_
  refine yregion ?_
  refine yp (pI rfl) ?_
  refine yp (pLt rfl rfl) ?_
  refine yp (pB rfl) ?_
  by_cases h1 : most < 0
  · rw [decide_eq_true h1]
    refine ygF rfl ?_
    refine ygF rfl ?_
    refine yp (pPickT rfl rfl) ?_
    refine yp (pB rfl) ?_
    refine ygF rfl ?_
    refine ygF rfl ?_
    refine yp (pPickT rfl rfl) ?_
    refine yp (pB rfl) ?_
    refine ygF rfl ?_
    refine ygF rfl ?_
    refine yp (pPickT rfl rfl) ?_
    refine ynil ?_
    refine tnorm ?_
    refine ycondT rfl ?_
    refine yseq ?_
    refine yregion ?_
    refine ycons (ycall c14 rfl rfl fun r S' h => ?_)
    obtain ⟨rfl, rfl⟩ := h
    refine yp (pB rfl) ?_
    refine ynil ?_
    refine tnorm ?_
    refine yret ?_
    refine tret ?_
    exact yfin (rB rfl) ⟨_, .of, rfl, rfl⟩
  rw [decide_eq_false h1]
  refine ygT rfl ?_
  refine yop (pI rfl) ?_
  refine ygT rfl ?_
  refine yop (pGt rfl rfl) ?_
  refine yp (pPickF rfl rfl) ?_
  refine yp (pB rfl) ?_
  by_cases h2 : 20 < most
  · rw [decide_eq_true h2]
    refine ygF rfl ?_
    refine ygF rfl ?_
    refine yp (pPickT rfl rfl) ?_
    refine yp (pB rfl) ?_
    refine ygF rfl ?_
    refine ygF rfl ?_
    refine yp (pPickT rfl rfl) ?_
    refine ynil ?_
    refine tnorm ?_
    refine ycondT rfl ?_
    refine yseq ?_
    refine yregion ?_
    refine ycons (ycall c14 rfl rfl fun r S' h => ?_)
    obtain ⟨rfl, rfl⟩ := h
    refine yp (pB rfl) ?_
    refine ynil ?_
    refine tnorm ?_
    refine yret ?_
    refine tret ?_
    exact yfin (rB rfl) ⟨_, .of, rfl, rfl⟩
  rw [decide_eq_false h2]
  refine ygT rfl ?_
  refine yop (pI rfl) ?_
  refine ygT rfl ?_
  refine yop (pLt rfl rfl) ?_
  refine yp (pPickF rfl rfl) ?_
  refine yp (pB rfl) ?_
  by_cases h3 : n < 0
  · rw [decide_eq_true h3]
    refine ygF rfl ?_
    refine ygF rfl ?_
    refine yp (pPickT rfl rfl) ?_
    refine ynil ?_
    refine tnorm ?_
    refine ycondT rfl ?_
    refine yseq ?_
    refine yregion ?_
    refine ycons (ycall c14 rfl rfl fun r S' h => ?_)
    obtain ⟨rfl, rfl⟩ := h
    refine yp (pB rfl) ?_
    refine ynil ?_
    refine tnorm ?_
    refine yret ?_
    refine tret ?_
    exact yfin (rB rfl) ⟨_, .of, rfl, rfl⟩
  rw [decide_eq_false h3]
  refine ygT rfl ?_
  refine yop (pI rfl) ?_
  refine ygT rfl ?_
  refine yop (pGt rfl rfl) ?_
  refine yp (pPickF rfl rfl) ?_
  refine ynil ?_
  refine tnorm ?_
  by_cases h4 : 30 < n
  · rw [decide_eq_true h4]
    refine ycondT rfl ?_
    refine yseq ?_
    refine yregion ?_
    refine ycons (ycall c14 rfl rfl fun r S' h => ?_)
    obtain ⟨rfl, rfl⟩ := h
    refine yp (pB rfl) ?_
    refine ynil ?_
    refine tnorm ?_
    refine yret ?_
    refine tret ?_
    exact yfin (rB rfl) ⟨_, .of, rfl, rfl⟩
  rw [decide_eq_false h4]
  refine ycondF rfl ?_
  refine yskip ?_
  refine tnorm ?_
  refine yseq ?_
  refine yregion ?_
  refine yp (pI rfl) ?_
  refine ycons (ycall (c15 most) rfl rfl fun r S' h => ?_)
  obtain ⟨tb, db, rfl, rfl⟩ := h
  rw [show max most 0 = most from by omega]
  obtain ⟨m, rfl⟩ := Int.eq_ofNat_of_zero_le (show 0 ≤ most from by omega)
  obtain ⟨N, rfl⟩ := Int.eq_ofNat_of_zero_le (show 0 ≤ n from by omega)
  refine yp (pP rfl) ?_
  refine ynil ?_
  refine tnorm ?_
  refine yseq ?_
  refine yseq ?_
  refine yregion ?_
  refine yp (pP rfl) ?_
  refine yp (pNilP rfl rfl) ?_
  refine ynil ?_
  refine tnorm ?_
  refine ycondF rfl ?_
  refine yskip ?_
  refine tnorm ?_
  refine yseq ?_
  refine yseq ?_
  refine yregion ?_
  refine yp pC ?_
  refine ynil ?_
  refine tnorm ?_
  refine yblock ?_
  refine yloop (σ := Nat) (fun i E S => Has E [(0, .int .i64 m), (1, .int .i64 N), (2, .int .i64 fire), (7, .pointer (some ⟨tb, 0, none⟩)), (8, .int .i64 i)] ∧ i ≤ N ∧ ∃ v H, Slc 93 v (iota (min i m)) H ∧ Junk S [tseg tb m db, dseg db v, H]) (fun i => N - i) 0 ⟨⟨rfl, rfl, rfl, rfl, rfl, trivial⟩, Nat.zero_le _, .slice none 0 0, [], by rw [Nat.zero_min]; exact .nil, .of⟩ fun i E S ⟨hE, hi, v, H, hL, hJ⟩ => ?_
  obtain ⟨E0, e0⟩ := has_puts hE; subst e0; clear hE
  refine yforget hJ ?_
  refine yseq ?_
  refine yseq ?_
  refine yregion ?_
  refine yp (pI rfl) ?_
  refine yp (pI rfl) ?_
  refine yp (pLt rfl rfl) ?_
  refine ynil ?_
  refine tnorm ?_
  refine ycondD rfl (fun h => ?_) (fun h => ?_)
  · have hn : idx (i : Int) (iota (min i m)) = none := idx_none fun e he => by
      obtain ⟨j, hj, rfl⟩ := iota_mem he
      show (j : Int) ≠ i
      omega
    have hno : hasK (i : Int) (iota (min i m)) = false := by simp [hasK, hn]
    refine yskip ?_
    refine tnorm ?_
    refine yseq ?_
    refine yblock ?_
    refine yseq ?_
    refine yregion ?_
    refine yp (pP rfl) ?_
    refine yp (pI rfl) ?_
    refine yp (pI rfl) ?_
    refine ycons (ycall (c18 (tb := tb) (db := db) (most := m) hL (by rw [iota_length]; omega) i i) rfl rfl fun r S' h => ?_)
    obtain ⟨rfl, v1, H1, hL1, rfl⟩ := h
    by_cases him : i < m
    · rw [show setR m i (iota (min i m)) = 0 from if_neg (fun h => by have := h.2; rw [iota_length] at this; omega)]
      rw [show setK m i i (iota (min i m)) = iota (i + 1) from by
        rw [setK, if_neg (fun h => by have := h.2; rw [iota_length] at this; omega), dropK_none hn, Nat.min_eq_left (by omega), iota_succ]] at hL1
      refine yp (pEq rfl rfl) ?_
      refine yp (pI rfl) ?_
      refine yp (pI rfl) ?_
      refine yp (pLt rfl rfl) ?_
      refine yp (pNeB rfl rfl) ?_
      refine yp (pB rfl) ?_
      rw [decide_eq_true (show (i : Int) < m from by omega)]
      refine ygT rfl ?_
      refine yop (pI rfl) ?_
      refine ygT rfl ?_
      refine yop (pI rfl) ?_
      refine ygT rfl ?_
      refine yop (pLt rfl rfl) ?_
      refine ygT rfl ?_
      refine yop (pB rfl) ?_
      rw [decide_eq_true (show (i : Int) < m from by omega)]
      refine ygT rfl ?_
      refine yop (pP rfl) ?_
      refine ygT rfl ?_
      refine yop (pI rfl) ?_
      refine ygT rfl ?_
      refine yop (pI rfl) ?_
      refine ygT rfl ?_
      have hn' : idx (i : Int) (iota i) = none := by rw [Nat.min_eq_left (by omega)] at hn; exact hn
      have hyes : hasK (i : Int) (iota (i + 1)) = true := by rw [iota_succ, hasK, idx_last hn']; rfl
      refine ycall (c18 (tb := tb) (db := db) (most := m) hL1 (by rw [iota_length]; omega) i i) rfl rfl fun r S' h => ?_
      obtain ⟨rfl, v2, H2, hL2, rfl⟩ := h
      rw [show setR m i (iota (i + 1)) = 0 from if_neg (fun h => by have := h.1; rw [hyes] at this; cases this)]
      rw [show setK m i i (iota (i + 1)) = iota (i + 1) from by
        rw [setK, if_neg (fun h => by have := h.1; rw [hyes] at this; cases this), iota_succ, dropK_last hn']] at hL2
      refine ygT rfl ?_
      refine yop (pNe rfl rfl) ?_
      refine ygT rfl ?_
      refine yop (pPickT rfl rfl) ?_
      refine yp (pPickF rfl rfl) ?_
      refine ynil ?_
      refine tnorm ?_
      refine ycondF rfl ?_
      refine yskip ?_
      refine bnorm ?_
      refine tnorm ?_
      refine yregion ?_
      refine yp (pI rfl) ?_
      refine yp (pInc rfl rfl (by omega)) ?_
      refine yp (pI rfl) ?_
      refine ynil ?_
      refine tnorm ?_
      exact ⟨i + 1, ⟨⟨rfl, rfl, rfl, rfl, rfl, trivial⟩, by omega, v2, H2, by rw [Nat.min_eq_left (by omega)]; exact hL2, .of⟩, by omega⟩
    · rw [show setR m i (iota (min i m)) = 4 from if_pos ⟨hno, by rw [iota_length]; omega⟩]
      rw [show setK m i i (iota (min i m)) = iota (min (i + 1) m) from by
        rw [setK, if_pos ⟨hno, by rw [iota_length]; omega⟩, Nat.min_eq_right (by omega), Nat.min_eq_right (by omega)]] at hL1
      refine yp (pEq rfl rfl) ?_
      refine yp (pI rfl) ?_
      refine yp (pI rfl) ?_
      refine yp (pLt rfl rfl) ?_
      refine yp (pNeB rfl rfl) ?_
      refine yp (pB rfl) ?_
      rw [decide_eq_false (show ¬ (i : Int) < m from by omega)]
      refine ygT rfl ?_
      refine yop (pI rfl) ?_
      refine ygT rfl ?_
      refine yop (pI rfl) ?_
      refine ygT rfl ?_
      refine yop (pLt rfl rfl) ?_
      refine ygT rfl ?_
      refine yop (pB rfl) ?_
      rw [decide_eq_false (show ¬ (i : Int) < m from by omega)]
      refine ygF rfl ?_
      refine ygF rfl ?_
      refine ygF rfl ?_
      refine ygF rfl ?_
      refine ygF rfl ?_
      refine ygT rfl ?_
      refine yop (pPickF rfl rfl) ?_
      refine yp (pPickF rfl rfl) ?_
      refine ynil ?_
      refine tnorm ?_
      refine ycondF rfl ?_
      refine yskip ?_
      refine bnorm ?_
      refine tnorm ?_
      refine yregion ?_
      refine yp (pI rfl) ?_
      refine yp (pInc rfl rfl (by omega)) ?_
      refine yp (pI rfl) ?_
      refine ynil ?_
      refine tnorm ?_
      exact ⟨i + 1, ⟨⟨rfl, rfl, rfl, rfl, rfl, trivial⟩, by omega, v1, H1, hL1, .of⟩, by omega⟩
  obtain rfl : i = N := by omega
  generalize hh : min i m = h0 at hL
  refine yexit ?_
  refine texit ?_
  refine texit ?_
  refine bexit ?_
  refine tnorm ?_
  refine yseq ?_
  refine yregion ?_
  refine yp (pI rfl) ?_
  refine yp (pI rfl) ?_
  refine yp (pMin1 rfl rfl) ?_
  rw [show min (i : Int) (m : Int) = ((h0 : Nat) : Int) from by omega]
  refine yp (pI rfl) ?_
  refine ynil ?_
  refine tnorm ?_
  refine yseq ?_
  refine yregion ?_
  refine yp (pI rfl) ?_
  refine ycons (ycall (c26 fire 32 (by decide)) rfl rfl fun r S' h => ?_)
  obtain ⟨rfl, rfl⟩ := h
  have hr := round_lt fire 32 (by decide)
  obtain ⟨k, hk⟩ := Int.eq_ofNat_of_zero_le hr.1
  rw [hk] at hr ⊢
  refine yp (pI rfl) ?_
  refine ynil ?_
  refine tnorm ?_
  refine yseq ?_
  refine yregion ?_
  refine yp (pP rfl) ?_
  refine yp (pI rfl) ?_
  refine yp (pSub rfl rfl (by omega)) ?_
  refine ycons (ycall (c23 (tb := tb) (db := db) (most := m) hL (by rw [iota_length]; omega) ((k : Int) - 1)) rfl rfl fun r S' h => ?_)
  obtain ⟨Ho, v5, H5, hLo, hL5, rfl⟩ := h
  rw [upto_iota] at hLo hL5
  generalize hg : min h0 k = g at hLo hL5
  have hspl : iota h0 = iota g ++ (iota h0).drop g := by
    conv => lhs; rw [← List.take_append_drop g (iota h0)]
    rw [iota_take, Nat.min_eq_left (by omega)]
  rw [show dropAll ((iota g).map (·.1)) (iota h0) = (iota h0).drop g from by
    conv => lhs; rw [hspl]
    exact dropAll_ahead _ _] at hL5
  have hlg : ((iota g).map (·.1)).length = g := by simp [iota_length]
  obtain ⟨ao, co, rfl⟩ := hLo.isSlice
  rw [hlg]
  refine yp (pS rfl) ?_
  refine ynil ?_
  refine tnorm ?_
  refine yseq ?_
  refine yseq ?_
  refine yregion ?_
  refine yp (pS rfl) ?_
  refine yp (pLen rfl) ?_
  refine yp (pI rfl) ?_
  refine yp (pI rfl) ?_
  refine yp (pMin1 rfl rfl) ?_
  rw [show min (h0 : Int) (k : Int) = ((g : Nat) : Int) from by omega]
  refine yp (pNe rfl rfl) ?_
  refine yp (pB rfl) ?_
  rw [decide_eq_true (rfl : (g : Int) = g)]
  refine ygT rfl ?_
  refine yop (pP rfl) ?_
  refine ygT rfl ?_
  refine ycall (c25 (tb := tb) (most := m) (db := db) hL5) rfl rfl fun r S' h => ?_
  obtain ⟨rfl, rfl⟩ := h
  have hld : ((iota h0).drop g).length = h0 - g := by simp [iota_length]
  rw [hld]
  refine ygT rfl ?_
  refine yop (pI rfl) ?_
  refine ygT rfl ?_
  refine yop (pS rfl) ?_
  refine ygT rfl ?_
  refine yop (pLen rfl) ?_
  refine ygT rfl ?_
  refine yop (pSub rfl rfl (by omega)) ?_
  refine ygT rfl ?_
  refine yop (pNe rfl rfl) ?_
  refine yp (pPickF rfl rfl) ?_
  refine ynil ?_
  refine tnorm ?_
  rw [decide_eq_true (show ((h0 - g : Nat) : Int) = (h0 : Int) - g from by omega)]
  refine ycondF rfl ?_
  refine yskip ?_
  refine tnorm ?_
  refine yseq ?_
  refine yseq ?_
  refine yregion ?_
  refine yp pC ?_
  refine ynil ?_
  refine tnorm ?_
  refine yblock ?_
  refine yloop (σ := Nat) (fun i E S => Has E [(0, .int .i64 m), (7, .pointer (some ⟨tb, 0, none⟩)), (9, .int .i64 h0), (11, .slice ao g co), (12, .int .i64 i)] ∧ i ≤ 25 ∧ ∃ L v H, L.length = min (h0 - g + i) m ∧ (∀ e ∈ L, e.1 < 100 + (i : Int)) ∧ Slc 93 v L H ∧ Junk S [tseg tb m db, dseg db v, H]) (fun i => 25 - i) 0 ⟨⟨rfl, rfl, rfl, rfl, rfl, trivial⟩, Nat.zero_le _, (iota h0).drop g, v5, H5, by rw [hld]; omega, ?_, hL5, .of⟩ fun i E S ⟨hE, hi, L, v, H, hlL, hky, hL, hJ⟩ => ?_
  · intro e he
    obtain ⟨j, hj, rfl⟩ := iota_mem (List.mem_of_mem_drop he)
    show (j : Int) < 100 + ((0 : Nat) : Int)
    omega
  obtain ⟨E0, e0⟩ := has_puts hE; subst e0; clear hE
  refine yforget hJ ?_
  refine yseq ?_
  refine yseq ?_
  refine yregion ?_
  refine yp (pI rfl) ?_
  refine yp (pLt rfl rfl) ?_
  refine ynil ?_
  refine tnorm ?_
  refine ycondD rfl (fun h => ?_) (fun h => ?_)
  · have hn : idx (100 + (i : Int)) L = none := idx_none fun e he => by have := hky e he; omega
    have hno : hasK (100 + (i : Int)) L = false := by simp [hasK, hn]
    refine yskip ?_
    refine tnorm ?_
    refine yseq ?_
    refine yblock ?_
    refine yseq ?_
    refine yregion ?_
    refine yp (pP rfl) ?_
    refine yp (pI rfl) ?_
    refine yp (pAdd rfl rfl (by omega)) ?_
    refine ycons (ycall (c18 (tb := tb) (db := db) (most := m) hL (by omega) (100 + (i : Int)) 5) rfl rfl fun r S' h => ?_)
    obtain ⟨rfl, v1, H1, hL1, rfl⟩ := h
    by_cases him : h0 - g + i < m
    · rw [show setR m (100 + (i : Int)) L = 0 from if_neg (fun h => by have := h.2; omega)]
      rw [show setK m (100 + (i : Int)) 5 L = L ++ [(100 + (i : Int), 5)] from by
        rw [setK, if_neg (fun h => by have := h.2; omega), dropK_none hn]] at hL1
      refine yp (pEq rfl rfl) ?_
      refine yp (pI rfl) ?_
      refine yp (pS rfl) ?_
      refine yp (pLen rfl) ?_
      refine yp (pSub rfl rfl (by omega)) ?_
      refine yp (pI rfl) ?_
      refine yp (pAdd rfl rfl (by omega)) ?_
      refine yp (pI rfl) ?_
      refine yp (pLt rfl rfl) ?_
      refine yp (pNeB rfl rfl) ?_
      refine ynil ?_
      refine tnorm ?_
      rw [decide_eq_true (show (h0 : Int) - g + i < m from by omega)]
      refine ycondF rfl ?_
      refine yskip ?_
      refine bnorm ?_
      refine tnorm ?_
      refine yregion ?_
      refine yp (pI rfl) ?_
      refine yp (pInc rfl rfl (by omega)) ?_
      refine yp (pI rfl) ?_
      refine ynil ?_
      refine tnorm ?_
      refine ⟨i + 1, ⟨⟨rfl, rfl, rfl, rfl, rfl, trivial⟩, by omega, _, v1, H1, by simp; omega, ?_, hL1, .of⟩, by omega⟩
      intro e he
      rcases List.mem_append.1 he with he | he
      · have := hky e he; omega
      · rw [List.mem_singleton.1 he]; show 100 + (i : Int) < _; omega
    · rw [show setR m (100 + (i : Int)) L = 4 from if_pos ⟨hno, by omega⟩]
      rw [show setK m (100 + (i : Int)) 5 L = L from by rw [setK, if_pos ⟨hno, by omega⟩]] at hL1
      refine yp (pEq rfl rfl) ?_
      refine yp (pI rfl) ?_
      refine yp (pS rfl) ?_
      refine yp (pLen rfl) ?_
      refine yp (pSub rfl rfl (by omega)) ?_
      refine yp (pI rfl) ?_
      refine yp (pAdd rfl rfl (by omega)) ?_
      refine yp (pI rfl) ?_
      refine yp (pLt rfl rfl) ?_
      refine yp (pNeB rfl rfl) ?_
      refine ynil ?_
      refine tnorm ?_
      rw [decide_eq_false (show ¬ (h0 : Int) - g + i < m from by omega)]
      refine ycondF rfl ?_
      refine yskip ?_
      refine bnorm ?_
      refine tnorm ?_
      refine yregion ?_
      refine yp (pI rfl) ?_
      refine yp (pInc rfl rfl (by omega)) ?_
      refine yp (pI rfl) ?_
      refine ynil ?_
      refine tnorm ?_
      exact ⟨i + 1, ⟨⟨rfl, rfl, rfl, rfl, rfl, trivial⟩, by omega, L, v1, H1, by omega, fun e he => by have := hky e he; omega, hL1, .of⟩, by omega⟩
  · refine yexit ?_
    refine texit ?_
    refine texit ?_
    refine bexit ?_
    refine tnorm ?_
    refine yseq ?_
    refine yregion ?_
    refine ycons (ycall c14 rfl rfl fun r S' h => ?_)
    obtain ⟨rfl, rfl⟩ := h
    refine yp (pB rfl) ?_
    refine ynil ?_
    refine tnorm ?_
    refine yret ?_
    exact yfin (rB rfl) ⟨_, .of, rfl, rfl⟩
end Go.Proofs.Ytmgiamagocefcaa
