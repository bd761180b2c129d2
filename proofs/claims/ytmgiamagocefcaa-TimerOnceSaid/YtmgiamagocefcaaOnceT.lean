/- TimerOnce: what it computes. -/
import Derived.Test.YtmgiamagocefcaaOnce
namespace Go.Proofs.Ytmgiamagocefcaa
open Go.Xs
open Enc (enc)

theorem intAt {I : List Int} {k : Nat} {b : Int} (h : I[k]? = some b) : ((cells I).toArray.toList)[0 + k * 1]? = some (.int .i64 b) := by
  obtain ⟨hk, rfl⟩ := List.getElem?_eq_some_iff.1 h
  have := cells_get I k 0 hk (by decide)
  rw [Nat.zero_add]
  exact this
theorem upto_length' (at_ : Int) (L : List (Int × Int)) : (upto at_ L).length ≤ L.length := by
  have h1 : (isort byAt L).length = L.length := (isort_perm (key := byAt) L).length_eq
  rw [← h1]; exact List.length_filter_le _ _
/-- how often each was fired -/
def cnt (T : List Int) (c : Int) (ks : List Int) (i : Nat) : Int := (if aT T i ≤ c then 1 else 0) + (if (i : Int) ∈ ks then 1 else 0)

theorem c4 {S : Segs} (by_ : Int) {v : Value} {T : List Int} (hT : Src S v T) (_hm : T.length ≤ maxLen) (_hq : ∀ a ∈ T, InI a) : Tri Try.prog 4 #[v, .int .i64 by_] S (fun r S' => r = .bool true ∧ S' = S) := by
  refine Tri.forget (ycallee Try.fx4 (Nat.le_of_ble_eq_true rfl) ?_)
  unfold Try.x4
  obtain ⟨at0, ct0, rfl⟩ := hT.isSlice
  refine yseq ?_
  refine yregion ?_
  refine yp pC ?_
  refine ynil ?_
  refine tnorm ?_
  refine yseq ?_
  refine yseq ?_
  refine yregion ?_
  refine yp (pS rfl) ?_
  refine yp (pLen rfl) ?_
  refine yp (pGt rfl rfl) ?_
  refine yp (pB rfl) ?_
  by_cases h1 : 30 < (T.length : Int)
  · rw [decide_eq_true h1]
    refine ygF rfl ?_
    refine ygF rfl ?_
    refine yp (pPickT rfl rfl) ?_
    refine yp (pB rfl) ?_
    refine ygF rfl ?_
    refine ygF rfl ?_
    refine yp (pPickT rfl rfl) ?_
    refine ynil ?_
    refine tnorm ?_
    refine ycondT rfl ?_
    refine yseq ?_
    refine yregion ?_
    refine ycons (ycall c14 rfl rfl fun r S' h => ?_)
    obtain ⟨rfl, rfl⟩ := h
    refine yp (pB rfl) ?_
    refine ynil ?_
    refine tnorm ?_
    refine yret ?_
    refine tret ?_
    exact yfin (rB rfl) ⟨_, .of, rfl, rfl⟩
  rw [decide_eq_false h1]
  refine ygT rfl ?_
  refine yop (pI rfl) ?_
  refine ygT rfl ?_
  refine yop (pLt rfl rfl) ?_
  refine yp (pPickF rfl rfl) ?_
  refine yp (pB rfl) ?_
  by_cases h2 : by_ < 1
  · rw [decide_eq_true h2]
    refine ygF rfl ?_
    refine ygF rfl ?_
    refine yp (pPickT rfl rfl) ?_
    refine ynil ?_
    refine tnorm ?_
    refine ycondT rfl ?_
    refine yseq ?_
    refine yregion ?_
    refine ycons (ycall c14 rfl rfl fun r S' h => ?_)
    obtain ⟨rfl, rfl⟩ := h
    refine yp (pB rfl) ?_
    refine ynil ?_
    refine tnorm ?_
    refine yret ?_
    refine tret ?_
    exact yfin (rB rfl) ⟨_, .of, rfl, rfl⟩
  rw [decide_eq_false h2]
  refine ygT rfl ?_
  refine yop (pI rfl) ?_
  refine ygT rfl ?_
  refine yop (pGt rfl rfl) ?_
  refine yp (pPickF rfl rfl) ?_
  refine ynil ?_
  refine tnorm ?_
  by_cases h3 : 10 < by_
  · rw [decide_eq_true h3]
    refine ycondT rfl ?_
    refine yseq ?_
    refine yregion ?_
    refine ycons (ycall c14 rfl rfl fun r S' h => ?_)
    obtain ⟨rfl, rfl⟩ := h
    refine yp (pB rfl) ?_
    refine ynil ?_
    refine tnorm ?_
    refine yret ?_
    refine tret ?_
    exact yfin (rB rfl) ⟨_, .of, rfl, rfl⟩
  rw [decide_eq_false h3]
  obtain ⟨b0, rfl⟩ := Int.eq_ofNat_of_zero_le (show 0 ≤ by_ from by omega)
  refine ycondF rfl ?_
  refine yskip ?_
  refine tnorm ?_
  refine yseq ?_
  refine yregion ?_
  refine yp (pS rfl) ?_
  refine yp (pLen rfl) ?_
  refine ycons (ycall (c15 (T.length : Int)) rfl rfl fun r S' h => ?_)
  obtain ⟨tb, db, rfl, rfl⟩ := h
  rw [show max (T.length : Int) 0 = T.length from by omega]
  refine yp (pP rfl) ?_
  refine ynil ?_
  refine tnorm ?_
  refine yseq ?_
  refine yseq ?_
  refine yregion ?_
  refine yp (pP rfl) ?_
  refine yp (pNilP rfl rfl) ?_
  refine ynil ?_
  refine tnorm ?_
  refine ycondF rfl ?_
  refine yskip ?_
  refine tnorm ?_
  refine yseq ?_
  refine yseq ?_
  refine yregion ?_
  refine yp pC ?_
  refine ynil ?_
  refine tnorm ?_
  refine yblock ?_
  refine yloop (σ := Nat) (fun i E S' => Has E [(0, .slice at0 T.length ct0), (1, .int .i64 b0), (5, .pointer (some ⟨tb, 0, none⟩)), (6, .int .i64 i)] ∧ i ≤ T.length ∧ ∃ u H, Slc 93 u (baseT T i) H ∧ Junk S' (tseg tb T.length db :: dseg db u :: H :: S)) (fun i => T.length - i) 0 ⟨⟨rfl, rfl, rfl, rfl, trivial⟩, Nat.zero_le _, _, [], .nil, .of⟩ fun i E S' ⟨hE, hi, u, H, hD, hJ⟩ => ?_
  obtain ⟨E0, e0⟩ := has_puts hE; subst e0; clear hE
  refine yforget hJ ?_
  have hbl := baseT_length T i
  refine yseq ?_
  refine yseq ?_
  refine yregion ?_
  refine yp (pI rfl) ?_
  refine yp (pS rfl) ?_
  refine yp (pLen rfl) ?_
  refine yp (pLt rfl rfl) ?_
  refine ynil ?_
  refine tnorm ?_
  refine ycondD rfl (fun h => ?_) (fun h => ?_)
  · have hlt : i < T.length := by omega
    obtain ⟨b, o, ca, ty, fz, rfl, hm', hmem, hg, _⟩ := hT.get (by intro h; simp [h] at hlt)
    have hg0 := hg i 0 hlt (by decide)
    have hno : idx (i : Int) (baseT T i) = none := idx_no fun e he => by
      obtain ⟨j, hj, rfl⟩ := mem_baseT.1 he
      show (j : Int) ≠ i
      omega
    have hat : round T[i] 20 = aT T i := by simp [aT, List.getD, hlt]
    refine yskip ?_
    refine tnorm ?_
    refine yseq ?_
    refine yblock ?_
    refine yseq ?_
    refine yregion ?_
    refine yp (pP rfl) ?_
    refine yp (pI rfl) ?_
    refine yp (pS rfl) ?_
    refine yp (pI rfl) ?_
    refine yp (pIxN rfl rfl (by omega)) ?_
    refine ycons (yloadM (S := tseg tb T.length db :: dseg db u :: H :: S) (v := .int .i64 T[i]) (by repeat (first | exact hmem | apply List.mem_cons_of_mem)) rfl hg0 ?_)
    refine ycons (ycall (c26 T[i] 20 (by decide)) rfl rfl fun r S' h => ?_)
    obtain ⟨rfl, rfl⟩ := h
    rw [hat]
    refine ycons (ycall (c18 (tb := tb) (db := db) (most := T.length) hD (by omega) i (aT T i)) rfl rfl fun r S' h => ?_)
    obtain ⟨rfl, u1, H1, hD1, rfl⟩ := h
    have hn : ¬ (hasK (i : Int) (baseT T i) = false ∧ (T.length : Int) ≤ ((baseT T i).length : Int)) := fun h => by have := h.2; omega
    rw [setR, if_neg hn]
    rw [setK, if_neg hn, show dropK (i : Int) (baseT T i) = baseT T i from by simp [dropK, hno], ← baseT_succ] at hD1
    refine yp (pNe rfl rfl) ?_
    refine ynil ?_
    refine tnorm ?_
    refine ycondF rfl ?_
    refine yskip ?_
    refine bnorm ?_
    refine tnorm ?_
    refine yregion ?_
    refine yp (pI rfl) ?_
    refine yp (pInc rfl rfl (by omega)) ?_
    refine yp (pI rfl) ?_
    refine ynil ?_
    refine tnorm ?_
    exact ⟨i + 1, ⟨⟨rfl, rfl, rfl, rfl, trivial⟩, by omega, u1, H1, hD1, .of⟩, by omega⟩
  obtain rfl : i = T.length := by omega
  generalize hn0 : T.length = n at *
  refine yexit ?_
  refine texit ?_
  refine texit ?_
  refine bexit ?_
  refine tnorm ?_
  refine yseq ?_
  refine yregion ?_
  refine yp (pS rfl) ?_
  refine yp (pLen rfl) ?_
  refine ycons (ymksl (m := n) (cap := n) rfl rfl (Nat.le_refl _) rfl (by omega) (by omega) fun bf => ?_)
  rw [replicate_cells (z := [.int .i64 0]) n (0 : Int) rfl]
  refine yp (pS rfl) ?_
  refine ynil ?_
  refine tnorm ?_
  refine yseq ?_
  refine yseq ?_
  refine yregion ?_
  refine yp pC ?_
  refine ynil ?_
  refine tnorm ?_
  refine yblock ?_
  have hrem0 : baseT T n = remT T n (-1) := by
    refine (List.filter_eq_self.2 fun e he => ?_).symm
    obtain ⟨j, hj, rfl⟩ := mem_baseT.1 he
    have := (aT_lt T j).1
    exact decide_eq_true (show -1 < aT T j by omega)
  rw [hrem0] at hD
  refine yloop (σ := Nat) (fun now E S' => ∃ c : Int, Has E [(0, .slice at0 n ct0), (1, .int .i64 b0), (5, .pointer (some ⟨tb, 0, none⟩)), (7, .slice (some ⟨bf, 0, none⟩) n n), (8, .int .i64 now)] ∧ now < 60 ∧ (now = 0 → c = -1) ∧ (0 < now → c = (now : Int) - b0) ∧ ∃ u H F, F.length = n ∧ (∀ j : Nat, j < n → F[j]? = some (cnt T c [] j)) ∧ Slc 93 u (remT T n c) H ∧ Junk S' ([(bf, .cells (cells F).toArray 3)] :: tseg tb n db :: dseg db u :: H :: S)) (fun now => 40 - now) 0 ⟨-1, ⟨rfl, rfl, rfl, rfl, rfl, trivial⟩, by decide, fun _ => rfl, fun h => absurd h (Nat.lt_irrefl 0), u, H, List.replicate n 0, by simp, fun j hj => ?_, hD, .of⟩ fun now E S' ⟨c, hE, hnow, hc0, hc1, u, H, F, hFl, hF, hD, hJ⟩ => ?_
  · rw [List.getElem?_replicate, if_pos hj, cnt, if_neg (by have := (aT_lt T j).1; omega)]; simp
  obtain ⟨E0, e0⟩ := has_puts hE; subst e0; clear hE
  refine yforget hJ ?_
  have hcb : c < now := by
    rcases Nat.eq_zero_or_pos now with h0 | h0
    · have := hc0 h0; omega
    · have := hc1 h0
      omega
  refine yseq ?_
  refine yseq ?_
  refine yregion ?_
  refine yp (pI rfl) ?_
  refine yp (pLt rfl rfl) ?_
  refine ynil ?_
  refine tnorm ?_
  refine ycondD rfl (fun h => ?_) (fun h => ?_)
  · have hrl : (remT T n c).length < 2 ^ 38 := by
      have := List.length_filter_le (fun e : Int × Int => decide (c < e.2)) (baseT T n)
      rw [baseT_length] at this
      show ((baseT T n).filter _).length < _
      omega
    refine yskip ?_
    refine tnorm ?_
    refine yseq ?_
    refine yblock ?_
    refine yseq ?_
    refine yregion ?_
    refine yp (pP rfl) ?_
    refine yp (pI rfl) ?_
    refine ycons (ycall (c23 (tb := tb) (db := db) (most := n) hD hrl now) rfl rfl fun r S' h => ?_)
    obtain ⟨Hf, u1, H1, hL, hD1, rfl⟩ := h
    rw [fires_drop T n c now (by omega)] at hD1
    have hf := fires T n c now
    have hul := upto_length' now (remT T n c)
    generalize upto now (remT T n c) = U at hL hf hul
    have hll : (U.map (·.1)).length = U.length := List.length_map _
    generalize hl0 : U.map (·.1) = l at hL hll
    have hkeys := hf.keys
    rw [hl0] at hkeys
    obtain ⟨al, cl, rfl⟩ := hL.isSlice
    rw [hll]
    refine yp (pS rfl) ?_
    refine ynil ?_
    refine tnorm ?_
    refine yseq ?_
    refine yregion ?_
    refine yp pC ?_
    refine ynil ?_
    refine tnorm ?_
    refine yblock ?_
    refine yloop (σ := Nat) (fun q E S' => Has E [(0, .slice at0 n ct0), (1, .int .i64 b0), (5, .pointer (some ⟨tb, 0, none⟩)), (7, .slice (some ⟨bf, 0, none⟩) n n), (8, .int .i64 now), (9, .slice al U.length cl), (10, .int .i64 q)] ∧ q ≤ U.length ∧ ∃ F, F.length = n ∧ (∀ j : Nat, j < n → F[j]? = some (cnt T c (l.take q) j)) ∧ Junk S' (Hf :: [(bf, .cells (cells F).toArray 3)] :: tseg tb n db :: dseg db u1 :: H1 :: S)) (fun q => U.length - q) 0 ⟨⟨rfl, rfl, rfl, rfl, rfl, rfl, rfl, trivial⟩, Nat.zero_le _, F, hFl, hF, .of⟩ fun q E S' ⟨hE, hq, F, hFl, hF, hJ⟩ => ?_
    obtain ⟨E0, e0⟩ := has_puts hE; subst e0; clear hE
    refine yforget hJ ?_
    refine yseq ?_
    refine yseq ?_
    refine yregion ?_
    refine yp (pI rfl) ?_
    refine yp (pS rfl) ?_
    refine yp (pLen rfl) ?_
    refine yp (pLt rfl rfl) ?_
    refine ynil ?_
    refine tnorm ?_
    refine ycondD rfl (fun h => ?_) (fun h => ?_)
    · have hlt : q < U.length := by omega
      have hltl : q < l.length := by omega
      obtain ⟨k, hk, hUk, hka, hkb⟩ := hf.ele U[q] (List.getElem_mem hlt)
      have hlq : l[q] = (k : Int) := by
        have : l[q] = (U[q]).1 := by subst hl0; simp
        rw [this, hUk]
      have hload : ∀ sp : List Int, ((cells (l ++ sp)).toArray.toList)[0 + q * 1 + 0]? = some (.int .i64 (k : Int)) := fun sp => (row_cell (kk := 1) (j := 0) hltl rfl (by omega)).trans (by rw [hlq]; rfl)
      have htk : l.take (q + 1) = l.take q ++ [(k : Int)] := by rw [List.take_add_one, List.getElem?_eq_getElem hltl, hlq]; rfl
      have hnew : (k : Int) ∉ l.take q := by
        have h1 : l.Nodup := hkeys
        rw [← List.take_append_drop (q + 1) l, htk, List.append_assoc] at h1
        obtain ⟨_, _, h2⟩ := List.nodup_append.1 h1
        exact fun h => h2 _ h _ (by simp) rfl
      have hFk := hF k hk
      have hpk : ∀ k' : Nat, k' < n → round T[k']! 20 = aT T k' := by
        intro k' hk'
        simp [aT, List.getD, getElem!_pos T k' (by omega), List.getElem?_eq_getElem (show k' < T.length by omega)]
      obtain ⟨b, o, ca, ty, fz, rfl, hm', hmem, hg, _⟩ := hT.get (by intro h; rw [h] at hn0; simp at hn0; omega)
      have hgT : ∀ k' : Nat, k' < n → ca.toList[o + k' * 1 + 0]? = some (.int .i64 (T[k']!)) := by
        intro k' hk'
        have := hg k' 0 (by omega) (by decide)
        rw [getElem!_pos T k' (by omega)]
        exact this
      obtain ⟨b2, sp2, fz2, hz2, rfl, _, hcl, rfl⟩ := hL.at' (by intro h; simp [h] at hltl)
      refine yskip ?_
      refine tnorm ?_
      refine yseq ?_
      refine yblock ?_
      refine yseq ?_
      refine yseq ?_
      refine yregion ?_
      refine yp (pS rfl) ?_
      refine yp (pI rfl) ?_
      refine yp (pIxN rfl rfl (by omega)) ?_
      refine ycons (yload1 (v := .int .i64 (k : Int)) rfl (hload sp2) ?_)
      refine yp (pLt rfl rfl) ?_
      refine yp (pB rfl) ?_
      refine ygT rfl ?_
      refine yop (pS rfl) ?_
      refine ygT rfl ?_
      refine yop (pI rfl) ?_
      refine ygT rfl ?_
      refine yop (pIxN rfl rfl (by omega)) ?_
      refine ygT rfl ?_
      refine yload1 (v := .int .i64 (k : Int)) rfl (hload sp2) ?_
      refine ygT rfl ?_
      refine yop (pS rfl) ?_
      refine ygT rfl ?_
      refine yop (pLen rfl) ?_
      refine ygT rfl ?_
      refine yop (pGe rfl rfl) ?_
      refine yp (pPickF rfl rfl) ?_
      refine ynil ?_
      refine tnorm ?_
      rw [decide_eq_false (show ¬ (n : Int) ≤ (k : Int) from by omega)]
      refine ycondF rfl ?_
      refine yskip ?_
      refine tnorm ?_
      refine yseq ?_
      refine yregion ?_
      refine yp (pS rfl) ?_
      refine yp (pS rfl) ?_
      refine yp (pI rfl) ?_
      refine yp (pIxN rfl rfl (by omega)) ?_
      refine ycons (yload1 (v := .int .i64 (k : Int)) rfl (hload sp2) ?_)
      refine yp (pIxN rfl rfl (by omega)) ?_
      refine ycons (yloadM (S := [(b2, .cells (cells (l ++ sp2)).toArray 3 fz2)] :: [(bf, .cells (cells F).toArray 3)] :: tseg tb n db :: dseg db u1 :: H1 :: S) (v := .int .i64 (T[k]!)) (by repeat (first | exact hmem | apply List.mem_cons_of_mem)) rfl (hgT k hk) ?_)
      refine ycons (ycall (c26 (T[k]!) 20 (by decide)) rfl rfl fun r S' h => ?_)
      obtain ⟨rfl, rfl⟩ := h
      rw [hpk k hk]
      refine yp (pI rfl) ?_
      refine ynil ?_
      refine tnorm ?_
      refine yseq ?_
      refine yregion ?_
      refine yp (pS rfl) ?_
      refine yp (pS rfl) ?_
      refine yp (pI rfl) ?_
      refine yp (pIxN rfl rfl (by omega)) ?_
      refine ycons (yload1 (v := .int .i64 (k : Int)) rfl (hload sp2) ?_)
      refine yp (pIxN rfl rfl (by omega)) ?_
      have hF0 : cnt T c (l.take q) k = 0 := by rw [cnt, if_neg (by omega), if_neg hnew]; rfl
      rw [hF0] at hFk
      have hF2 : ∀ j : Nat, j < n → (F.set k 1)[j]? = some (cnt T c (l.take (q + 1)) j) := by
        intro j hj
        by_cases hjk : k = j
        · subst hjk
          rw [List.getElem?_set_self (by omega), cnt, if_neg (by omega), htk, if_pos (by simp)]; rfl
        · rw [List.getElem?_set_ne hjk, hF j hj, cnt, cnt, htk]
          have : ((j : Int) ∈ l.take q ++ [(k : Int)]) ↔ (j : Int) ∈ l.take q := by
            constructor
            · intro h
              rcases List.mem_append.1 h with h | h
              · exact h
              · have := List.mem_singleton.1 h; omega
            · exact fun h => List.mem_append.2 (.inl h)
          simp only [this]
      refine ycons (yload1 (v := .int .i64 0) rfl (intAt hFk) ?_)
      refine yp (pAdd rfl rfl (by omega)) ?_
      refine yp (pIxN rfl rfl (by omega)) ?_
      refine ycons (ystoreE (y := 1) rfl (by omega) rfl rfl (.inl rfl) ?_)
      refine ynil ?_
      refine tnorm ?_
      refine yseq ?_
      refine yseq ?_
      refine yregion ?_
      refine yp (pI rfl) ?_
      refine yp (pI rfl) ?_
      refine yp (pGt rfl rfl) ?_
      refine yp (pB rfl) ?_
      rw [decide_eq_false (show ¬ (now : Int) < aT T k from by omega)]
      refine ygT rfl ?_
      refine yop (pI rfl) ?_
      refine ygT rfl ?_
      refine yop (pI rfl) ?_
      refine ygT rfl ?_
      refine yop (pI rfl) ?_
      refine ygT rfl ?_
      refine yop (pSub rfl rfl (by omega)) ?_
      refine ygT rfl ?_
      refine yop (pLe rfl rfl) ?_
      refine ygT rfl ?_
      refine yop (pB rfl) ?_
      have hno2 : ¬ aT T k ≤ (now : Int) - (b0 : Int) := by
        rcases Nat.eq_zero_or_pos now with h0 | h0
        · have := (aT_lt T k).1; omega
        · have := hc1 h0; omega
      rw [decide_eq_false hno2]
      refine ygF rfl ?_
      refine ygF rfl ?_
      refine ygT rfl ?_
      refine yop (pPickF rfl rfl) ?_
      refine yp (pPickF rfl rfl) ?_
      refine ynil ?_
      refine tnorm ?_
      refine ycondF rfl ?_
      refine yskip ?_
      refine tnorm ?_
      refine yseq ?_
      refine yregion ?_
      refine yp (pI rfl) ?_
      refine yp (pGt rfl rfl) ?_
      refine ynil ?_
      refine tnorm ?_
      by_cases hq0 : (0 : Int) < (q : Int)
      · rw [decide_eq_true hq0]
        have hlt2 : q - 1 < U.length := by omega
        have hltl2 : q - 1 < l.length := by omega
        obtain ⟨k', hk', hUk', _, _⟩ := hf.ele U[q - 1] (List.getElem_mem hlt2)
        have hlq2 : l[q - 1] = (k' : Int) := by
          have : l[q - 1] = (U[q - 1]).1 := by subst hl0; simp
          rw [this, hUk']
        have hload2 : ∀ sp : List Int, ((cells (l ++ sp)).toArray.toList)[0 + (q - 1) * 1 + 0]? = some (.int .i64 (k' : Int)) := fun sp => (row_cell (kk := 1) (j := 0) hltl2 rfl (by omega)).trans (by rw [hlq2]; rfl)
        obtain ⟨ho1, ho2⟩ := List.pairwise_iff_getElem.1 hf.ord (q - 1) q hlt2 hlt (by omega)
        rw [hUk, hUk'] at ho1 ho2
        have ho1' : aT T k' ≤ aT T k := ho1
        have ho2' : aT T k' = aT T k → (k' : Int) < (k : Int) := ho2
        refine ycondT rfl ?_
        refine yseq ?_
        refine yregion ?_
        refine yp (pS rfl) ?_
        refine yp (pS rfl) ?_
        refine yp (pI rfl) ?_
        refine yp (pDec rfl rfl (by omega)) ?_
        refine yp (pIxN rfl rfl (by omega)) ?_
        refine ycons (yload1 (v := .int .i64 (k' : Int)) rfl (hload2 sp2) ?_)
        refine yp (pIxN rfl rfl (by omega)) ?_
        refine ycons (yloadM (S := [(b2, .cells (cells (l ++ sp2)).toArray 3 fz2)] :: [(bf, .cells (cells (F.set k 1)).toArray 3)] :: tseg tb n db :: dseg db u1 :: H1 :: S) (v := .int .i64 (T[k']!)) (by repeat (first | exact hmem | apply List.mem_cons_of_mem)) rfl (hgT k' hk') ?_)
        refine ycons (ycall (c26 (T[k']!) 20 (by decide)) rfl rfl fun r S' h => ?_)
        obtain ⟨rfl, rfl⟩ := h
        rw [hpk k' hk']
        refine yp (pI rfl) ?_
        refine ynil ?_
        refine tnorm ?_
        refine yseq ?_
        refine ydraw ?_
        refine ytq (pI rfl) ?_
        refine ytq (pI rfl) ?_
        refine ytq (pGt rfl rfl) ?_
        refine ytq (pB rfl) ?_
        rw [decide_eq_false (show ¬ aT T k < aT T k' from by omega)]
        refine ytgT rfl ?_
        refine ytq (pI rfl) ?_
        refine ytgT rfl ?_
        refine ytq (pI rfl) ?_
        refine ytgT rfl ?_
        refine ytq (pEq rfl rfl) ?_
        refine ytgT rfl ?_
        refine ytq (pB rfl) ?_
        by_cases heq : aT T k' = aT T k
        · have hlt3 := ho2' heq
          rw [decide_eq_true heq]
          refine ytgT rfl ?_
          refine ytq (pS rfl) ?_
          refine ytgT rfl ?_
          refine ytq (pI rfl) ?_
          refine ytgT rfl ?_
          refine ytq (pDec rfl rfl (by omega)) ?_
          refine ytgT rfl ?_
          refine ytq (pIxN rfl rfl (by omega)) ?_
          refine ytgT rfl ?_
          refine ytl1 (v := .int .i64 (k' : Int)) rfl (hload2 sp2) ?_
          refine ytgT rfl ?_
          refine ytq (pS rfl) ?_
          refine ytgT rfl ?_
          refine ytq (pI rfl) ?_
          refine ytgT rfl ?_
          refine ytq (pIxN rfl rfl (by omega)) ?_
          refine ytgT rfl ?_
          refine ytl1 (v := .int .i64 (k : Int)) rfl (hload sp2) ?_
          refine ytgT rfl ?_
          refine ytq (pGe rfl rfl) ?_
          refine ytgT rfl ?_
          refine ytq (pPickT rfl rfl) ?_
          refine ytq (pPickF rfl rfl) ?_
          refine ytdone ?_
          refine tnorm ?_
          rw [decide_eq_false (show ¬ (k : Int) ≤ (k' : Int) from by omega)]
          refine ycondF rfl ?_
          refine yskip ?_
          refine bnorm ?_
          refine tnorm ?_
          refine yregion ?_
          refine yp (pI rfl) ?_
          refine yp (pInc rfl rfl (by omega)) ?_
          refine yp (pI rfl) ?_
          refine ynil ?_
          refine tnorm ?_
          exact ⟨q + 1, ⟨⟨rfl, rfl, rfl, rfl, rfl, rfl, rfl, trivial⟩, by omega, F.set k 1, by rw [List.length_set]; exact hFl, hF2, .of⟩, by omega⟩
        · rw [decide_eq_false heq]
          refine ytgF rfl ?_
          refine ytgF rfl ?_
          refine ytgF rfl ?_
          refine ytgF rfl ?_
          refine ytgF rfl ?_
          refine ytgF rfl ?_
          refine ytgF rfl ?_
          refine ytgF rfl ?_
          refine ytgF rfl ?_
          refine ytgF rfl ?_
          refine ytgT rfl ?_
          refine ytq (pPickF rfl rfl) ?_
          refine ytq (pPickF rfl rfl) ?_
          refine ytdone ?_
          refine tnorm ?_
          refine ycondF rfl ?_
          refine yskip ?_
          refine bnorm ?_
          refine tnorm ?_
          refine yregion ?_
          refine yp (pI rfl) ?_
          refine yp (pInc rfl rfl (by omega)) ?_
          refine yp (pI rfl) ?_
          refine ynil ?_
          refine tnorm ?_
          exact ⟨q + 1, ⟨⟨rfl, rfl, rfl, rfl, rfl, rfl, rfl, trivial⟩, by omega, F.set k 1, by rw [List.length_set]; exact hFl, hF2, .of⟩, by omega⟩
      · rw [decide_eq_false hq0]
        refine ycondF rfl ?_
        refine yskip ?_
        refine bnorm ?_
        refine tnorm ?_
        refine yregion ?_
        refine yp (pI rfl) ?_
        refine yp (pInc rfl rfl (by omega)) ?_
        refine yp (pI rfl) ?_
        refine ynil ?_
        refine tnorm ?_
        exact ⟨q + 1, ⟨⟨rfl, rfl, rfl, rfl, rfl, rfl, rfl, trivial⟩, by omega, F.set k 1, by rw [List.length_set]; exact hFl, hF2, .of⟩, by omega⟩
    · refine yexit ?_
      refine texit ?_
      refine texit ?_
      refine bexit ?_
      refine bnorm ?_
      refine tnorm ?_
      refine yregion ?_
      refine yp (pI rfl) ?_
      refine yp (pI rfl) ?_
      refine yp (pAddN rfl rfl (by omega)) ?_
      refine yp (pI rfl) ?_
      refine ynil ?_
      refine tnorm ?_
      have htl : l.take q = l := List.take_of_length_le (by omega)
      rw [htl] at hF
      refine ⟨now + b0, ⟨(now : Int), ⟨rfl, rfl, rfl, rfl, rfl, trivial⟩, by omega, fun h => by omega, fun _ => by omega, u1, H1, F, hFl, fun j hj => ?_, hD1, .of⟩, by omega⟩
      rw [hF j hj]
      congr 1
      have hall := hf.all j hj
      rw [hl0] at hall
      unfold cnt
      by_cases h1 : aT T j ≤ c
      · rw [if_pos h1, if_neg (fun h => by have := (hall.1 h).1; omega), if_pos (by omega), if_neg (by simp)]
      · by_cases h2 : aT T j ≤ (now : Int)
        · rw [if_neg h1, if_pos (hall.2 ⟨by omega, h2⟩), if_pos h2, if_neg (by simp)]; rfl
        · rw [if_neg h1, if_neg (fun h => h2 (hall.1 h).2), if_neg h2, if_neg (by simp)]
  · have hc30 : 30 ≤ c := by have := hc1 (by omega); omega
    have hend : remT T n c = [] := by
      refine List.filter_eq_nil_iff.2 fun e he => ?_
      obtain ⟨j, hj, rfl⟩ := mem_baseT.1 he
      have := (aT_lt T j).2
      exact fun h => by have := of_decide_eq_true h; simp only at this; omega
    rw [hend] at hD
    have hF1 : ∀ j : Nat, j < n → F[j]? = some 1 := by
      intro j hj
      rw [hF j hj, cnt, if_pos (by have := (aT_lt T j).2; omega)]
      simp
    refine yexit ?_
    refine texit ?_
    refine texit ?_
    refine bexit ?_
    refine tnorm ?_
    refine yseq ?_
    refine yseq ?_
    refine yregion ?_
    refine yp pC ?_
    refine ynil ?_
    refine tnorm ?_
    refine yblock ?_
    refine yloop (σ := Nat) (fun j E S' => Has E [(5, .pointer (some ⟨tb, 0, none⟩)), (7, .slice (some ⟨bf, 0, none⟩) n n), (13, .int .i64 j)] ∧ j ≤ n ∧ Junk S' ([(bf, .cells (cells F).toArray 3)] :: tseg tb n db :: dseg db u :: H :: S)) (fun j => n - j) 0 ⟨⟨rfl, rfl, rfl, trivial⟩, Nat.zero_le _, .of⟩ fun j E S' ⟨hE, hj, hJ⟩ => ?_
    obtain ⟨E0, e0⟩ := has_puts hE; subst e0; clear hE
    refine yforget hJ ?_
    refine yseq ?_
    refine yseq ?_
    refine yregion ?_
    refine yp (pI rfl) ?_
    refine yp (pS rfl) ?_
    refine yp (pLen rfl) ?_
    refine yp (pLt rfl rfl) ?_
    refine ynil ?_
    refine tnorm ?_
    refine ycondD rfl (fun h => ?_) (fun h => ?_)
    · refine yskip ?_
      refine tnorm ?_
      refine yseq ?_
      refine yblock ?_
      refine yseq ?_
      refine yregion ?_
      refine yp (pS rfl) ?_
      refine yp (pI rfl) ?_
      refine yp (pIxN rfl rfl (by omega)) ?_
      refine ycons (yload1 rfl (intAt (hF1 j (by omega))) ?_)
      refine yp (pNe rfl rfl) ?_
      refine ynil ?_
      refine tnorm ?_
      refine ycondF rfl ?_
      refine yskip ?_
      refine bnorm ?_
      refine tnorm ?_
      refine yregion ?_
      refine yp (pI rfl) ?_
      refine yp (pInc rfl rfl (by omega)) ?_
      refine yp (pI rfl) ?_
      refine ynil ?_
      refine tnorm ?_
      exact ⟨j + 1, ⟨⟨rfl, rfl, rfl, trivial⟩, by omega, .of⟩, by omega⟩
    · refine yexit ?_
      refine texit ?_
      refine texit ?_
      refine bexit ?_
      refine tnorm ?_
      refine yseq ?_
      refine yregion ?_
      refine yp (pP rfl) ?_
      refine ycons (ycall (c25 (tb := tb) (db := db) (most := n) hD) rfl rfl fun r S' h => ?_)
      obtain ⟨rfl, rfl⟩ := h
      refine yp (pEq rfl rfl) ?_
      refine yp (pB rfl) ?_
      refine ygT rfl ?_
      refine ycall c14 rfl rfl fun r S' h => ?_
      obtain ⟨rfl, rfl⟩ := h
      refine yp (pPickT rfl rfl) ?_
      refine yp (pB rfl) ?_
      refine ynil ?_
      refine tnorm ?_
      refine yret ?_
      exact yfin (rB rfl) ⟨_, .of, rfl, rfl⟩
end Go.Proofs.Ytmgiamagocefcaa
