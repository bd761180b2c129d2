/- TimerOnce: who fires when. -/
import Derived.Test.YtmgiamagocefcaaLawT
import Derived.Test.YtmgiamagocefcaaFrame
import Derived.Test.YtmgiamagocefcaaTypes
namespace Go.Proofs.Ytmgiamagocefcaa
open Go.Xs
open Enc (enc)

/-- the time of the one of that number -/
def aT (T : List Int) (j : Nat) : Int := round (T.getD j 0) 20
theorem aT_lt (T : List Int) (j : Nat) : 0 ≤ aT T j ∧ aT T j < 20 := round_lt _ _ (by decide)
def baseT (T : List Int) (m : Nat) : List (Int × Int) := (List.range m).map fun (j : Nat) => ((j : Int), aT T j)
theorem baseT_length (T : List Int) (m : Nat) : (baseT T m).length = m := by simp [baseT]
theorem baseT_succ (T : List Int) (m : Nat) : baseT T (m + 1) = baseT T m ++ [((m : Int), aT T m)] := by simp [baseT, List.range_succ]
theorem mem_baseT {T : List Int} {m : Nat} {e : Int × Int} : e ∈ baseT T m ↔ ∃ j : Nat, j < m ∧ e = ((j : Int), aT T j) := by
  constructor
  · intro h
    obtain ⟨j, hj, rfl⟩ := List.mem_map.1 h
    exact ⟨j, List.mem_range.1 hj, rfl⟩
  · rintro ⟨j, hj, rfl⟩
    exact List.mem_map.2 ⟨j, List.mem_range.2 hj, rfl⟩
theorem idx_no {k : Int} : ∀ {L : List (Int × Int)}, (∀ e ∈ L, e.1 ≠ k) → idx k L = none
  | [], _ => rfl
  | e :: L, h => by
    rw [idx, if_neg (h e List.mem_cons_self), idx_no fun e he => h e (List.mem_cons_of_mem _ he)]
    rfl
theorem dropK_flt (k : Int) : ∀ {L : List (Int × Int)}, (L.map (·.1)).Nodup → dropK k L = L.filter fun e => decide (e.1 ≠ k)
  | [], _ => rfl
  | e :: L, h => by
    rw [List.map_cons, List.nodup_cons] at h
    by_cases hk : e.1 = k
    · have : dropK k (e :: L) = L := by simp [dropK, idx, hk]
      rw [this, List.filter_cons_of_neg (by simpa using hk)]
      refine (List.filter_eq_self.2 fun x hx => ?_).symm
      refine decide_eq_true fun hxk => h.1 ?_
      rw [hk, ← hxk]
      exact List.mem_map.2 ⟨x, hx, rfl⟩
    · have : dropK k (e :: L) = e :: dropK k L := by
        simp only [dropK, idx, if_neg hk]
        cases idx k L <;> rfl
      rw [this, dropK_flt k h.2, List.filter_cons_of_pos (by simpa using hk)]
theorem dropAll_flt : ∀ (ks : List Int) {L : List (Int × Int)}, (L.map (·.1)).Nodup → dropAll ks L = L.filter fun e => decide (e.1 ∉ ks)
  | [], L, _ => (List.filter_eq_self.2 fun x _ => by simp).symm
  | k :: ks, L, h => by
    have h2 : ((dropK k L).map (·.1)).Nodup := by
      rw [dropK_flt k h]
      exact h.sublist (List.Sublist.map _ List.filter_sublist)
    show dropAll ks (dropK k L) = _
    rw [dropAll_flt ks h2, dropK_flt k h, List.filter_filter]
    refine List.filter_congr fun e _ => ?_
    by_cases h1 : e.1 = k <;> by_cases h3 : e.1 ∈ ks <;> simp [h1, h3]

theorem baseT_keys (T : List Int) (m : Nat) : ((baseT T m).map (·.1)).Nodup := by
  rw [baseT, List.map_map]
  refine List.Pairwise.map _ (fun a b h => ?_) List.nodup_range
  show (a : Int) ≠ b
  omega
theorem baseT_up (T : List Int) (m : Nat) : (baseT T m).Pairwise (fun x y => x.1 < y.1) := by
  refine List.pairwise_map.2 (List.pairwise_lt_range.imp fun {a b} hab => ?_)
  show (a : Int) < b
  omega
/-- those whose time is behind c -/
def remT (T : List Int) (m : Nat) (c : Int) : List (Int × Int) := (baseT T m).filter fun e => decide (c < e.2)
theorem remT_keys (T : List Int) (m : Nat) (c : Int) : ((remT T m c).map (·.1)).Nodup := (baseT_keys T m).sublist (List.Sublist.map _ List.filter_sublist)
theorem remT_up (T : List Int) (m : Nat) (c : Int) : (remT T m c).Pairwise (fun x y => x.1 < y.1) := (baseT_up T m).sublist List.filter_sublist

structure Fires (T : List Int) (n : Nat) (c now : Int) (U : List (Int × Int)) : Prop where
  ele : ∀ e ∈ U, ∃ j : Nat, j < n ∧ e = ((j : Int), aT T j) ∧ c < aT T j ∧ aT T j ≤ now
  keys : (U.map (·.1)).Nodup
  ord : U.Pairwise (fun x y => x.2 ≤ y.2 ∧ (x.2 = y.2 → x.1 < y.1))
  all : ∀ j : Nat, j < n → ((j : Int) ∈ U.map (·.1) ↔ c < aT T j ∧ aT T j ≤ now)

theorem fires (T : List Int) (n : Nat) (c now : Int) : Fires T n c now (upto now (remT T n c)) := by
  have hs := (isort_SS (key := byAt) (remT T n c)).filter now
  have hU : upto now (remT T n c) = (isort byAt (remT T n c)).filter fun e => decide (byAt e ≤ now) := rfl
  rw [← hU] at hs
  generalize upto now (remT T n c) = U at hs hU
  have hmem : ∀ e, e ∈ U ↔ e ∈ remT T n c ∧ e.2 ≤ now := by
    intro e
    rw [hs.mem e, List.mem_filter]
    exact and_congr_right fun _ => by rw [decide_eq_true_iff]; rfl
  have hele : ∀ e ∈ U, ∃ j : Nat, j < n ∧ e = ((j : Int), aT T j) ∧ c < aT T j ∧ aT T j ≤ now := by
    intro e he
    obtain ⟨h1, h2⟩ := (hmem e).1 he
    obtain ⟨h3, h4⟩ := List.mem_filter.1 h1
    obtain ⟨j, hj, rfl⟩ := mem_baseT.1 h3
    exact ⟨j, hj, rfl, of_decide_eq_true h4, h2⟩
  have hord : U.Pairwise (fun x y => x.2 ≤ y.2 ∧ (x.2 = y.2 → x.1 < y.1)) := by
    rw [List.pairwise_iff_getElem]
    intro i j hi hj hij
    refine ⟨List.pairwise_iff_getElem.1 hs.1 i j hi hj hij, fun heq => ?_⟩
    have hk := hs.2 (byAt U[i])
    have hup : (keyed byAt (byAt U[i]) U).Pairwise (fun x y => x.1 < y.1) := by
      rw [hk]
      exact (remT_up T n c).sublist (List.Sublist.trans List.filter_sublist List.filter_sublist)
    rw [keyed, List.pairwise_filter] at hup
    refine List.pairwise_iff_getElem.1 hup i j hi hj hij (by simp) ?_
    have : byAt U[j] = byAt U[i] := heq.symm
    simpa using this
  refine ⟨hele, ?_, hord, fun j hj => ?_⟩
  · refine List.pairwise_map.2 (List.pairwise_iff_getElem.2 fun i j hi hj hij hne => ?_)
    obtain ⟨h1, h2⟩ := List.pairwise_iff_getElem.1 hord i j hi hj hij
    obtain ⟨x, _, hx, _⟩ := hele U[i] (List.getElem_mem hi)
    obtain ⟨y, _, hy, _⟩ := hele U[j] (List.getElem_mem hj)
    rw [hx, hy] at hne h2
    have hxy0 : (x : Int) = y := hne
    have hxy : x = y := by omega
    subst hxy
    have := h2 rfl
    simp at this
  · constructor
    · intro h
      obtain ⟨e, he, hej⟩ := List.mem_map.1 h
      obtain ⟨i, _, rfl, h1, h2⟩ := hele e he
      have hij : (i : Int) = j := hej
      have : i = j := by omega
      subst this
      exact ⟨h1, h2⟩
    · intro ⟨h1, h2⟩
      refine List.mem_map.2 ⟨((j : Int), aT T j), (hmem _).2 ⟨List.mem_filter.2 ⟨mem_baseT.2 ⟨j, hj, rfl⟩, decide_eq_true h1⟩, h2⟩, rfl⟩

theorem fires_drop (T : List Int) (n : Nat) (c now : Int) (hc : c ≤ now) : dropAll ((upto now (remT T n c)).map (·.1)) (remT T n c) = remT T n now := by
  have hf := fires T n c now
  rw [dropAll_flt _ (remT_keys T n c)]
  unfold remT at hf ⊢
  rw [List.filter_filter]
  refine List.filter_congr fun e he => ?_
  obtain ⟨j, hj, rfl⟩ := mem_baseT.1 he
  have h := hf.all j hj
  by_cases h1 : c < aT T j
  · by_cases h2 : aT T j ≤ now
    · have h3 := h.2 ⟨h1, h2⟩
      rw [decide_eq_false (show ¬ (((j : Int), aT T j).1 ∉ _) from fun h4 => h4 h3), decide_eq_false (show ¬ (now < ((j : Int), aT T j).2) from by show ¬ now < aT T j; omega)]
      rfl
    · have h3 : (j : Int) ∉ _ := fun h4 => h2 (h.1 h4).2
      rw [decide_eq_true (show ((j : Int), aT T j).1 ∉ _ from h3), decide_eq_true (show now < ((j : Int), aT T j).2 from by show now < aT T j; omega), decide_eq_true (show c < ((j : Int), aT T j).2 from h1)]
      rfl
  · rw [decide_eq_false (show ¬ c < ((j : Int), aT T j).2 from h1), decide_eq_false (show ¬ (now < ((j : Int), aT T j).2) from by show ¬ now < aT T j; omega)]
    simp
end Go.Proofs.Ytmgiamagocefcaa
