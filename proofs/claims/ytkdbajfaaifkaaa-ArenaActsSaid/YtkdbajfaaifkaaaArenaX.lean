/- The arena (chapter 6): Compact and Alloc. -/
import Derived.Test.YtkdbajfaaifkaaaArenaW
namespace Go.Proofs.Ytkdbajfaaifkaaa
open Go.Xs
open Enc (enc)

/-- while blocks are moved: those of U still stand where they stood, in order, all others lie ahead of t -/
structure CInv (N : Nat) (D : List (Option Bt)) (T : Tab) (B : Bt) (t : Nat) (U : List Int) : Prop where
  len : B.length = N
  big : 1024 ≤ N ∧ N ≤ 1048576
  few : T.length * 16 ≤ N
  dofe : dof T = D
  sum : t + (U.map fun h => wgt (getB D h)).sum = usedD D
  fit : usedD D ≤ N
  inn : ∀ (i p : Nat) (b : Bt), T[i]? = some (some (p, b)) → b.length ≤ 4096 ∧ p + costN b.length ≤ N ∧ ∀ x, x < b.length → B[p + 8 + x]? = b[x]?
  apart : ∀ (i j p : Nat) (b : Bt) (q : Nat) (c : Bt), i ≠ j → T[i]? = some (some (p, b)) → T[j]? = some (some (q, c)) → p + costN b.length ≤ q ∨ q + costN c.length ≤ p
  done : ∀ (i p : Nat) (b : Bt), T[i]? = some (some (p, b)) → ((i : Int) + 1) ∉ U → p + costN b.length ≤ t
  todo : ∀ (i p : Nat) (b : Bt), T[i]? = some (some (p, b)) → ((i : Int) + 1) ∈ U → t ≤ p
  isHe : ∀ h ∈ U, isH T h
  ord : U.Pairwise (fun x y => pos T x < pos T y)

theorem getB_idx (D : List (Option Bt)) (i : Nat) : getB D ((i : Int) + 1) = (D[i]?).join := by
  unfold getB
  rw [if_pos (by omega), show ((i : Int) + 1 - 1).toNat = i from by omega]
theorem pos_set {T : Tab} {i : Nat} {x : Option (Nat × Bt)} {h : Int} (hh : 1 ≤ h) (hne : h ≠ (i : Int) + 1) : pos (T.set i x) h = pos T h := by
  unfold pos
  rw [List.getElem?_set_ne (by omega)]
theorem isH_set {T : Tab} {i : Nat} {x : Option (Nat × Bt)} {h : Int} (hh : isH T h) (hne : h ≠ (i : Int) + 1) : isH (T.set i x) h := by
  obtain ⟨j, p, b, rfl, hj⟩ := hh
  exact ⟨j, p, b, rfl, by rw [List.getElem?_set_ne (by omega)]; exact hj⟩

theorem CInv.step {N : Nat} {D : List (Option Bt)} {T : Tab} {B B' : Bt} {t i p : Nat} {b : Bt} {U : List Int} (h : CInv N D T B t (((i : Int) + 1) :: U)) (hi : T[i]? = some (some (p, b)))
    (hB : B'.length = N) (hout : ∀ x, (x < t ∨ t + 8 + b.length ≤ x) → B'[x]? = B[x]?) (hin : ∀ x, x < b.length → B'[t + 8 + x]? = b[x]?) :
    CInv N D (T.set i (some (t, b))) B' (t + costN b.length) U := by
  have htp : t ≤ p := h.todo i p b hi (by simp)
  obtain ⟨h4, hpN, _⟩ := h.inn i p b hi
  have hc := (costN_is b.length h4).2.1
  obtain ⟨hord1, hord2⟩ := List.pairwise_cons.1 h.ord
  have hiU : ((i : Int) + 1) ∉ U := fun hm => by have := hord1 _ hm; omega
  -- those behind
  have htodo : ∀ (j q : Nat) (c : Bt), j ≠ i → T[j]? = some (some (q, c)) → ((j : Int) + 1) ∈ U → t + costN b.length ≤ q := by
    intro j q c hne hj hm
    have h1 := hord1 _ hm
    rw [pos_at hi, pos_at hj] at h1
    rcases h.apart i j p b q c (fun e => hne e.symm) hi hj with h2 | h2 <;> omega
  have hdone : ∀ (j q : Nat) (c : Bt), j ≠ i → T[j]? = some (some (q, c)) → ((j : Int) + 1) ∉ U → q + costN c.length ≤ t := by
    intro j q c hne hj hm
    exact h.done j q c hj (by simp; exact ⟨by omega, hm⟩)
  refine ⟨hB, h.big, by rw [List.length_set]; exact h.few, ?_, ?_, h.fit, fun j q c hj => ?_, fun j k q c q' c' hne hj hk => ?_, fun j q c hj hm => ?_, fun j q c hj hm => ?_, fun x hx => ?_, ?_⟩
  · rw [dof_set, ← h.dofe]
    refine List.ext_getElem? fun j => ?_
    rw [List.getElem?_set]
    split
    · next hij =>
      subst hij
      split
      · rw [dof_get hi]; rfl
      · next hh => rw [dof_len] at hh; exact absurd (List.getElem?_eq_some_iff.1 hi).1 hh
    · rfl
  · have h1 := h.sum
    have h2 : wgt (getB D ((i : Int) + 1)) = costN b.length := by rw [← h.dofe, getB_idx, dof_get hi]; rfl
    rw [List.map_cons, List.sum_cons, h2] at h1
    omega
  · rcases set_get hj with ⟨_, h1⟩ | ⟨hne, h1⟩
    · obtain ⟨rfl, rfl⟩ : q = t ∧ c = b := by simpa using h1
      exact ⟨h4, by omega, hin⟩
    · obtain ⟨h5, h6, h7⟩ := h.inn j q c h1
      have hc2 := (costN_is c.length h5).2.1
      refine ⟨h5, h6, fun x hx => ?_⟩
      rw [hout _ ?_]
      · exact h7 x hx
      · by_cases hm : ((j : Int) + 1) ∈ U
        · have := htodo j q c hne h1 hm; omega
        · have := hdone j q c hne h1 hm; omega
  · rcases set_get hj with ⟨hji, h1⟩ | ⟨hji, h1⟩ <;> rcases set_get hk with ⟨hki, h2⟩ | ⟨hki, h2⟩
    · omega
    · obtain ⟨rfl, rfl⟩ : q = t ∧ c = b := by simpa using h1
      by_cases hm : ((k : Int) + 1) ∈ U
      · exact .inl (htodo k q' c' hki h2 hm)
      · exact .inr (hdone k q' c' hki h2 hm)
    · obtain ⟨rfl, rfl⟩ : q' = t ∧ c' = b := by simpa using h2
      by_cases hm : ((j : Int) + 1) ∈ U
      · exact .inr (htodo j q c hji h1 hm)
      · exact .inl (hdone j q c hji h1 hm)
    · exact h.apart j k q c q' c' hne h1 h2
  · rcases set_get hj with ⟨_, h1⟩ | ⟨hne, h1⟩
    · obtain ⟨rfl, rfl⟩ : q = t ∧ c = b := by simpa using h1
      omega
    · have := hdone j q c hne h1 hm; omega
  · rcases set_get hj with ⟨hji, h1⟩ | ⟨hne, h1⟩
    · rw [hji] at hm; exact absurd hm hiU
    · exact htodo j q c hne h1 hm
  · exact isH_set (h.isHe x (by simp [hx])) (fun e => hiU (e ▸ hx))
  · refine hord2.imp_of_mem fun {x y} hx hy hxy => ?_
    obtain ⟨j, _, _, rfl, _⟩ := h.isHe x (by simp [hx])
    obtain ⟨k, _, _, rfl, _⟩ := h.isHe y (by simp [hy])
    rw [pos_set (by omega) (fun e => hiU (e ▸ hx)), pos_set (by omega) (fun e => hiU (e ▸ hy))]
    exact hxy
theorem sum_hlist : ∀ (D : List (Option Bt)) (i : Nat) (E : List (Option Bt)), (∀ j, E[i + j]? = D[j]?) → (((hlist i D).map (·.1)).map fun h => wgt (getB E h)).sum = usedD D
  | [], i, E, h => rfl
  | o :: D, i, E, h => by
    have h0 := h 0
    have h1 : ∀ j, E[i + 1 + j]? = D[j]? := fun j => by have := h (j + 1); rw [show i + 1 + j = i + (j + 1) from by omega]; simpa using this
    have ih := sum_hlist D (i + 1) E h1
    cases o with
    | none =>
      rw [usedD_cons, show wgt none = 0 from rfl, Nat.zero_add]
      exact ih
    | some b =>
      have h2 : wgt (getB E ((i : Int) + 1)) = wgt (some b) := by
        rw [getB_idx]
        simp at h0
        rw [h0]; rfl
      rw [usedD_cons, hlist, List.map_cons, List.map_cons, List.sum_cons, ih, h2]
/-- at the start -/
theorem CInv.start {N : Nat} {T : Tab} {B : Bt} {used top : Nat} {U : List Int} (h : Inv N T B used top) (hU : U.Perm ((hlist 0 (dof T)).map (·.1))) (ho : U.Pairwise fun x y => ¬ pos T y < pos T x) : CInv N (dof T) T B 0 U := by
  have hm : ∀ (i p : Nat) (b : Bt), T[i]? = some (some (p, b)) → ((i : Int) + 1) ∈ U := fun i p b hi => by
    rw [hU.mem_iff, List.mem_map]
    exact ⟨_, (hlist_mem _ _ _).2 ⟨i, b, dof_get hi, rfl⟩, by simp⟩
  have hH : ∀ x ∈ U, isH T x := fun x hx => by
    rw [hU.mem_iff, List.mem_map] at hx
    obtain ⟨e, he, rfl⟩ := hx
    obtain ⟨j, b, hj, rfl⟩ := (hlist_mem _ _ _).1 he
    obtain ⟨i, p, e1, e2⟩ := getB_some (T := T) (h := (j : Int) + 1) (b := b) (by rw [getB_at, hj]; rfl)
    exact ⟨i, p, b, by simp only [Nat.zero_add]; exact e1, e2⟩
  have hnd : U.Nodup := by
    refine hU.nodup_iff.2 ?_
    have : ∀ (D : List (Option Bt)) (i : Nat), ((hlist i D).map (·.1)).Nodup ∧ ∀ x ∈ (hlist i D).map (·.1), (i : Int) < x := by
      intro D
      induction D with
      | nil => intro i; exact ⟨.nil, by simp [hlist]⟩
      | cons o D ih =>
        intro i
        obtain ⟨h1, h2⟩ := ih (i + 1)
        have h3 : ∀ x ∈ (hlist (i + 1) D).map (·.1), (i : Int) + 1 < x := fun x hx => by have := h2 x hx; omega
        cases o with
        | none => exact ⟨h1, fun x hx => by have := h3 x hx; omega⟩
        | some b =>
          refine ⟨List.nodup_cons.2 ⟨fun hm => by have := h3 _ hm; simp at this, h1⟩, fun x hx => ?_⟩
          rcases List.mem_cons.1 hx with rfl | hx
          · show (i : Int) < (i : Int) + 1; omega
          · have := h3 x hx; omega
    exact (this _ _).1
  refine ⟨h.len, h.big, h.few, rfl, ?_, by have := h.sum; have := h.ut; have := h.tn; omega, fun i p b hi => ?_, h.apart, fun i p b hi hn => absurd (hm i p b hi) hn, fun _ _ _ _ _ => Nat.zero_le _, hH, ?_⟩
  · have h1 : (U.map fun h => wgt (getB (dof T) h)).sum = (((hlist 0 (dof T)).map (·.1)).map fun h => wgt (getB (dof T) h)).sum := (hU.map _).sum_nat
    rw [h1, sum_hlist (dof T) 0 (dof T) (fun j => by rw [Nat.zero_add])]
    omega
  · obtain ⟨h1, h2, h3⟩ := h.inn i p b hi
    have := h.tn
    exact ⟨h1, by omega, h3⟩
  · refine (List.Pairwise.and ho hnd).imp_of_mem fun {x y} hx hy ⟨h1, h2⟩ => ?_
    obtain ⟨i, p, b, rfl, hi⟩ := hH x hx
    obtain ⟨j, q, c, rfl, hj⟩ := hH y hy
    rw [pos_at hi, pos_at hj] at h1 ⊢
    have h4 := (costN_is b.length (h.inn i p b hi).1).2.1
    have h5 := (costN_is c.length (h.inn j q c hj).1).2.1
    rcases h.apart i j p b q c (fun e => h2 (by rw [e])) hi hj with h3 | h3 <;> omega
theorem CInv.fin {N : Nat} {D : List (Option Bt)} {T : Tab} {B : Bt} {t : Nat} (h : CInv N D T B t []) : Inv N T B t t ∧ t = usedD D := by
  have hs := h.sum
  simp at hs
  have hf := h.fit
  refine ⟨⟨h.len, h.big, h.few, Nat.le_refl _, by omega, by rw [h.dofe]; exact hs, fun i p b hi => ?_, h.apart⟩, hs⟩
  obtain ⟨h1, h2, h3⟩ := h.inn i p b hi
  exact ⟨h1, h.done i p b hi (by simp), h3⟩
end Go.Proofs.Ytkdbajfaaifkaaa
