/- The arena (chapter 6): more of its plain law. -/
import Derived.Test.YtkdbajfaaifkaaaArenaL
namespace Go.Proofs.Ytkdbajfaaifkaaa
open Go.Xs

theorem zlen (n : Nat) : (zeros n).length = n := by simp [zeros]
theorem alloc_get {D : List (Option Bt)} {m j : Nat} {b : Bt} (h : (allocD D m)[j]? = some (some b)) : (j + 1 = hnd D ∧ b = zeros m) ∨ (j + 1 ≠ hnd D ∧ D[j]? = some (some b)) := by
  have hp := hnd_pos D
  have hl := hnd_le D
  unfold allocD at h
  split at h
  · next hc =>
    rw [List.getElem?_set] at h
    split at h
    · next hj =>
      split at h
      · exact .inl ⟨by omega, by simpa using h.symm⟩
      · cases h
    · next hj => exact .inr ⟨by omega, h⟩
  · next hc =>
    by_cases hlt : j < D.length
    · rw [List.getElem?_append_left hlt] at h
      exact .inr ⟨by omega, h⟩
    · rw [List.getElem?_append_right (by omega)] at h
      cases hk : j - D.length with
      | zero => rw [hk] at h; exact .inl ⟨by omega, by simpa using h.symm⟩
      | succ k => rw [hk] at h; simp at h
theorem alloc_at (D : List (Option Bt)) (m : Nat) : (allocD D m)[hnd D - 1]? = some (some (zeros m)) := by
  have hp := hnd_pos D
  have hl := hnd_le D
  unfold allocD
  split
  · next hc => rw [List.getElem?_set_self (by omega)]
  · next hc => rw [List.getElem?_append_right (by omega), show hnd D - 1 - D.length = 0 from by omega]; rfl
theorem alloc_getB (D : List (Option Bt)) (m : Nat) : getB (allocD D m) ((hnd D : Nat) : Int) = some (zeros m) := by
  have hp := hnd_pos D
  rw [show ((hnd D : Nat) : Int) = ((hnd D - 1 : Nat) : Int) + 1 from by omega, getB_idx, alloc_at]; rfl
theorem alloc_used (D : List (Option Bt)) (m : Nat) : usedD (allocD D m) = usedD D + costN m := by
  have hp := hnd_pos D
  have hno := hnd_none D
  unfold allocD
  split
  · next hc =>
    have hlt : hnd D - 1 < D.length := by omega
    have hd : D[hnd D - 1]? = some none := by
      rw [List.getElem?_eq_getElem hlt] at hno ⊢
      cases hx : D[hnd D - 1] with
      | none => rfl
      | some x => rw [hx] at hno; cases hno
    have := usedD_set (y := some (zeros m)) hd
    simp only [wgt, zlen] at this; omega
  · rw [usedD_append, usedD_cons]
    simp [wgt, zlen, usedD]
theorem alloc_getB_ne {D : List (Option Bt)} {m : Nat} {h : Int} (hne : h ≠ ((hnd D : Nat) : Int)) : getB (allocD D m) h = getB D h := by
  have hp := hnd_pos D
  have hl := hnd_le D
  by_cases h1 : 1 ≤ h
  · obtain ⟨j, rfl⟩ : ∃ j : Nat, h = (j : Int) + 1 := ⟨(h - 1).toNat, by omega⟩
    rw [getB_idx, getB_idx]
    unfold allocD
    split
    · rw [List.getElem?_set_ne (by omega)]
    · by_cases hlt : j < D.length
      · rw [List.getElem?_append_left hlt]
      · rw [List.getElem?_eq_none (by simp; omega), List.getElem?_eq_none (by omega)]
  · unfold getB; rw [if_neg h1, if_neg h1]
theorem getB_get {D : List (Option Bt)} {h : Int} {b : Bt} (hg : getB D h = some b) : ∃ j : Nat, h = (j : Int) + 1 ∧ D[j]? = some (some b) := by
  by_cases h1 : 1 ≤ h
  · obtain ⟨j, rfl⟩ : ∃ j : Nat, h = (j : Int) + 1 := ⟨(h - 1).toNat, by omega⟩
    rw [getB_idx] at hg
    refine ⟨j, rfl, ?_⟩
    cases hd : D[j]? with
    | none => rw [hd] at hg; cases hg
    | some x => rw [hd] at hg; exact congrArg some hg
  · unfold getB at hg; rw [if_neg h1] at hg; cases hg
theorem free_get {D : List (Option Bt)} {h : Int} {j : Nat} {b : Bt} (hj : (freeD D h)[j]? = some (some b)) : D[j]? = some (some b) ∧ ((j : Int) + 1 ≠ h) := by
  unfold freeD at hj
  split at hj
  · next hs =>
    obtain ⟨c, hc⟩ := Option.isSome_iff_exists.1 hs
    obtain ⟨i, rfl, hi⟩ := getB_get hc
    rw [show ((i : Int) + 1 - 1).toNat = i from by omega, List.getElem?_set] at hj
    split at hj
    · split at hj <;> cases hj
    · exact ⟨hj, by omega⟩
  · next hs =>
    refine ⟨hj, fun e => hs ?_⟩
    rw [← e, getB_idx, hj]; rfl
theorem free_getB_ne {D : List (Option Bt)} {h k : Int} (hne : k ≠ h) : getB (freeD D h) k = getB D k := by
  unfold freeD
  split
  · next hs =>
    obtain ⟨c, hc⟩ := Option.isSome_iff_exists.1 hs
    obtain ⟨i, rfl, hi⟩ := getB_get hc
    by_cases h1 : 1 ≤ k
    · obtain ⟨j, rfl⟩ : ∃ j : Nat, k = (j : Int) + 1 := ⟨(k - 1).toNat, by omega⟩
      rw [getB_idx, getB_idx, show ((i : Int) + 1 - 1).toNat = i from by omega, List.getElem?_set_ne (by omega)]
    · unfold getB; rw [if_neg h1, if_neg h1]
  · rfl
theorem used_none : ∀ {D : List (Option Bt)}, (∀ (j : Nat) (b : Bt), D[j]? ≠ some (some b)) → usedD D = 0
  | [], _ => rfl
  | o :: D, h => by
    have ih := used_none (D := D) fun j b hj => h (j + 1) b (by simpa using hj)
    cases o with
    | none => rw [usedD_cons, ih]; rfl
    | some b => exact absurd rfl (h 0 b)
/-- a whole block is written, and read -/
theorem write_all {D : List (Option Bt)} {h : Int} {b Y : Bt} (hg : getB D h = some b) (hl : Y.length = b.length) : partE D h 0 (Y.length : Int) = 0 ∧ writeD D h 0 Y = D.set (h - 1).toNat (some Y) := by
  have hp : partE D h 0 (Y.length : Int) = 0 := by unfold partE; rw [hg]; exact if_neg (by omega)
  refine ⟨hp, ?_⟩
  unfold writeD
  rw [if_pos hp, hg]
  congr 2
  unfold spl
  simp [hl]
theorem read_all {D : List (Option Bt)} {h : Int} {b : Bt} (hg : getB D h = some b) : partE D h 0 (b.length : Int) = 0 ∧ readB D h 0 (b.length : Int) = b := by
  have hp : partE D h 0 (b.length : Int) = 0 := by unfold partE; rw [hg]; exact if_neg (by omega)
  refine ⟨hp, ?_⟩
  unfold readB
  rw [if_pos hp, hg]
  simp
theorem set_used {D : List (Option Bt)} {h : Int} {b Y : Bt} (hg : getB D h = some b) (hl : Y.length = b.length) : usedD (D.set (h - 1).toNat (some Y)) = usedD D := by
  obtain ⟨j, rfl, hj⟩ := getB_get hg
  rw [show ((j : Int) + 1 - 1).toNat = j from by omega]
  have := usedD_set (y := some Y) hj
  simp only [wgt, hl] at this; omega
theorem set_getB {D : List (Option Bt)} {h : Int} {b Y : Bt} (hg : getB D h = some b) (k : Int) : getB (D.set (h - 1).toNat (some Y)) k = if k = h then some Y else getB D k := by
  obtain ⟨j, rfl, hj⟩ := getB_get hg
  have hlt := (List.getElem?_eq_some_iff.1 hj).1
  rw [show ((j : Int) + 1 - 1).toNat = j from by omega]
  by_cases h1 : 1 ≤ k
  · obtain ⟨i, rfl⟩ : ∃ i : Nat, k = (i : Int) + 1 := ⟨(k - 1).toNat, by omega⟩
    rw [getB_idx, getB_idx]
    by_cases hij : i = j
    · subst hij
      rw [if_pos rfl, List.getElem?_set_self hlt]; rfl
    · rw [if_neg (by omega), List.getElem?_set_ne (by omega)]
  · unfold getB; rw [if_neg h1, if_neg h1, if_neg (by omega)]
theorem set_get' {D : List (Option Bt)} {i j : Nat} {x y : Option Bt} (h : (D.set i x)[j]? = some y) : (j = i ∧ y = x) ∨ (j ≠ i ∧ D[j]? = some y) := by
  rw [List.getElem?_set] at h
  by_cases hij : i = j
  · rw [if_pos hij] at h
    split at h
    · exact .inl ⟨hij.symm, by simpa using h.symm⟩
    · cases h
  · rw [if_neg hij] at h
    exact .inr ⟨fun e => hij e.symm, h⟩
theorem freeOf_used {D : List (Option Bt)} {h : Int} {b : Bt} (hg : getB D h = some b) : usedD (freeD D h) + costN b.length = usedD D := by
  obtain ⟨j, rfl, hj⟩ := getB_get hg
  unfold freeD
  rw [if_pos (by rw [hg]; rfl), show ((j : Int) + 1 - 1).toNat = j from by omega]
  have := usedD_set (y := none) hj
  simp only [wgt] at this; omega
end Go.Proofs.Ytkdbajfaaifkaaa
