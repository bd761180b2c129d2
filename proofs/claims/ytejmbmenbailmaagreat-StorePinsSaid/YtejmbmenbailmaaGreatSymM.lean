/- slices.SortStableFunc: symMerge. -/
import Derived.Test.YtejmbmenbailmaaGreatSym
namespace Go.Xs
open Enc (enc)
variable {P : Program} {α : Type} [Enc α] {S : zo}
def Sorted {β : Type} (key : β → Int) (L : List β) : Prop := L.Pairwise (fun a b => key a ≤ key b)
theorem Sorted.Xl {β : Type} {key : β → Int} {Y : List β} (h : Sorted key Y) {t : Nat} {w : β} (hw : Y[t]? = some w) : ∀ e ∈ Y.take (t + 1), key e ≤ key w := by
 obtain ⟨ht, rfl⟩ := List.getElem?_eq_some_iff.1 hw;intro e he;obtain ⟨i, hi, rfl⟩ := List.mem_iff_getElem.1 he;simp only [List.length_take] at hi;rw [List.getElem_take];rcases Nat.lt_or_ge i t with h1 | h1
 ·exact List.pairwise_iff_getElem.1 h i t (by omega) ht h1
 ·have : i = t := by omega
  subst this; exact Int.le_refl _
theorem Sorted.Xv {β : Type} {key : β → Int} {Y : List β} (h : Sorted key Y) {t : Nat} {w : β} (hw : Y[t]? = some w) : ∀ e ∈ Y.drop t, key w ≤ key e := by
 obtain ⟨ht, rfl⟩ := List.getElem?_eq_some_iff.1 hw;intro e he;obtain ⟨i, hi, rfl⟩ := List.mem_iff_getElem.1 he;simp only [List.length_drop] at hi;rw [List.getElem_drop];rcases Nat.eq_zero_or_pos i with h1 | h1
 ·subst h1; exact Int.le_refl _
 ·exact List.pairwise_iff_getElem.1 h t (t + i) ht (by omega) (by omega)
theorem Sorted.SS {β : Type} {key : β → Int} {Y : List β} (h : Sorted key Y) : SS key Y Y := ⟨h, fun _ => rfl⟩
theorem Uj {β : Type} {key : β → Int} {k : Int} {L : List β} (h : ∀ e ∈ L, key e ≠ k) : keyed key k L = [] := by
 rw [keyed, List.filter_eq_nil_iff];intro e he;simpa using h e he
theorem SS.left {β : Type} {key : β → Int} {x : β} {A B : List β} (hp : Sorted key (A ++ B)) (h1 : ∀ e ∈ A, key e < key x) (h2 : ∀ e ∈ B, key x ≤ key e) : SS key (x :: (A ++ B)) (A ++ x :: B) := by
 obtain ⟨p1, p2, p3⟩ := List.pairwise_append.1 hp;refine ⟨List.pairwise_append.2 ⟨p1, List.pairwise_cons.2 ⟨h2, p2⟩, fun a ha b hb => ?_⟩, fun k => ?_⟩
 ·rcases List.mem_cons.1 hb with rfl | hb
  ·exact Int.le_of_lt (h1 a ha)
  ·exact p3 a ha b hb
 ·by_cases hx : key x = k
  ·have : keyed key k A = [] := Uj fun e he => by have := h1 e he; omega
   simp only [keyed] at this;simp [keyed, List.filter_append, this, List.filter_cons]
  ·simp [keyed, List.filter_append, hx]
theorem SS.join {β : Type} {key : β → Int} {X1 X2 Y1 Y2 Z1 Z2 : List β} (z1 : SS key (X1 ++ Y1) Z1) (z2 : SS key (X2 ++ Y2) Z2) (hX : Sorted key (X1 ++ X2)) (hY : Sorted key (Y1 ++ Y2))
 (h1 : ∀ a ∈ Y1, ∀ b ∈ X2, key a < key b) (h2 : ∀ a ∈ X1, ∀ b ∈ Y2, key a ≤ key b) : SS key ((X1 ++ X2) ++ (Y1 ++ Y2)) (Z1 ++ Z2) := by
 obtain ⟨_, _, hx⟩ := List.pairwise_append.1 hX;obtain ⟨_, _, hy⟩ := List.pairwise_append.1 hY;refine ⟨List.pairwise_append.2 ⟨z1.1, z2.1, fun a ha b hb => ?_⟩, fun k => ?_⟩
 ·have ha' := (z1.mem a).1 ha;have hb' := (z2.mem b).1 hb;rcases List.mem_append.1 ha' with ha' | ha' <;> rcases List.mem_append.1 hb' with hb' | hb'
  ·exact hx a ha' b hb'
  ·exact h2 a ha' b hb'
  ·exact Int.le_of_lt (h1 a ha' b hb')
  ·exact hy a ha' b hb'
 ·have e1 := z1.2 k;have e2 := z2.2 k;simp only [keyed, List.filter_append] at e1 e2 ⊢;rw [e1, e2];by_cases hk : ∃ a ∈ Y1, key a = k
  ·obtain ⟨a, ha, hak⟩ := hk;have : keyed key k X2 = [] := Uj fun e he => by have := h1 a ha e he; omega
   simp only [keyed] at this;simp [this]
  ·have : keyed key k Y1 = [] := Uj fun e he h => hk ⟨e, he, h⟩
   simp only [keyed] at this;simp [this]
end Go.Xs