/- ListsCounts: what it computes. -/
import Derived.Test.YtmgiamagocefcaaLruL
namespace Go.Proofs.Ytmgiamagocefcaa
open Go.Xs
open Enc (enc)

instance : Enc Bool := ⟨fun b => [.bool b], 1, fun _ => rfl, fun _ => rfl⟩
theorem boolAt {I : List Bool} {k : Nat} {b : Bool} (h : I[k]? = some b) : ((cells I).toArray.toList)[0 + k * 1]? = some (.bool b) := by
  obtain ⟨hk, rfl⟩ := List.getElem?_eq_some_iff.1 h
  have := cells_get I k 0 hk (by decide)
  rw [Nat.zero_add]
  exact this

structure CI (A B : List Int) (I : List Bool) : Prop where
  nd : (A ++ B).Nodup
  len : I.length = 20
  rng : ∀ e ∈ A ++ B, 0 ≤ e ∧ e < 20
  is : ∀ k : Nat, k < 20 → I[k]? = some (decide ((k : Int) ∈ A ∨ (k : Int) ∈ B))
  few : (B.length : Int) ≤ 3

theorem CI.add {A B : List Int} {I : List Bool} {k : Nat} (h : CI A B I) (hk : k < 20) : CI (addL (k : Int) A B) B (I.set k true) := by
  have hmem : ∀ x : Int, (x ∈ addL (k : Int) A B ∨ x ∈ B) ↔ (x = k ∨ x ∈ A ∨ x ∈ B) := by
    intro x
    unfold addL
    split
    · next hc =>
      constructor
      · exact fun h => .inr h
      · rintro (rfl | h)
        · exact hc
        · exact h
    · simp only [List.mem_append, List.mem_singleton]
      constructor
      · rintro ((h | h) | h)
        · exact .inr (.inl h)
        · exact .inl h
        · exact .inr (.inr h)
      · rintro (h | h | h)
        · exact .inl (.inr h)
        · exact .inl (.inl h)
        · exact .inr h
  refine ⟨(addL_nodup h.nd).1, by rw [List.length_set]; exact h.len, fun e he => ?_, fun j hj => ?_, h.few⟩
  · rcases (hmem e).1 (List.mem_append.1 he) with rfl | he
    · omega
    · exact h.rng e (List.mem_append.2 he)
  · by_cases hjk : k = j
    · subst hjk
      rw [List.getElem?_set_self (by rw [h.len]; exact hk), decide_eq_true ((hmem k).2 (.inl rfl))]
    · rw [List.getElem?_set_ne hjk, h.is j hj]
      congr 1
      rw [decide_eq_decide, hmem]
      constructor
      · exact fun h => .inr h
      · rintro (h | h)
        · omega
        · exact h

theorem tch_mem {most k : Int} {A B : List Int} (hn : (A ++ B).Nodup) (x : Int) : (x ∈ tchA most k A B ∨ x ∈ tchB most k A B) ↔ (x ∈ A ∨ x ∈ B) := by
  by_cases hk : k ∈ A ∨ k ∈ B
  · have := (tch_perm (most := most) hn hk).mem_iff (a := x)
    rw [List.mem_append, List.mem_append] at this
    exact this
  · unfold tchA tchB
    rw [if_neg hk, if_neg hk]
theorem CI.touch {A B : List Int} {I : List Bool} {k : Int} (h : CI A B I) : CI (tchA 3 k A B) (tchB 3 k A B) I := by
  refine ⟨(tch_nodup h.nd).1, h.len, fun e he => ?_, fun j hj => ?_, tch_le (by decide) h.few⟩
  · exact h.rng e (List.mem_append.2 ((tch_mem h.nd e).1 (List.mem_append.1 he)))
  · rw [h.is j hj]
    congr 1
    rw [decide_eq_decide, tch_mem h.nd]

theorem mem_erase2 {A B : List Int} (hn : (A ++ B).Nodup) (k x : Int) : (x ∈ A.erase k ∨ x ∈ B.erase k) ↔ (x ≠ k ∧ (x ∈ A ∨ x ∈ B)) := by
  obtain ⟨ha, hb, _⟩ := List.nodup_append.1 hn
  rw [ha.mem_erase_iff, hb.mem_erase_iff]
  constructor
  · rintro (⟨h1, h2⟩ | ⟨h1, h2⟩)
    · exact ⟨h1, .inl h2⟩
    · exact ⟨h1, .inr h2⟩
  · rintro ⟨h1, h2 | h2⟩
    · exact .inl ⟨h1, h2⟩
    · exact .inr ⟨h1, h2⟩
theorem CI.drop {A B : List Int} {I : List Bool} {k : Nat} (h : CI A B I) (hk : k < 20) : CI (A.erase (k : Int)) (B.erase (k : Int)) (I.set k false) := by
  have hl := List.length_erase_le (l := B) (a := (k : Int))
  refine ⟨erase_nodup h.nd, by rw [List.length_set]; exact h.len, fun e he => ?_, fun j hj => ?_, by have := h.few; omega⟩
  · exact h.rng e (List.mem_append.2 ((mem_erase2 h.nd k e).1 (List.mem_append.1 he)).2)
  · by_cases hjk : k = j
    · subst hjk
      rw [List.getElem?_set_self (by rw [h.len]; exact hk), decide_eq_false (fun hc => ((mem_erase2 h.nd k k).1 hc).1 rfl)]
    · rw [List.getElem?_set_ne hjk, h.is j hj]
      congr 1
      rw [decide_eq_decide, mem_erase2 h.nd]
      constructor
      · exact fun h => ⟨by omega, h⟩
      · exact fun h => h.2
theorem erase_count {A B : List Int} {k : Int} (hn : (A ++ B).Nodup) (hk : k ∈ A ∨ k ∈ B) : (A.erase k).length + (B.erase k).length + 1 = A.length + B.length := by
  obtain ⟨_, _, hd⟩ := List.nodup_append.1 hn
  by_cases hA : k ∈ A
  · have hB : k ∉ B := fun h => hd k hA k h rfl
    rw [List.erase_of_not_mem hB, List.length_erase_of_mem hA]
    have := List.length_pos_of_mem hA
    omega
  · have hB : k ∈ B := hk.resolve_left hA
    rw [List.erase_of_not_mem hA, List.length_erase_of_mem hB]
    have := List.length_pos_of_mem hB
    omega

abbrev iseg (bi : Nat) (I : List Bool) : List Chunk := [(bi, .cells (cells I).toArray 4)]
end Go.Proofs.Ytmgiamagocefcaa
