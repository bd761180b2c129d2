/- Sets that live (chapter 8): put, dropped. -/
import Derived.Test.YtejmbmenbailmaaP3
namespace Go.Proofs.Ytejmbmenbailmaa
open Go.Xs
open Enc (enc)

structure LS where
  h : Int
  s : St
  ids : List Int
def PkB (Z : List LS) : List (Int × Bs) := Z.map fun z => (z.h, blkS z.s z.ids)
def PkA (Z : List LS) : List Int := (Z.map (·.ids)).flatten
def outZ (Z : List LS) (h : Int) : List LS := Z.filter fun z => z.h != h
structure Pk (D : List (Option Bt)) (L : List Nm) (Z : List LS) : Prop where
  inn : Inn D L (PkB Z)
  liv : Liv L (PkA Z)
  hs : Hs (PkB Z)
  ok : ∀ z ∈ Z, errS z.s = 0 ∧ Sok z.s ∧ Al L z.ids ((nmsS z.s).map foldB)
theorem PkB_mem {Z : List LS} {z : LS} (h : z ∈ Z) : (z.h, blkS z.s z.ids) ∈ PkB Z := List.mem_map.2 ⟨z, h, rfl⟩
theorem Pk.nil : Pk [] [] [] := ⟨Inn.nil, Liv.nil, List.nodup_nil, fun z hz => by simp at hz⟩
theorem outZ_B : ∀ (Z : List LS) (h : Int), PkB (outZ Z h) = outB (PkB Z) h
  | [], _ => rfl
  | z :: Z, h => by
    have ih := outZ_B Z h
    unfold outZ outB PkB at ih ⊢
    rw [List.filter_cons, List.map_cons, List.filter_cons]
    split
    · rw [List.map_cons, ih]
    · exact ih
theorem outZ_iff {Z : List LS} {h : Int} {z : LS} : z ∈ outZ Z h ↔ z ∈ Z ∧ z.h ≠ h := by unfold outZ; simp
theorem outZ_none : ∀ {Z : List LS} {h : Int}, (∀ z ∈ Z, z.h ≠ h) → outZ Z h = Z
  | [], _, _ => rfl
  | z :: Z, h, hn => by
    have ih := outZ_none (Z := Z) (h := h) fun y hy => hn y (List.mem_cons_of_mem _ hy)
    unfold outZ at ih ⊢
    have h1 : (z.h != h) = true := by simpa using hn z (by simp)
    rw [List.filter_cons, if_pos h1, ih]
theorem outZ_ne {z : LS} {Z : List LS} {h : Int} (hn : z.h ≠ h) : outZ (z :: Z) h = z :: outZ Z h := by
  unfold outZ
  rw [List.filter_cons, if_pos (show (z.h != h) = true from by simpa using hn)]
theorem outZ_eq {z : LS} {Z : List LS} {h : Int} (hn : z.h = h) : outZ (z :: Z) h = outZ Z h := by
  unfold outZ
  rw [List.filter_cons, if_neg (by simp [hn])]
theorem hs_ne {z : LS} {Z : List LS} (h : Hs (PkB (z :: Z))) : ∀ y ∈ Z, y.h ≠ z.h := fun y hy e => by
  have := (List.nodup_cons.1 h).1
  exact this (List.mem_map.2 ⟨(y.h, blkS y.s y.ids), PkB_mem hy, e⟩)
theorem PkA_out : ∀ {Z : List LS} {z : LS}, Hs (PkB Z) → z ∈ Z → ∀ k, (PkA Z).count k = (PkA (outZ Z z.h)).count k + z.ids.count k
  | [], z, _, hz, _ => by simp at hz
  | y :: Z, z, hh, hz, k => by
    have hne := hs_ne hh
    have hcons : (PkA (y :: Z)).count k = y.ids.count k + (PkA Z).count k := by unfold PkA; rw [List.map_cons, List.flatten_cons, List.count_append]
    rcases List.mem_cons.1 hz with rfl | hz
    · have h1 : outZ (z :: Z) z.h = Z := by
        have := outZ_none hne
        unfold outZ at this ⊢
        rw [List.filter_cons, if_neg (by simp), this]
      rw [hcons, h1]; omega
    · have h2 : outZ (y :: Z) z.h = y :: outZ Z z.h := by
        unfold outZ
        have : (y.h != z.h) = true := by simpa using fun e => hne z hz e.symm
        rw [List.filter_cons, if_pos this]
      have ih := PkA_out (List.nodup_cons.1 hh).2 hz k
      have hc2 : (PkA (y :: outZ Z z.h)).count k = y.ids.count k + (PkA (outZ Z z.h)).count k := by unfold PkA; rw [List.map_cons, List.flatten_cons, List.count_append]
      rw [hcons, h2, hc2, ih]; omega
theorem PkA_mem {Z : List LS} {z : LS} {i : Int} (hz : z ∈ Z) (hi : i ∈ z.ids) : i ∈ PkA Z := List.mem_flatten.2 ⟨z.ids, List.mem_map.2 ⟨z, hz, rfl⟩, hi⟩
theorem Al.keep {L L' : List Nm} {R : List Int} (h : ∀ e ∈ L, e.id ∈ R → ∃ e' ∈ L', e'.id = e.id ∧ e'.n = e.n) : ∀ {ids : List Int} {ns : List Bs}, (∀ i ∈ ids, i ∈ R) → Al L ids ns → Al L' ids ns
  | _, _, _, .nil => .nil
  | _, _, hR, .cons ⟨e, he, h1, h2⟩ t => by
    obtain ⟨e', he', h3, h4⟩ := h e he (by rw [h1]; exact hR _ (by simp))
    exact .cons ⟨e', he', h3.trans h1, h4.trans h2⟩ (Al.keep h (fun i hi => hR i (List.mem_cons_of_mem _ hi)) t)
/-- a set more -/
theorem Pk.put {N : Nat} {D D' : List (Option Bt)} {L : List Nm} {Z : List LS} (h : Pk D L Z) {s : St} (hE : errS s = 0) (hs : Sok s) (he : (ads N D L (nmsS s)).e = 0)
    (hI : Inn D' (ads N D L (nmsS s)).L ((((hnd (ads N D L (nmsS s)).D : Nat) : Int), blkS s (ads N D L (nmsS s)).ids) :: PkB Z)) (hh : Hs ((((hnd (ads N D L (nmsS s)).D : Nat) : Int), blkS s (ads N D L (nmsS s)).ids) :: PkB Z)) :
    Pk D' (ads N D L (nmsS s)).L (⟨((hnd (ads N D L (nmsS s)).D : Nat) : Int), s, (ads N D L (nmsS s)).ids⟩ :: Z) := by
  refine ⟨hI, ?_, hh, fun z hz => ?_⟩
  · have h1 := h.liv.adds (N := N) (l := nmsS s) h.inn.stand
    refine ⟨h1.dis, fun e he => ?_, h1.pos, fun i hi => h1.ids i ?_⟩
    · rw [h1.us e he]
      unfold PkA
      rw [List.map_cons, List.flatten_cons, List.count_append, List.count_append, Nat.add_comm]
    · unfold PkA at hi
      rw [List.map_cons, List.flatten_cons] at hi
      rcases List.mem_append.1 hi with hi | hi
      · exact List.mem_append.2 (.inr hi)
      · exact List.mem_append.2 (.inl hi)
  · rcases List.mem_cons.1 hz with rfl | hz
    · exact ⟨hE, hs, ads_al he⟩
    · obtain ⟨h1, h2, h3⟩ := h.ok z hz
      exact ⟨h1, h2, h3.mono fun e he => ads_keep he⟩
/-- a set less -/
theorem Pk.drop {D D' : List (Option Bt)} {L : List Nm} {Z : List LS} (h : Pk D L Z) {z : LS} (hz : z ∈ Z) (hI : Inn D' (drops L z.ids) (outB (PkB Z) z.h)) : Pk D' (drops L z.ids) (outZ Z z.h) := by
  obtain ⟨h1, h2⟩ := h.liv.drops (ids := z.ids) (R := PkA (outZ Z z.h)) (PkA_out h.hs hz)
  refine ⟨by rw [outZ_B]; exact hI, h1, ?_, fun y hy => ?_⟩
  · rw [outZ_B]
    unfold Hs outB
    have : (List.filter (fun x => x.1 != z.h) (PkB Z)).Sublist (PkB Z) := List.filter_sublist
    exact (this.map _).nodup h.hs
  · obtain ⟨h3, h4⟩ := outZ_iff.1 hy
    obtain ⟨h5, h6, h7⟩ := h.ok y h3
    exact ⟨h5, h6, h7.keep h2 fun i hi => PkA_mem hy hi⟩
theorem Pk.pos {D : List (Option Bt)} {L : List Nm} {Z : List LS} (h : Pk D L Z) : Pos L := h.liv.pos
theorem Pk.none {D : List (Option Bt)} {L : List Nm} (h : Pk D L []) : L = [] ∧ usedD D = 0 := by
  have h1 : Liv L [] := h.liv
  have h2 := h1.empty
  subst h2
  exact ⟨rfl, h.inn.empty⟩
theorem Pk.us {D : List (Option Bt)} {L : List Nm} {Z : List LS} (h : Pk D L Z) {k : Nat} (hk : (PkA Z).length ≤ k) : ∀ e ∈ L, e.u ≤ k := fun e he => by
  rw [h.liv.us e he]
  exact Nat.le_trans List.count_le_length hk
end Go.Proofs.Ytejmbmenbailmaa
