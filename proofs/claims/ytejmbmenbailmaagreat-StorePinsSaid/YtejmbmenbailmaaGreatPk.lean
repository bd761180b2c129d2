/- Sets that live (chapter 8): put, dropped. -/
import Derived.Test.YtejmbmenbailmaaGreatP3
namespace Go.Proofs.YtejmbmenbailmaaGreat
open Go.Xs
open Enc (enc)
structure LS where
 h : Int
 s : St
 ids : List Int
def yQ (Z : List LS) : List (Int × Bs) := Z.map fun z => (z.h, wZ z.s z.ids)
def Kq (Z : List LS) : List Int := (Z.map (·.ids)).flatten
def VT (Z : List LS) (h : Int) : List LS := Z.filter fun z => z.h != h
structure Pk (D : List (Option Bt)) (L : List Nm) (Z : List LS) : Prop where
 inn : WQ D L (yQ Z)
 liv : Kn L (Kq Z)
 hs : Hs (yQ Z)
 ok : ∀ z ∈ Z, wz z.s = 0 ∧ jQ z.s ∧ Al L z.ids ((Z8 z.s).map zx)
theorem Km {Z : List LS} {z : LS} (h : z ∈ Z) : (z.h, wZ z.s z.ids) ∈ yQ Z := List.mem_map.2 ⟨z, h, rfl⟩
theorem Pk.nil : Pk [] [] [] := ⟨WQ.nil, Kn.nil, List.nodup_nil, fun z hz => by simp at hz⟩
theorem Jp : ∀ (Z : List LS) (h : Int), yQ (VT Z h) = j3 (yQ Z) h
 | [], _ => rfl
 | z :: Z, h => by
  have ih := Jp Z h;unfold VT j3 yQ at ih ⊢;rw [List.filter_cons, List.map_cons, List.filter_cons];split
  ·rw [List.map_cons, ih]
  ·exact ih
theorem dK {Z : List LS} {h : Int} {z : LS} : z ∈ VT Z h ↔ z ∈ Z ∧ z.h ≠ h := by unfold VT; simp
theorem Yq : ∀ {Z : List LS} {h : Int}, (∀ z ∈ Z, z.h ≠ h) → VT Z h = Z
 | [], _, _ => rfl
 | z :: Z, h, hn => by
  have ih := Yq (Z := Z) (h := h) fun y hy => hn y (List.mem_cons_of_mem _ hy)
  unfold VT at ih ⊢;have h1 : (z.h != h) = true := by simpa using hn z (by simp)
  rw [List.filter_cons, if_pos h1, ih]
theorem BQ {z : LS} {Z : List LS} (h : Hs (yQ (z :: Z))) : ∀ y ∈ Z, y.h ≠ z.h := fun y hy e => by
 have := (List.nodup_cons.1 h).1;exact this (List.mem_map.2 ⟨(y.h, wZ y.s y.ids), Km hy, e⟩)
theorem Qt : ∀ {Z : List LS} {z : LS}, Hs (yQ Z) → z ∈ Z → ∀ k, (Kq Z).count k = (Kq (VT Z z.h)).count k + z.ids.count k
 | [], z, _, hz, _ => by simp at hz
 | y :: Z, z, hh, hz, k => by
  have hne := BQ hh;have hcons : (Kq (y :: Z)).count k = y.ids.count k + (Kq Z).count k := by unfold Kq; rw [List.map_cons, List.flatten_cons, List.count_append]
  rcases List.mem_cons.1 hz with rfl | hz
  ·have h1 : VT (z :: Z) z.h = Z := by
    have := Yq hne;unfold VT at this ⊢;rw [List.filter_cons, if_neg (by simp), this]
   rw [hcons, h1]; omega
  ·have h2 : VT (y :: Z) z.h = y :: VT Z z.h := by
    unfold VT;have : (y.h != z.h) = true := by simpa using fun e => hne z hz e.symm
    rw [List.filter_cons, if_pos this]
   have ih := Qt (List.nodup_cons.1 hh).2 hz k;have hc2 : (Kq (y :: VT Z z.h)).count k = y.ids.count k + (Kq (VT Z z.h)).count k := by unfold Kq; rw [List.map_cons, List.flatten_cons, List.count_append]
   rw [hcons, h2, hc2, ih]; omega
theorem mG {Z : List LS} {z : LS} {i : Int} (hz : z ∈ Z) (hi : i ∈ z.ids) : i ∈ Kq Z := List.mem_flatten.2 ⟨z.ids, List.mem_map.2 ⟨z, hz, rfl⟩, hi⟩
theorem Al.keep {L L' : List Nm} {R : List Int} (h : ∀ e ∈ L, e.id ∈ R → ∃ e' ∈ L', e'.id = e.id ∧ e'.n = e.n) : ∀ {ids : List Int} {ns : List Bs}, (∀ i ∈ ids, i ∈ R) → Al L ids ns → Al L' ids ns
 | _, _, _, .nil => .nil
 | _, _, hR, .cons ⟨e, he, h1, h2⟩ t => by
  obtain ⟨e', he', h3, h4⟩ := h e he (by rw [h1]; exact hR _ (by simp));exact .cons ⟨e', he', h3.trans h1, h4.trans h2⟩ (Al.keep h (fun i hi => hR i (List.mem_cons_of_mem _ hi)) t)
/-- a set more -/
theorem Pk.put {N : Nat} {D D' : List (Option Bt)} {L : List Nm} {Z : List LS} (h : Pk D L Z) {s : St} (hE : wz s = 0) (hs : jQ s) (he : (wE N D L (Z8 s)).e = 0)
 (hI : WQ D' (wE N D L (Z8 s)).L ((((hnd (wE N D L (Z8 s)).D : Nat) : Int), wZ s (wE N D L (Z8 s)).ids) :: yQ Z)) (hh : Hs ((((hnd (wE N D L (Z8 s)).D : Nat) : Int), wZ s (wE N D L (Z8 s)).ids) :: yQ Z)) :
 Pk D' (wE N D L (Z8 s)).L (⟨((hnd (wE N D L (Z8 s)).D : Nat) : Int), s, (wE N D L (Z8 s)).ids⟩ :: Z) := by
 refine ⟨hI, ?_, hh, fun z hz => ?_⟩
 ·have h1 := h.liv.adds (N := N) (l := Z8 s) h.inn.stand;refine ⟨h1.dis, fun e he => ?_, h1.pos, fun i hi => h1.ids i ?_⟩
  ·rw [h1.us e he];unfold Kq;rw [List.map_cons, List.flatten_cons, List.count_append, List.count_append, Nat.add_comm]
  ·unfold Kq at hi;rw [List.map_cons, List.flatten_cons] at hi;rcases List.mem_append.1 hi with hi | hi
   ·exact List.mem_append.2 (.inr hi)
   ·exact List.mem_append.2 (.inl hi)
 ·rcases List.mem_cons.1 hz with rfl | hz
  ·exact ⟨hE, hs, q8 he⟩
  ·obtain ⟨h1, h2, h3⟩ := h.ok z hz;exact ⟨h1, h2, h3.mono fun e he => yO he⟩
/-- a set less -/
theorem Pk.drop {D D' : List (Option Bt)} {L : List Nm} {Z : List LS} (h : Pk D L Z) {z : LS} (hz : z ∈ Z) (hI : WQ D' (drops L z.ids) (j3 (yQ Z) z.h)) : Pk D' (drops L z.ids) (VT Z z.h) := by
 obtain ⟨h1, h2⟩ := h.liv.drops (ids := z.ids) (R := Kq (VT Z z.h)) (Qt h.hs hz);refine ⟨by rw [Jp]; exact hI, h1, ?_, fun y hy => ?_⟩
 ·rw [Jp];unfold Hs j3;have : (List.filter (fun x => x.1 != z.h) (yQ Z)).Sublist (yQ Z) := List.filter_sublist;exact (this.map _).nodup h.hs
 ·obtain ⟨h3, h4⟩ := dK.1 hy;obtain ⟨h5, h6, h7⟩ := h.ok y h3;exact ⟨h5, h6, h7.keep h2 fun i hi => mG hy hi⟩
theorem Pk.pos {D : List (Option Bt)} {L : List Nm} {Z : List LS} (h : Pk D L Z) : Pos L := h.liv.pos
theorem Pk.none {D : List (Option Bt)} {L : List Nm} (h : Pk D L []) : L = [] ∧ Zd D = 0 := by
 have h1 : Kn L [] := h.liv;have h2 := h1.empty;subst h2;exact ⟨rfl, h.inn.empty⟩
theorem Pk.us {D : List (Option Bt)} {L : List Nm} {Z : List LS} (h : Pk D L Z) {k : Nat} (hk : (Kq Z).length ≤ k) : ∀ e ∈ L, e.u ≤ k := fun e he => by
 rw [h.liv.us e he];exact Nat.le_trans List.count_le_length hk
end Go.Proofs.YtejmbmenbailmaaGreat