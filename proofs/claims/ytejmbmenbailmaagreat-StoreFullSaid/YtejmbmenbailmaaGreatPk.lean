/- Sets that live (chapter 8): put, dropped. -/
import Derived.Test.YtejmbmenbailmaaGreatP3
namespace Go.Proofs.YtejmbmenbailmaaGreat
open Go.Xs
open Enc (enc)
structure LS where
 h : Int
 s : St
 ids : List Int
def yV (Z : List LS) : List (Int × Bs) := Z.map fun z => (z.h, Wd z.s z.ids)
def KE (Z : List LS) : List Int := (Z.map (·.ids)).flatten
def VY (Z : List LS) (h : Int) : List LS := Z.filter fun z => z.h != h
structure Pk (D : List (Option Bt)) (L : List Nm) (Z : List LS) : Prop where
 inn : WS D L (yV Z)
 liv : Kz L (KE Z)
 hs : Hs (yV Z)
 ok : ∀ z ∈ Z, wD z.s = 0 ∧ J4 z.s ∧ Al L z.ids ((Z6 z.s).map zx)
theorem Kw {Z : List LS} {z : LS} (h : z ∈ Z) : (z.h, Wd z.s z.ids) ∈ yV Z := List.mem_map.2 ⟨z, h, rfl⟩
theorem Pk.nil : Pk [] [] [] := ⟨WS.nil, Kz.nil, List.nodup_nil, fun z hz => by simp at hz⟩
theorem Jz : ∀ (Z : List LS) (h : Int), yV (VY Z h) = jo (yV Z) h
 | [], _ => rfl
 | z :: Z, h => by
  have ih := Jz Z h;unfold VY jo yV at ih ⊢;rw [List.filter_cons, List.map_cons, List.filter_cons];split
  ·rw [List.map_cons, ih]
  ·exact ih
theorem dR {Z : List LS} {h : Int} {z : LS} : z ∈ VY Z h ↔ z ∈ Z ∧ z.h ≠ h := by unfold VY; simp
theorem Yz : ∀ {Z : List LS} {h : Int}, (∀ z ∈ Z, z.h ≠ h) → VY Z h = Z
 | [], _, _ => rfl
 | z :: Z, h, hn => by
  have ih := Yz (Z := Z) (h := h) fun y hy => hn y (List.mem_cons_of_mem _ hy)
  unfold VY at ih ⊢;have h1 : (z.h != h) = true := by simpa using hn z (by simp)
  rw [List.filter_cons, if_pos h1, ih]
theorem Cv {z : LS} {Z : List LS} (h : Hs (yV (z :: Z))) : ∀ y ∈ Z, y.h ≠ z.h := fun y hy e => by
 have := (List.nodup_cons.1 h).1;exact this (List.mem_map.2 ⟨(y.h, Wd y.s y.ids), Kw hy, e⟩)
theorem QB : ∀ {Z : List LS} {z : LS}, Hs (yV Z) → z ∈ Z → ∀ k, (KE Z).count k = (KE (VY Z z.h)).count k + z.ids.count k
 | [], z, _, hz, _ => by simp at hz
 | y :: Z, z, hh, hz, k => by
  have hne := Cv hh;have hcons : (KE (y :: Z)).count k = y.ids.count k + (KE Z).count k := by unfold KE; rw [List.map_cons, List.flatten_cons, List.count_append]
  rcases List.mem_cons.1 hz with rfl | hz
  ·have h1 : VY (z :: Z) z.h = Z := by
    have := Yz hne;unfold VY at this ⊢;rw [List.filter_cons, if_neg (by simp), this]
   rw [hcons, h1]; omega
  ·have h2 : VY (y :: Z) z.h = y :: VY Z z.h := by
    unfold VY;have : (y.h != z.h) = true := by simpa using fun e => hne z hz e.symm
    rw [List.filter_cons, if_pos this]
   have ih := QB (List.nodup_cons.1 hh).2 hz k;have hc2 : (KE (y :: VY Z z.h)).count k = y.ids.count k + (KE (VY Z z.h)).count k := by unfold KE; rw [List.map_cons, List.flatten_cons, List.count_append]
   rw [hcons, h2, hc2, ih]; omega
theorem mY {Z : List LS} {z : LS} {i : Int} (hz : z ∈ Z) (hi : i ∈ z.ids) : i ∈ KE Z := List.mem_flatten.2 ⟨z.ids, List.mem_map.2 ⟨z, hz, rfl⟩, hi⟩
theorem Al.keep {L L' : List Nm} {R : List Int} (h : ∀ e ∈ L, e.id ∈ R → ∃ e' ∈ L', e'.id = e.id ∧ e'.n = e.n) : ∀ {ids : List Int} {ns : List Bs}, (∀ i ∈ ids, i ∈ R) → Al L ids ns → Al L' ids ns
 | _, _, _, .nil => .nil
 | _, _, hR, .cons ⟨e, he, h1, h2⟩ t => by
  obtain ⟨e', he', h3, h4⟩ := h e he (by rw [h1]; exact hR _ (by simp));exact .cons ⟨e', he', h3.trans h1, h4.trans h2⟩ (Al.keep h (fun i hi => hR i (List.mem_cons_of_mem _ hi)) t)
/-- a set more -/
theorem Pk.put {N : Nat} {D D' : List (Option Bt)} {L : List Nm} {Z : List LS} (h : Pk D L Z) {s : St} (hE : wD s = 0) (hs : J4 s) (he : (wH N D L (Z6 s)).e = 0)
 (hI : WS D' (wH N D L (Z6 s)).L ((((hnd (wH N D L (Z6 s)).D : Nat) : Int), Wd s (wH N D L (Z6 s)).ids) :: yV Z)) (hh : Hs ((((hnd (wH N D L (Z6 s)).D : Nat) : Int), Wd s (wH N D L (Z6 s)).ids) :: yV Z)) :
 Pk D' (wH N D L (Z6 s)).L (⟨((hnd (wH N D L (Z6 s)).D : Nat) : Int), s, (wH N D L (Z6 s)).ids⟩ :: Z) := by
 refine ⟨hI, ?_, hh, fun z hz => ?_⟩
 ·have h1 := h.liv.adds (N := N) (l := Z6 s) h.inn.stand;refine ⟨h1.dis, fun e he => ?_, h1.pos, fun i hi => h1.ids i ?_⟩
  ·rw [h1.us e he];unfold KE;rw [List.map_cons, List.flatten_cons, List.count_append, List.count_append, Nat.add_comm]
  ·unfold KE at hi;rw [List.map_cons, List.flatten_cons] at hi;rcases List.mem_append.1 hi with hi | hi
   ·exact List.mem_append.2 (.inr hi)
   ·exact List.mem_append.2 (.inl hi)
 ·rcases List.mem_cons.1 hz with rfl | hz
  ·exact ⟨hE, hs, qg he⟩
  ·obtain ⟨h1, h2, h3⟩ := h.ok z hz;exact ⟨h1, h2, h3.mono fun e he => yT he⟩
/-- a set less -/
theorem Pk.drop {D D' : List (Option Bt)} {L : List Nm} {Z : List LS} (h : Pk D L Z) {z : LS} (hz : z ∈ Z) (hI : WS D' (drops L z.ids) (jo (yV Z) z.h)) : Pk D' (drops L z.ids) (VY Z z.h) := by
 obtain ⟨h1, h2⟩ := h.liv.drops (ids := z.ids) (R := KE (VY Z z.h)) (QB h.hs hz);refine ⟨by rw [Jz]; exact hI, h1, ?_, fun y hy => ?_⟩
 ·rw [Jz];unfold Hs jo;have : (List.filter (fun x => x.1 != z.h) (yV Z)).Sublist (yV Z) := List.filter_sublist;exact (this.map _).nodup h.hs
 ·obtain ⟨h3, h4⟩ := dR.1 hy;obtain ⟨h5, h6, h7⟩ := h.ok y h3;exact ⟨h5, h6, h7.keep h2 fun i hi => mY hy hi⟩
theorem Pk.pos {D : List (Option Bt)} {L : List Nm} {Z : List LS} (h : Pk D L Z) : Pos L := h.liv.pos
theorem Pk.none {D : List (Option Bt)} {L : List Nm} (h : Pk D L []) : L = [] ∧ Zc D = 0 := by
 have h1 : Kz L [] := h.liv;have h2 := h1.empty;subst h2;exact ⟨rfl, h.inn.empty⟩
theorem Pk.us {D : List (Option Bt)} {L : List Nm} {Z : List LS} (h : Pk D L Z) {k : Nat} (hk : (KE Z).length ≤ k) : ∀ e ∈ L, e.u ≤ k := fun e he => by
 rw [h.liv.us e he];exact Nat.le_trans List.count_le_length hk
end Go.Proofs.YtejmbmenbailmaaGreat