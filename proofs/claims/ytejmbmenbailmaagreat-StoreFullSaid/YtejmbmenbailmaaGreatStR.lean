/- Stores whose items are numbered, plainly. -/
import Derived.Test.YtejmbmenbailmaaGreatStQ
namespace Go.Proofs.YtejmbmenbailmaaGreat
open Go.Xs
open Enc (enc)
structure Rw (kF : Nat → Ky) (e p : Nat → Int) (n : Nat) (I : List It) : Prop where
 fam : Fam I
 de : I.map It.de = (List.range n).map fun j => (⟨kF j, e j⟩ : De)
 pn : ∀ i ∈ I, ∀ j, j < n → i.k = kF j → i.pins = p j
section
variable {kF : Nat → Ky} {e p : Nat → Int} {n : Nat} {I : List It}
theorem Rw.nil : Rw kF e p 0 [] := ⟨Fam.nil, rfl, fun i hi => by simp at hi⟩
theorem Rw.ks (h : Rw kF e p n I) : keys I = (List.range n).map kF := by
 have := congrArg (List.map (·.k)) h.de;rw [List.map_map, List.map_map] at this;exact this
theorem Rw.len (h : Rw kF e p n I) : I.length = n := by
 have := congrArg List.length h.de;simpa using this
theorem Rw.get (h : Rw kF e p n I) {j : Nat} (hj : j < n) : ∃ i, i ∈ I ∧ WC I (kF j) = some i ∧ i.k = kF j ∧ i.exp = e j ∧ i.pins = p j := by
 have hm : (⟨kF j, e j⟩ : De) ∈ I.map It.de := by rw [h.de]; exact List.mem_map.2 ⟨j, List.mem_range.2 hj, rfl⟩
 obtain ⟨i, hi, he⟩ := List.mem_map.1 hm;have h1 : i.k = kF j := congrArg De.k he;have h2 : i.exp = e j := congrArg De.at_ he;exact ⟨i, hi, by rw [← h1]; exact Qq h.fam.n hi, h1, h2, h.pn i hi j hj h1⟩
theorem Rw.mem (h : Rw kF e p n I) {k : Ky} : k ∈ keys I ↔ ∃ j, j < n ∧ kF j = k := by
 rw [h.ks, List.mem_map];constructor
 ·rintro ⟨j, hj, e⟩; exact ⟨j, List.mem_range.1 hj, e⟩
 ·rintro ⟨j, hj, e⟩; exact ⟨j, List.mem_range.2 hj, e⟩
theorem Rw.non (h : Rw kF e p n I) {k : Ky} (hk : ∀ j, j < n → kF j ≠ k) : WC I k = none := by
 rw [Wz, h.mem];rintro ⟨j, hj, e⟩;exact hk j hj e
theorem Rw.inj (h : Rw kF e p n I) {a b : Nat} (ha : a < n) (hb : b < n) (hab : kF a = kF b) : a = b := by
 have hn := h.fam.n;rw [h.ks] at hn;have a1 : ((List.range n).map kF)[a]? = some (kF a) := by rw [List.getElem?_map, List.getElem?_range ha]; rfl
 have a2 : ((List.range n).map kF)[b]? = some (kF a) := by rw [List.getElem?_map, List.getElem?_range hb, hab]; rfl
 exact (List.getElem?_inj (List.getElem?_eq_some_iff.1 a1).1 hn).1 (a1.trans a2.symm)
theorem Rw.free (h : Rw kF e p n I) {j : Nat} (hj : j < n) : free I (kF j) = decide (p j = 0) := by
 obtain ⟨i, hi, _, h1, _, h3⟩ := h.get hj;rw [← h1, free_eq h.fam.n hi, h3]
theorem Rw.add (h : Rw kF e p n I) {s : St} (hs : Yb s) (hk : Z9 s = kF n) (hne : ∀ j, j < n → kF j ≠ kF n) {rank now exp : Int} (he : e n = exp) (hp : p n = 0) : Rw kF e p (n + 1) (I ++ [rT s rank now exp]) := by
 have hb : WC I (Z9 s) = none := h.non fun j hj q => hne j hj (q.trans hk)
 refine ⟨h.fam.add hs hb rank now exp, ?_, fun i hi j hj hij => ?_⟩
 ·rw [List.map_append, h.de, List.range_succ, List.map_append];show _ ++ [(⟨Z9 s, exp⟩ : De)] = _ ++ [(⟨kF n, e n⟩ : De)];rw [hk, he]
 ·rcases List.mem_append.1 hi with hi | hi
  ·by_cases hjn : j = n
   ·have : i.k ∈ keys I := List.mem_map.2 ⟨i, hi, rfl⟩;obtain ⟨j', hj', e'⟩ := h.mem.1 this;exact absurd (e'.trans (hij.trans (by rw [hjn]))) (hne j' hj')
   ·exact h.pn i hi j (by omega) hij
  ·rw [List.mem_singleton.1 hi] at hij ⊢;by_cases hjn : j = n
   ·rw [hjn, hp]
   ·exact absurd (hij.symm.trans hk) (hne j (by omega))
theorem Rw.vS (h : Rw kF e p n I) {j : Nat} (hj : j < n) (v : Int) : Rw kF e (fun x => if x = j then v else p x) n (vS I (kF j) v) := by
 refine ⟨h.fam.vS _ _, by rw [qJ]; exact h.de, fun i hi a ha hia => ?_⟩;obtain ⟨y, hy, rfl⟩ := List.mem_map.1 hi;show (if y.k = kF j then { y with pins := v } else y).pins = if a = j then v else p a
 have hia : (if y.k = kF j then { y with pins := v } else y).k = kF a := hia;by_cases hyk : y.k = kF j
 ·rw [if_pos hyk] at hia ⊢;have : a = j := h.inj ha hj (hia.symm.trans hyk);rw [if_pos this]
 ·rw [if_neg hyk] at hia ⊢;rw [if_neg (fun q => hyk (by rw [hia, q]))];exact h.pn y hy a ha hia
theorem Rw.mono {e' p' : Nat → Int} (h : Rw kF e p n I) (he : ∀ j, j < n → e j = e' j) (hp : ∀ j, j < n → p j = p' j) : Rw kF e' p' n I :=
 ⟨h.fam, by rw [h.de]; exact List.map_congr_left fun j hj => by rw [he j (List.mem_range.1 hj)], fun i hi j hj hij => by rw [← hp j hj]; exact h.pn i hi j hj hij⟩
end
theorem lI {kF : Nat → Ky} {e p : Nat → Int} {n : Nat} {S : Ss} (h : Rw kF e p n S.I) {k : Ky} {j : Nat} (hj : j < n) (hk : fk k = kF j) {b : Int} (hb : 0 ≤ p j + b ∧ p j + b ≤ 1000) :
 Vu k b S = (⟨vS S.I (kF j) (p j + b), S.P, S.Q, S.V⟩, 0) := by
 obtain ⟨i, hi, h1, h2, h3, h4⟩ := h.get hj;unfold Vu;rw [hk, h1];show (if KO (i.pins + b) 1000 = false then _ else _) = _;rw [h4, (Xn _ _).2 hb, if_neg (by decide)]
/-! ### those that are over -/
theorem jC {α β : Type} (key : β → Int) (f : α → β) (x : α) : ∀ R : List α, Uq key (f x) (R.map f) = (Uq (fun a => key (f a)) x R).map f
 | [] => rfl
 | y :: R => by
  rw [List.map_cons, Uq, Uq];split
  ·rw [jC key f x R]; rfl
  ·rfl
theorem QZ {α β : Type} (key : β → Int) (f : α → β) (L : List α) : yg key (L.map f) = (yg (fun a => key (f a)) L).map f := by
 have : ∀ (L R : List α), (L.map f).foldl (fun R x => Uq key x R) (R.map f) = (L.foldl (fun R x => Uq (fun a => key (f a)) x R) R).map f := by
  intro L
  induction L with
  | nil => intro R; rfl
  | cons x L ih => intro R; rw [List.map_cons, List.foldl_cons, List.foldl_cons, jC, ih]
 exact this L []
/-- the numbers of those that are over, in order -/
def Cb (e : Nat → Int) (n : Nat) (now : Int) : List Nat := (yg e (List.range n)).filter fun j => decide (e j ≤ now)
theorem Rw.due {kF : Nat → Ky} {e p : Nat → Int} {n : Nat} {I : List It} (h : Rw kF e p n I) (now : Int) : due now I = (Cb e n now).map kF := by
 unfold Go.Proofs.YtejmbmenbailmaaGreat.due upto Cb;rw [h.de, QZ, List.filter_map, List.map_map];rfl
theorem lV {e : Nat → Int} {n : Nat} {now : Int} {j : Nat} : j ∈ Cb e n now ↔ j < n ∧ e j ≤ now := by
 unfold Cb;rw [List.mem_filter, (jA (key := e) (List.range n)).mem, List.mem_range];simp
theorem lU {e : Nat → Int} {n : Nat} {now : Int} (h : ∀ j, j < n → now < e j) : Cb e n now = [] := by
 rw [List.eq_nil_iff_forall_not_mem];intro j hj;have := lV.1 hj;have := h j this.1;omega
end Go.Proofs.YtejmbmenbailmaaGreat