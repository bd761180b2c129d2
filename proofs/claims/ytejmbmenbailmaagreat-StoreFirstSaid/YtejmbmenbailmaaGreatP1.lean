/- Records (chapter 3), plainly: where names stand in data, and what data may be. Names added and dropped, one behind the other: how often each is used, and what they cost. Sets (chapter 8), plainly: what may be, its names, its size, its block's bytes. Names that live: each is used as often as numbers of it are held; arenas that are alike. A set's block (chapter 8), plainly: data with names in other letters, or with numbers in their places. Parts of strings, strings put together, as lists of bytes. Records (chapter 3): what data may be, and its names. A range over the names in data. -/
import Derived.Test.YtejmbmenbailmaaGreatN1
import Derived.Test.YtejmbmenbailmaaGreatI1
import Derived.Test.YtejmbmenbailmaaGreatFPack
namespace Go.Proofs.YtejmbmenbailmaaGreat
open Go.Xs
open Enc (enc)
/-! ### what a text begins with -/
theorem yw : ∀ (f : Nat) (Y : Bs) (a n : Nat), Xn f Y a = (n, true) → a < n ∧ n ≤ Y.length
 | 0, _, _, _, h => by simp [Xn] at h
 | f + 1, Y, a, n, h => by
  unfold Xn at h;cases hy : Y[a]? with
  | none => rw [hy] at h; simp at h
  | some b =>
   have hlt := (List.getElem?_eq_some_iff.1 hy).1;rw [hy] at h;simp only at h;split at h
   ·simp at h
   ·split at h
    ·obtain rfl : a + 1 = n := (Prod.mk.inj h).1;omega
    ·split at h
     ·simp at h
     ·have := yw f Y _ n h;omega
theorem jC : ∀ (f : Nat) (Y : Bs) (a n m : Nat), Xn f Y a = (n, true) → n ≤ m → Xn f (Y.take m) a = (n, true)
 | 0, _, _, _, _, h, _ => by simp [Xn] at h
 | f + 1, Y, a, n, m, h, hm => by
  have hb := yw (f + 1) Y a n h;have hg : (Y.take m)[a]? = Y[a]? := List.getElem?_take_of_lt (by omega);unfold Xn at h ⊢;rw [hg];cases hy : Y[a]? with
  | none => rw [hy] at h; simp at h
  | some b =>
   rw [hy] at h;simp only at h ⊢;split at h
   ·simp at h
   ·next h0 =>
    rw [if_neg h0];split at h
    ·next h1 => rw [if_pos h1]; exact h
    ·next h1 =>
     rw [if_neg h1];split at h
     ·simp at h
     ·next h2 => rw [if_neg h2]; exact jC f Y _ n m h hm
theorem yu : ∀ (f : Nat) (Y : Bs) (a n m : Nat), Xn f (Y.take m) a = (n, true) → Xn f Y a = (n, true)
 | 0, _, _, _, _, h => by simp [Xn] at h
 | f + 1, Y, a, n, m, h => by
  have hb := yw (f + 1) _ a n h;have hg : (Y.take m)[a]? = Y[a]? := List.getElem?_take_of_lt (by have := List.length_take_le m Y; omega);unfold Xn at h ⊢;rw [hg] at h;cases hy : Y[a]? with
  | none => rw [hy] at h; simp at h
  | some b =>
   rw [hy] at h;simp only at h ⊢;split at h
   ·simp at h
   ·next h0 =>
    rw [if_neg h0];split at h
    ·next h1 => rw [if_pos h1]; exact h
    ·next h1 =>
     rw [if_neg h1];split at h
     ·simp at h
     ·next h2 => rw [if_neg h2]; exact yu f Y _ n m h
/-- a text begins with a name of n bytes: its first n bytes are one -/
theorem yt {Y : Bs} {n : Nat} : lead Y = (n, true) ↔ n ≤ Y.length ∧ vI (Y.take n) = true := by
 unfold vI lead;constructor
 ·intro h;have hb := yw _ _ _ _ h;rw [jC _ _ _ _ n h (Nat.le_refl _), List.length_take, Nat.min_eq_left hb.2];exact ⟨hb.2, by simp⟩
 ·rintro ⟨h1, h2⟩;rw [Bool.and_eq_true] at h2;have hlen : (Y.take n).length = n := by rw [List.length_take]; omega
  have h3 : (Xn 256 (Y.take n) 0).1 = n := by have := h2.2; rw [hlen] at this; simpa using this
  exact yu 256 Y 0 n n (Prod.ext h3 h2.1)
theorem vB {Y : Bs} {n : Nat} (h : lead Y = (n, true)) : 1 ≤ n ∧ n ≤ 255 ∧ n ≤ Y.length := by
 have hb := yw _ _ _ _ h;have := JL 256 Y 0;unfold lead at h;rw [h] at this;exact ⟨by omega, this, hb.2⟩
/-- ahead of anything -/
theorem fK {Y Z : Bs} (h : vI Y = true) : lead (Y ++ Z) = (Y.length, true) := yt.2 ⟨by simp, by rw [List.take_left]; exact h⟩
/-! ### where names stand -/
structure Pl where
 at_ : Nat
 n : Nat
instance : Enc Pl := ⟨fun x => [.int .i64 (x.at_ : Int), .int .i64 (x.n : Int)], 2, fun _ => rfl, fun _ => rfl⟩
def ZV (t : Int) : Option (Nat × Nat × Nat) := if t = 2 ∨ t = 5 ∨ t = 12 then some (0, 1, 0) else if t = 15 then some (2, 1, 0) else if t = 33 then some (6, 1, 0) else if t = 6 then some (0, 2, 20) else none
/-- names, one behind the other -/
def Y8 (d : Bs) : Nat → Nat → Option (List Pl × Nat)
 | 0, a => some ([], a)
 | k + 1, a => if (lead (d.drop a)).2 = true then (Y8 d k (a + (lead (d.drop a)).1)).map fun x => (⟨a, (lead (d.drop a)).1⟩ :: x.1, x.2) else none
def xM (t : Int) (d : Bs) : Option (List Pl) := match ZV t with
 | none => some []
 | some (a, k, b) => if d.length < a then none else match Y8 d k a with
  | some (l, e) => if d.length = e + b then some l else none
  | none => none
/-- texts -/
def lF : Nat → Bs → Nat → Bool
 | 0, _, _ => false
 | f + 1, d, a => match d[a]? with
  | some b => lF f d (a + 1 + b.toNat)
  | none => a == d.length
def txt (d : Bs) : Bool := d != [] && lF (d.length + 1) d 0
def ZH (t : Int) (d : Bs) : Bool := if 1000 < d.length then false else if t = 1 then d.length == 4 else if t = 28 then d.length == 16 else if t = 16 then txt d else (xM t d).isSome
def prt (t : Int) (d : Bs) : List Pl := if ZH t d = true then (xM t d).getD [] else []
theorem dP {d : Bs} : ∀ {k a : Nat} {l : List Pl} {e : Nat}, Y8 d k a = some (l, e) → a ≤ d.length → e ≤ d.length ∧ a ≤ e ∧ l.length = k
 | 0, a, l, e, h, ha => by
  obtain ⟨rfl, rfl⟩ := Prod.mk.inj (Option.some.inj h);exact ⟨ha, Nat.le_refl _, rfl⟩
 | k + 1, a, l, e, h, ha => by
  unfold Y8 at h;split at h
  ·next h2 =>
   have hl : lead (d.drop a) = ((lead (d.drop a)).1, true) := by rw [← h2]
   have hp := vB hl;rw [List.length_drop] at hp;cases hx : Y8 d k (a + (lead (d.drop a)).1) with
   | none => rw [hx] at h; cases h
   | some x =>
    obtain ⟨l2, e2⟩ := x;rw [hx] at h;obtain ⟨rfl, rfl⟩ := Prod.mk.inj (Option.some.inj h);have := dP hx (by omega);exact ⟨this.1, by omega, by simp [this.2.2]⟩
  ·cases h
/-- places, one behind the other, from a on -/
def Row (d : Bs) : Nat → List Pl → Prop
 | a, [] => a ≤ d.length
 | a, p :: l => p.at_ = a ∧ lead (d.drop a) = (p.n, true) ∧ Row d (a + p.n) l
theorem K4 {d : Bs} : ∀ {k a : Nat} {l : List Pl} {e : Nat}, Y8 d k a = some (l, e) → a ≤ d.length → Row d a l
 | 0, a, l, e, h, ha => by
  obtain ⟨rfl, rfl⟩ := Prod.mk.inj (Option.some.inj h);exact ha
 | k + 1, a, l, e, h, ha => by
  unfold Y8 at h;split at h
  ·next h2 =>
   have hl : lead (d.drop a) = ((lead (d.drop a)).1, true) := by rw [← h2]
   have hp := vB hl;rw [List.length_drop] at hp;cases hx : Y8 d k (a + (lead (d.drop a)).1) with
   | none => rw [hx] at h; cases h
   | some x =>
    obtain ⟨l2, e2⟩ := x;rw [hx] at h;obtain ⟨rfl, rfl⟩ := Prod.mk.inj (Option.some.inj h);exact ⟨rfl, hl, K4 hx (show a + (lead (d.drop a)).1 ≤ d.length from by omega)⟩
  ·cases h
theorem Q0 {t : Int} {d : Bs} {l : List Pl} (h : xM t d = some l) : l = [] ∨ ∃ a k b e, ZV t = some (a, k, b) ∧ a ≤ d.length ∧ Y8 d k a = some (l, e) ∧ d.length = e + b := by
 unfold xM at h;split at h
 ·exact .inl (Option.some.inj h).symm
 ·next a k b hs =>
  split at h
  ·cases h
  ·split at h
   ·next l2 e hp =>
    split at h
    ·next he =>
     obtain rfl := Option.some.inj h;exact .inr ⟨a, k, b, e, hs, by omega, hp, he⟩
    ·cases h
   ·cases h
theorem jd {t : Int} {x : Nat × Nat × Nat} (h : ZV t = some x) : t ≠ 1 ∧ t ≠ 28 ∧ t ≠ 16 := by
 unfold ZV at h;refine ⟨fun e => ?_, fun e => ?_, fun e => ?_⟩ <;> (subst e; simp at h)
theorem xJ {t : Int} {x : Nat × Nat × Nat} (h : ZV t = some x) : x.1 ≤ 6 ∧ x.2.1 ≤ 2 ∧ x.2.2 ≤ 20 := by
 unfold ZV at h;split at h
 ·obtain rfl := Option.some.inj h; decide
 ·split at h
  ·obtain rfl := Option.some.inj h; decide
  ·split at h
   ·obtain rfl := Option.some.inj h; decide
   ·split at h
    ·obtain rfl := Option.some.inj h; decide
    ·cases h
theorem K3 {t : Int} {d : Bs} {l : List Pl} (h : xM t d = some l) : l.length ≤ 2 := by
 rcases Q0 h with rfl | ⟨a, k, b, e, hs, ha, hp, _⟩
 ·exact Nat.zero_le _
 ·have h1 := (xJ hs).2.1;have h2 := (dP hp ha).2.2;simp only at h1;omega
end Go.Proofs.YtejmbmenbailmaaGreat
namespace Go.Proofs.YtejmbmenbailmaaGreat
open Go.Xs
open Enc (enc)
/-! ### Drop, and one use more, step by step -/
def A8 : List Nm → Int → List Nm
 | [], _ => []
 | e :: l, i => if e.id = i then (if e.u = 1 then l else ⟨e.id, e.n, e.u - 1⟩ :: l) else e :: A8 l i
def inc : List Nm → Int → List Nm
 | [], _ => []
 | e :: l, i => if e.id = i then ⟨e.id, e.n, e.u + 1⟩ :: l else e :: inc l i
theorem YS : ∀ (L : List Nm) (i : Int), vF L i = A8 L i
 | [], _ => rfl
 | e :: l, i => by
  have ih := YS l i;unfold vF at ih ⊢;unfold A8 VH;by_cases h : e.id = i
  ·rw [if_pos h, if_pos h];simp only [List.getElem?_cons_zero, List.eraseIdx_cons_zero];unfold reuse;rw [List.set_cons_zero]
  ·rw [if_neg h, if_neg h, ← ih];cases hx : VH i l with
   | none => rfl
   | some k =>
    obtain ⟨x, h1, _⟩ := U1 hx;simp only [Option.map_some, List.getElem?_cons_succ, h1, List.eraseIdx_cons_succ];unfold reuse;rw [List.set_cons_succ];split <;> rfl
theorem Yy : ∀ {L : List Nm} {j : Nat} {e : Nm}, (L.map (·.id)).Nodup → L[j]? = some e → reuse L j e (e.u + 1) = inc L e.id
 | [], _, _, _, h => by simp at h
 | x :: l, 0, e, _, h => by
  obtain rfl : x = e := by simpa using h
  unfold inc reuse;rw [if_pos rfl, List.set_cons_zero]
 | x :: l, j + 1, e, hd, h => by
  rw [List.map_cons, List.nodup_cons] at hd;have hl : l[j]? = some e := by simpa using h
  have hne : x.id ≠ e.id := fun h2 => hd.1 (h2 ▸ List.mem_map.2 ⟨e, List.mem_of_getElem? hl, rfl⟩)
  have ih := Yy hd.2 hl;unfold reuse at ih ⊢;unfold inc;rw [if_neg hne, List.set_cons_succ, ih]
/-! ### a list of names, each used so often more -/
def W9 : List Nm → (Int → Nat) → List Nm
 | [], _ => []
 | e :: l, c => if e.u + c e.id = 0 then W9 l c else ⟨e.id, e.n, e.u + c e.id⟩ :: W9 l c
theorem yX (e : Nm) (l : List Nm) (c : Int → Nat) : W9 (e :: l) c = if e.u + c e.id = 0 then W9 l c else ⟨e.id, e.n, e.u + c e.id⟩ :: W9 l c := rfl
theorem WS : ∀ {L : List Nm} {c c' : Int → Nat}, (∀ e ∈ L, c e.id = c' e.id) → W9 L c = W9 L c'
 | [], _, _, _ => rfl
 | e :: l, c, c', h => by
  unfold W9;rw [h e (by simp), WS fun x hx => h x (List.mem_cons_of_mem _ hx)]
theorem Ux (c : Int → Nat) : ∀ (L M : List Nm), W9 (L ++ M) c = W9 L c ++ W9 M c
 | [], _ => rfl
 | e :: l, M => by
  rw [List.cons_append, yX, yX, Ux c l M];split
  ·rfl
  ·rfl
theorem QD : ∀ {L : List Nm}, Pos L → W9 L (fun _ => 0) = L
 | [], _ => rfl
 | e :: l, h => by
  unfold W9;have := h e (by simp);rw [if_neg (by omega), QD fun x hx => h x (List.mem_cons_of_mem _ hx)];rfl
theorem jW : ∀ {L : List Nm} {c : Int → Nat}, (∀ e ∈ L, e.u + c e.id = 0) → W9 L c = []
 | [], _, _ => rfl
 | e :: l, c, h => by
  unfold W9;rw [if_pos (h e (by simp))];exact jW fun x hx => h x (List.mem_cons_of_mem _ hx)
theorem Vq : ∀ {L : List Nm} {c : Int → Nat} {x : Nm}, x ∈ W9 L c ↔ ∃ e ∈ L, x = ⟨e.id, e.n, e.u + c e.id⟩ ∧ x.u ≠ 0
 | [], c, x => by unfold W9; simp
 | e :: l, c, x => by
  unfold W9;split
  ·next h0 =>
   rw [Vq];constructor
   ·rintro ⟨y, hy, h1, h2⟩; exact ⟨y, List.mem_cons_of_mem _ hy, h1, h2⟩
   ·rintro ⟨y, hy, h1, h2⟩;rcases List.mem_cons.1 hy with rfl | hy
    ·rw [h1] at h2; exact absurd h0 h2
    ·exact ⟨y, hy, h1, h2⟩
  ·next h0 =>
   rw [List.mem_cons, Vq];constructor
   ·rintro (rfl | ⟨y, hy, h1, h2⟩)
    ·exact ⟨e, by simp, rfl, h0⟩
    ·exact ⟨y, List.mem_cons_of_mem _ hy, h1, h2⟩
   ·rintro ⟨y, hy, h1, h2⟩;rcases List.mem_cons.1 hy with rfl | hy
    ·exact .inl h1
    ·exact .inr ⟨y, hy, h1, h2⟩
theorem KA (c : Int → Nat) : ∀ (L : List Nm), List.Sublist ((W9 L c).map (·.id)) (L.map (·.id)) ∧ List.Sublist ((W9 L c).map (·.n)) (L.map (·.n))
 | [] => ⟨.slnil, .slnil⟩
 | e :: l => by
  have ih := KA c l;unfold W9;split
  ·exact ⟨.cons _ ih.1, .cons _ ih.2⟩
  ·exact ⟨.cons_cons _ ih.1, .cons_cons _ ih.2⟩
theorem QF {L : List Nm} (c : Int → Nat) (h : xD L) : xD (W9 L c) := ⟨(KA c L).1.nodup h.ids, (KA c L).2.nodup h.ns⟩
theorem jX {c : Int → Nat} {i : Int} : ∀ {L : List Nm}, (L.map (·.id)).Nodup → (∃ e ∈ L, e.id = i) → 1 ≤ c i → A8 (W9 L c) i = W9 L (fun k => if k = i then c k - 1 else c k)
 | [], _, h, _ => by simp at h
 | e :: l, hd, h, hc => by
  rw [List.map_cons, List.nodup_cons] at hd;unfold W9;by_cases he : e.id = i
  ·have htl : W9 l c = W9 l (fun k => if k = i then c k - 1 else c k) := WS fun x hx => by
    have hne : x.id ≠ i := fun h2 => hd.1 (he ▸ h2 ▸ List.mem_map.2 ⟨x, hx, rfl⟩)
    show c x.id = if x.id = i then c x.id - 1 else c x.id
    rw [if_neg hne]
   rw [if_neg (by rw [he]; omega)];unfold A8;rw [if_pos he];simp only [he, if_true];by_cases h1 : e.u + c i = 1
   ·rw [if_pos h1, if_pos (by omega), htl]
   ·rw [if_neg h1, if_neg (by omega), ← htl, show e.u + c i - 1 = e.u + (c i - 1) from by omega]
  ·have h2 : ∃ e ∈ l, e.id = i := by
    obtain ⟨x, hx, hxi⟩ := h;rcases List.mem_cons.1 hx with rfl | hx
    ·exact absurd hxi he
    ·exact ⟨x, hx, hxi⟩
   have ih := jX hd.2 h2 hc;simp only [if_neg he];by_cases h0 : e.u + c e.id = 0
   ·rw [if_pos h0, if_pos h0]; exact ih
   ·rw [if_neg h0, if_neg h0];show A8 (_ :: _) i = _;unfold A8;rw [if_neg (show ¬ (⟨e.id, e.n, e.u + c e.id⟩ : Nm).id = i from he), ih]
theorem QE {c : Int → Nat} {i : Int} : ∀ {L : List Nm}, (L.map (·.id)).Nodup → (∀ e ∈ L, 1 ≤ e.u + c e.id) → inc (W9 L c) i = W9 L (fun k => if k = i then c k + 1 else c k)
 | [], _, _ => rfl
 | e :: l, hd, h => by
  rw [List.map_cons, List.nodup_cons] at hd;have h1 := h e (by simp);unfold W9;rw [if_neg (by omega)];show inc (_ :: _) i = _;unfold inc;by_cases he : e.id = i
  ·have htl : W9 l c = W9 l (fun k => if k = i then c k + 1 else c k) := WS fun x hx => by
    have hne : x.id ≠ i := fun h2 => hd.1 (he ▸ h2 ▸ List.mem_map.2 ⟨x, hx, rfl⟩)
    show c x.id = if x.id = i then c x.id + 1 else c x.id
    rw [if_neg hne]
   rw [if_pos (show (⟨e.id, e.n, e.u + c e.id⟩ : Nm).id = i from he)];simp only [he, if_true];rw [if_neg (by omega), ← htl]; rfl
  ·have ih := QE (c := c) (i := i) hd.2 fun x hx => h x (List.mem_cons_of_mem _ hx)
   rw [if_neg (show ¬ (⟨e.id, e.n, e.u + c e.id⟩ : Nm).id = i from he)];simp only [if_neg he];rw [if_neg (by omega), ih]
/-! ### drops -/
def drops (L : List Nm) (ids : List Int) : List Nm := ids.foldl vF L
theorem X0 : ∀ {ids : List Int} {L : List Nm} {c : Int → Nat}, (L.map (·.id)).Nodup → (∀ i ∈ ids, ∃ e ∈ L, e.id = i) → drops (W9 L fun k => c k + ids.count k) ids = W9 L c
 | [], L, c, _, _ => by unfold drops; simp
 | i :: ids, L, c, hd, h => by
  have h1 := jX (c := fun k => c k + (i :: ids).count k) (i := i) hd (h i (by simp)) (by simp; omega);have h2 : (W9 L fun k => if k = i then c k + (i :: ids).count k - 1 else c k + (i :: ids).count k) = W9 L fun k => c k + ids.count k := WS fun e _ => by
   show (if e.id = i then c e.id + (i :: ids).count e.id - 1 else c e.id + (i :: ids).count e.id) = c e.id + ids.count e.id;rw [List.count_cons];by_cases he : e.id = i
   ·subst he; simp
   ·have : (i == e.id) = false := by simpa using fun h3 : i = e.id => he h3.symm
    rw [if_neg he, this]; simp
  show (ids.foldl vF (vF (W9 L fun k => c k + (i :: ids).count k) i)) = _;rw [YS, h1, h2];exact X0 hd fun j hj => h j (List.mem_cons_of_mem _ hj)
/-! ### adds -/
structure Ad where
 D : List (Option Bt)
 L : List Nm
 ids : List Int
 e : Int
def wG (N : Nat) : List (Option Bt) → List Nm → List Bs → Ad
 | D, L, [] => ⟨D, L, [], 0⟩
 | D, L, n :: l => if WA N D L n = 0 then ⟨(wG N (WB D L (zy n)) (ZG D L (zy n)) l).D, (wG N (WB D L (zy n)) (ZG D L (zy n)) l).L, uR D L (zy n) :: (wG N (WB D L (zy n)) (ZG D L (zy n)) l).ids, (wG N (WB D L (zy n)) (ZG D L (zy n)) l).e⟩ else ⟨D, L, [], WA N D L n⟩
theorem Kw {L : List Nm} {m : Bs} : (Vi L m).isSome = true ↔ ∃ e ∈ L, e.n = m := by
 constructor
 ·intro h;obtain ⟨e, he⟩ := Option.isSome_iff_exists.1 h;obtain ⟨j, _, h2, h3⟩ := vH he;exact ⟨e, List.mem_of_getElem? h2, h3⟩
 ·rintro ⟨e, he, rfl⟩;exact qb he
theorem iR {D : List (Option Bt)} {L : List Nm} {n m : Bs} : (Vi (ZG D L n) m).isSome = true ↔ m = n ∨ (Vi L m).isSome = true := by
 rw [Kw, Kw];cases hb : Vi L n with
 | some x =>
  obtain ⟨j, h1, h2, rfl⟩ := vH hb;have : ZG D L x.n = reuse L j x (x.u + 1) := by unfold ZG; rw [h1]; simp only [h2]
  rw [this];constructor
  ·rintro ⟨e, he, rfl⟩;obtain ⟨y, hy, _, h4⟩ := VI h2 he;exact .inr ⟨y, hy, h4⟩
  ·rintro (rfl | ⟨y, hy, rfl⟩)
   ·obtain ⟨z, hz, _, h4⟩ := WL (u := x.u + 1) h2 (List.mem_of_getElem? h2);exact ⟨z, hz, h4⟩
   ·obtain ⟨z, hz, _, h4⟩ := WL (u := x.u + 1) h2 hy;exact ⟨z, hz, h4⟩
 | none =>
  have : ZG D L n = L ++ [⟨((hnd D : Nat) : Int), n, 1⟩] := by unfold ZG; rw [Wy hb]
  rw [this];constructor
  ·rintro ⟨e, he, rfl⟩;rcases List.mem_append.1 he with he | he
   ·exact .inr ⟨e, he, rfl⟩
   ·rw [List.mem_singleton.1 he]; exact .inl rfl
  ·rintro (rfl | ⟨y, hy, rfl⟩)
   ·exact ⟨⟨((hnd D : Nat) : Int), m, 1⟩, by simp, rfl⟩
   ·exact ⟨y, List.mem_append.2 (.inl hy), rfl⟩
theorem yD (D : List (Option Bt)) : Zg D ((hnd D : Nat) : Int) = none := by
 have := vD D;have hp := wJ D;rw [show ((hnd D : Nat) : Int) = ((hnd D - 1 : Nat) : Int) + 1 from by omega, Zy]; exact this
/-- what adds leave: the elder names, new ones behind them, each used as often as its number was told -/
theorem XF (N : Nat) : ∀ (l : List Bs) (D : List (Option Bt)) (L : List Nm) (c : Int → Nat), xD L → (∀ e ∈ L, (Zg D e.id).isSome = true) → (∀ e ∈ L, 1 ≤ e.u + c e.id) → (∀ i, (∀ e ∈ L, e.id ≠ i) → c i = 0) →
 ∃ M : List Nm, (∀ e ∈ M, e.u = 0) ∧ xD (L ++ M) ∧ (wG N D (W9 L c) l).L = W9 (L ++ M) (fun k => c k + (wG N D (W9 L c) l).ids.count k) ∧ (∀ i ∈ (wG N D (W9 L c) l).ids, ∃ e ∈ L ++ M, e.id = i) ∧
  (∀ e ∈ L ++ M, (Zg (wG N D (W9 L c) l).D e.id).isSome = true) ∧ (∀ e ∈ M, Zg D e.id = none)
 | [], D, L, c, hd, hD, _, _ => ⟨[], fun e he => by simp at he, by rw [List.append_nil]; exact hd, by unfold wG; simp, fun i hi => by unfold wG at hi; simp at hi, by rw [List.append_nil]; exact hD, fun e he => by simp at he⟩
 | n :: l, D, L, c, hd, hD, hu, hc => by
  unfold wG;by_cases hE : WA N D (W9 L c) n = 0
  ·rw [if_pos hE];have hcount : ∀ (i k : Int) (ids : List Int), (i :: ids).count k = ids.count k + if k = i then 1 else 0 := fun i k ids => by
    rw [List.count_cons];by_cases h : k = i
    ·subst h; simp
    ·have : (i == k) = false := by simpa using fun h3 : i = k => h h3.symm
     rw [if_neg h, this]; simp
   cases hb : Vi (W9 L c) (zy n) with
   | some x =>
    obtain ⟨j, h1, h2, h3⟩ := vH hb;have hxm := List.mem_of_getElem? h2;obtain ⟨e, heL, hxe, _⟩ := Vq.1 hxm;have hL : ZG D (W9 L c) (zy n) = W9 L (fun k => if k = x.id then c k + 1 else c k) := by
     unfold ZG; rw [h1]; simp only [h2];rw [Yy (QF c hd).ids h2, QE hd.ids hu]
    have hDD : WB D (W9 L c) (zy n) = D := by unfold WB; rw [hb]; rfl
    have hI : uR D (W9 L c) (zy n) = x.id := by unfold uR; rw [hb]; rfl
    rw [hL, hDD, hI];have hxid : x.id = e.id := by rw [hxe]
    obtain ⟨M, i1, i2, i3, i4, i5, i6⟩ := XF N l D L (fun k => if k = x.id then c k + 1 else c k) hd hD (fun y hy => by
     have := hu y hy;show 1 ≤ y.u + if y.id = x.id then c y.id + 1 else c y.id
     split <;> omega) (fun i hi => by
     show (if i = x.id then c i + 1 else c i) = 0;rw [if_neg fun h4 => hi e heL (by rw [h4, hxid])]; exact hc i hi)
    refine ⟨M, i1, i2, ?_, fun i hi => ?_, i5, i6⟩
    ·rw [i3];refine WS fun y _ => ?_
     show (if y.id = x.id then c y.id + 1 else c y.id) + _ = c y.id + _;rw [hcount];split <;> omega
    ·rcases List.mem_cons.1 hi with rfl | hi
     ·exact ⟨e, List.mem_append.2 (.inl heL), hxid.symm⟩
     ·exact i4 i hi
   | none =>
    have hL0 : ZG D (W9 L c) (zy n) = W9 L c ++ [⟨((hnd D : Nat) : Int), zy n, 1⟩] := by unfold ZG; rw [Wy hb]
    have hDD : WB D (W9 L c) (zy n) = ZB D (8 + (zy n).length) := by unfold WB; rw [hb]; rfl
    have hI : uR D (W9 L c) (zy n) = ((hnd D : Nat) : Int) := by unfold uR; rw [hb]; rfl
    have hno := yD D;have hidn : ∀ y ∈ L, y.id ≠ ((hnd D : Nat) : Int) := fun y hy h => by
     have := hD y hy;rw [h, hno] at this; cases this
    have hnn : ∀ y ∈ L, y.n ≠ zy n := fun y hy h => by
     have hm : (⟨y.id, y.n, y.u + c y.id⟩ : Nm) ∈ W9 L c := Vq.2 ⟨y, hy, rfl, by have := hu y hy; show y.u + c y.id ≠ 0; omega⟩;exact V8 (Wy hb) _ hm h
    have hL : ZG D (W9 L c) (zy n) = W9 (L ++ [⟨((hnd D : Nat) : Int), zy n, 0⟩]) (fun k => if k = ((hnd D : Nat) : Int) then 1 else c k) := by
     rw [hL0, Ux];congr 1
     ·refine WS fun y hy => ?_
      show c y.id = if y.id = ((hnd D : Nat) : Int) then 1 else c y.id
      rw [if_neg (hidn y hy)]
     ·unfold W9;simp [W9]
    rw [hL, hDD, hI];have hd2 : xD (L ++ [⟨((hnd D : Nat) : Int), zy n, 0⟩]) := hd.add hidn hnn;obtain ⟨M, i1, i2, i3, i4, i5, i6⟩ := XF N l (ZB D (8 + (zy n).length)) (L ++ [⟨((hnd D : Nat) : Int), zy n, 0⟩]) (fun k => if k = ((hnd D : Nat) : Int) then 1 else c k) hd2 (fun y hy => by
     rcases List.mem_append.1 hy with hy | hy
     ·rw [Zt (hidn y hy)]; exact hD y hy
     ·rw [List.mem_singleton.1 hy]; show (Zg _ ((hnd D : Nat) : Int)).isSome = true; rw [wP]; rfl) (fun y hy => by
     show 1 ≤ y.u + if y.id = ((hnd D : Nat) : Int) then 1 else c y.id
     rcases List.mem_append.1 hy with hy | hy
     ·rw [if_neg (hidn y hy)]; exact hu y hy
     ·rw [List.mem_singleton.1 hy]; simp) (fun i hi => by
     show (if i = ((hnd D : Nat) : Int) then 1 else c i) = 0;have h5 : ¬ i = ((hnd D : Nat) : Int) := fun h => hi ⟨((hnd D : Nat) : Int), zy n, 0⟩ (by simp) h.symm
     rw [if_neg h5];exact hc i fun y hy => hi y (List.mem_append.2 (.inl hy)))
    rw [List.append_assoc] at i2 i3 i4 i5;refine ⟨[⟨((hnd D : Nat) : Int), zy n, 0⟩] ++ M, fun y hy => ?_, i2, ?_, fun i hi => ?_, i5, fun y hy => ?_⟩
    ·rcases List.mem_append.1 hy with hy | hy
     ·rw [List.mem_singleton.1 hy]
     ·exact i1 y hy
    ·rw [i3];refine WS fun y _ => ?_
     show (if y.id = ((hnd D : Nat) : Int) then 1 else c y.id) + _ = c y.id + _;rw [hcount];by_cases h6 : y.id = ((hnd D : Nat) : Int)
     ·rw [if_pos h6, if_pos h6, h6, hc _ hidn]; omega
     ·rw [if_neg h6, if_neg h6]; omega
    ·rcases List.mem_cons.1 hi with rfl | hi
     ·exact ⟨⟨((hnd D : Nat) : Int), zy n, 0⟩, by simp, rfl⟩
     ·exact i4 i hi
    ·rcases List.mem_append.1 hy with hy | hy
     ·rw [List.mem_singleton.1 hy]; exact hno
     ·have h7 := i6 y hy;have hne : y.id ≠ ((hnd D : Nat) : Int) := fun h => by rw [h, wP] at h7; cases h7
      rw [Zt hne] at h7; exact h7
  ·rw [if_neg hE];exact ⟨[], fun e he => by simp at he, by rw [List.append_nil]; exact hd, by simp, fun i hi => by simp at hi, by rw [List.append_nil]; exact hD, fun e he => by simp at he⟩
/-- all adds undone -/
theorem aY {N : Nat} {l : List Bs} {D : List (Option Bt)} {L : List Nm} (hd : xD L) (hp : Pos L) (hD : ∀ e ∈ L, (Zg D e.id).isSome = true) : drops (wG N D L l).L (wG N D L l).ids = L := by
 have h0 := QD hp;obtain ⟨M, i1, i2, i3, i4, _, _⟩ := XF N l D L (fun _ => 0) hd hD (fun e he => by have := hp e he; omega) (fun _ _ => rfl);rw [h0] at i3 i4;rw [i3, X0 i2.ids i4, Ux, h0, jW (fun e he => by rw [i1 e he]), List.append_nil]
/-! ### what they cost -/
def wF (L : List Nm) : List Bs → List Bs → Nat
 | _, [] => 0
 | seen, n :: l => (if zy n ∈ seen ∨ (Vi L (zy n)).isSome = true then 0 else zY (8 + n.length)) + wF L (zy n :: seen) l
theorem uN {L : List Nm} : ∀ {l : List Bs} {s s' : List Bs}, (∀ m, m ∈ s ↔ m ∈ s') → wF L s l = wF L s' l
 | [], _, _, _ => rfl
 | n :: l, s, s', h => by
  unfold wF;rw [uN (s := zy n :: s) (s' := zy n :: s') fun m => by rw [List.mem_cons, List.mem_cons, h m]];simp only [h (zy n)]
theorem YX {L L' : List Nm} {x : Bs} (hL : ∀ m, (Vi L' m).isSome = true ↔ m = x ∨ (Vi L m).isSome = true) : ∀ {l : List Bs} {s : List Bs}, wF L' s l = wF L (x :: s) l
 | [], _ => rfl
 | n :: l, s => by
  unfold wF;rw [YX hL (l := l) (s := zy n :: s), uN (s := x :: zy n :: s) (s' := zy n :: x :: s) fun m => by simp only [List.mem_cons]; exact ⟨fun h => by rcases h with h | h | h <;> simp [h], fun h => by rcases h with h | h | h <;> simp [h]⟩];congr 1;have hiff : (zy n ∈ s ∨ (Vi L' (zy n)).isSome = true) ↔ (zy n ∈ x :: s ∨ (Vi L (zy n)).isSome = true) := by
   rw [hL, List.mem_cons];exact ⟨fun h => by rcases h with h | h | h <;> simp [h], fun h => by rcases h with (h | h) | h <;> simp [h]⟩
  simp only [hiff]
theorem yP (k : Nat) : 16 ≤ zY k := by
 unfold zY
 (repeat' split) <;> omega
theorem Y4 {N : Nat} : ∀ {l : List Bs} {D : List (Option Bt)} {L : List Nm}, (∀ n ∈ l, vI n = true) → Zb D ≤ N →
 (Zb D + wF L [] l ≤ N → (wG N D L l).e = 0 ∧ Zb (wG N D L l).D = Zb D + wF L [] l) ∧ (N < Zb D + wF L [] l → (wG N D L l).e = 4)
 | [], D, L, _, hN => ⟨fun _ => ⟨rfl, rfl⟩, fun h => absurd h (Nat.not_lt.2 hN)⟩
 | n :: l, D, L, hv, hN => by
  have hvn := hv n (by simp);have h255 := Wv hvn;have hfl := wU n;have hstep : wF L [zy n] l = wF (ZG D L (zy n)) [] l := (YX fun m => iR).symm;have hcc : cost (8 + (n.length : Int)) = (zY (8 + n.length) : Nat) := by
   unfold cost; rw [if_neg (by omega)]; congr 1
  have h16 := yP (8 + n.length);unfold wG wF;rw [hstep];have hnil : ¬ zy n ∈ ([] : List Bs) := by simp
  cases hb : (Vi L (zy n)).isSome with
  | true =>
   have hE : WA N D L n = 0 := by unfold WA; rw [if_neg (by rw [hvn]; decide), hb]; rfl
   have hDD : WB D L (zy n) = D := by unfold WB; rw [hb]; rfl
   rw [if_pos hE, if_pos (.inr rfl), Nat.zero_add, hDD];exact Y4 (fun m hm => hv m (List.mem_cons_of_mem _ hm)) hN
  | false =>
   have hEa : WA N D L n = if (N : Int) - Zb D < (zY (8 + n.length) : Nat) then 4 else 0 := by
    unfold WA ZA;rw [if_neg (by rw [hvn]; decide), hb, if_neg (by decide), hcc, if_neg (by omega)]
   have hDD : WB D L (zy n) = ZB D (8 + n.length) := by unfold WB; rw [hb, hfl]; rfl
   rw [if_neg (show ¬ (zy n ∈ ([] : List Bs) ∨ false = true) from by simp)];by_cases hroom : Zb D + zY (8 + n.length) ≤ N
   ·have hE : WA N D L n = 0 := by rw [hEa, if_neg (by omega)]
    rw [if_pos hE];have hu := ql D (8 + n.length);rw [← hDD] at hu;have ih := Y4 (N := N) (l := l) (D := WB D L (zy n)) (L := ZG D L (zy n)) (fun m hm => hv m (List.mem_cons_of_mem _ hm)) (by omega);rw [hu] at ih;refine ⟨fun h => ?_, fun h => ih.2 (by omega)⟩;obtain ⟨h1, h2⟩ := ih.1 (by omega);exact ⟨h1, by rw [← Nat.add_assoc]; exact h2⟩
   ·have hE : WA N D L n = 4 := by rw [hEa, if_pos (by omega)]
    rw [if_neg (by rw [hE]; decide)];exact ⟨fun h => by omega, fun _ => hE⟩
end Go.Proofs.YtejmbmenbailmaaGreat
namespace Go.Proofs.YtejmbmenbailmaaGreat
open Go.Xs
open Enc (enc)
structure RR where
 n : Bs
 t : Int
 c : Int
 ttl : Int
 d : Bs
instance : Enc RR := ⟨fun x => [sv x.n, .int .i64 x.t, .int .i64 x.c, .int .i64 x.ttl, sv x.d], 5, fun _ => rfl, fun _ => rfl⟩
structure St where
 name : Bs
 typ : Int
 kind : Int
 zone : Bs
 rrs : List RR
def St.v (s : St) (w : Value) : Value := .agg #[sv s.name, .int .i64 s.typ, w, .int .i64 s.kind, sv s.zone]
def Yx (a b : Bs) : Bool := vI a && vI b && (a.map low == b.map low)
def Xj (s : St) (r : RR) : Bool := Yx r.n s.name && decide (r.t = s.typ) && decide (r.c = 1) && ZH r.t r.d
def vQ (s : St) : Bool := vI s.name && vI s.zone && decide (1 ≤ s.typ ∧ s.typ ≤ 65535 ∧ 0 ≤ s.kind ∧ s.kind ≤ 2) && decide (s.rrs.length ≤ 32) && (decide (0 < s.rrs.length) == decide (s.kind = 0)) && s.rrs.all (Xj s)
def U9 (d : Bs) (p : Pl) : Bs := (d.drop p.at_).take p.n
def Zr (r : RR) : List Bs := (prt r.t r.d).map (U9 r.d)
def Z6 (s : St) : List Bs := s.name :: s.zone :: (s.rrs.map Zr).flatten
def wV (l : List Int) : Int := l.foldr (· + ·) 0
def WZ (r : RR) : Int := 2 + (r.d.length : Int) + wV ((prt r.t r.d).map fun p => 4 - (p.n : Int))
def Zm (s : St) : Int := 16 + wV (s.rrs.map WZ)
def wC (s : St) : Int := if vQ s = false then 1 else if 4096 < Zm s then 3 else 0
def xI (s : St) : Int := if wC s = 0 then Zm s else 0
/-- data with other bytes in the names' places -/
def splice (d : Bs) : Nat → List Pl → List Bs → Bs
 | a, p :: l, x :: xs => (d.drop a).take (p.at_ - a) ++ x ++ splice d (p.at_ + p.n) l xs
 | a, _, _ => d.drop a
def WH (t : Int) (d : Bs) : Bs := splice d 0 (prt t d) ((prt t d).map fun p => zy (U9 d p))
def Zz (s : St) : St := ⟨zy s.name, s.typ, s.kind, zy s.zone, s.rrs.map fun r => ⟨zy s.name, r.t, 1, 0, WH r.t r.d⟩⟩
/-- a number's bytes, the least first -/
def U7 : Nat → Nat → Bs
 | 0, _ => []
 | k + 1, n => UInt8.ofNat (n % 256) :: U7 k (n / 256)
theorem Zu : ∀ (k n : Nat), (U7 k n).length = k
 | 0, _ => rfl
 | k + 1, n => by show (U7 k (n / 256)).length + 1 = k + 1; rw [Zu k]
def U8 (i : Int) : Bs := U7 4 i.toNat
def WQ (r : RR) (ids : List Int) : Bs := splice r.d 0 (prt r.t r.d) (ids.map U8)
def Um : List RR → List Int → Bs
 | [], _ => []
 | r :: l, ids => U7 2 (WQ r ids).length ++ WQ r ids ++ Um l (ids.drop (prt r.t r.d).length)
def Wd (s : St) (ids : List Int) : Bs := U8 (ids.getD 0 0) ++ U7 2 s.typ.toNat ++ U7 2 s.kind.toNat ++ U8 (ids.getD 1 0) ++ U7 4 0x5e7b10c5 ++ Um s.rrs (ids.drop 2)
theorem V7 (a : Int) (l : List Int) : wV (a :: l) = a + wV l := rfl
theorem X9 (l m : List Int) : wV (l ++ m) = wV l + wV m := by
 induction l with
 | nil => show wV m = 0 + wV m; omega
 | cons a l ih => rw [List.cons_append, V7, V7, ih]; omega
theorem qX (t : Int) (d : Bs) : prt t d = [] ∨ ∃ a k b e, ZV t = some (a, k, b) ∧ a ≤ d.length ∧ Y8 d k a = some (prt t d, e) ∧ d.length = e + b := by
 unfold prt;split
 ·next h =>
  cases hp : xM t d with
  | none => exact .inl rfl
  | some l => exact Q0 hp
 ·exact .inl rfl
/-- names are names -/
theorem qU {d : Bs} : ∀ {a : Nat} {l : List Pl}, Row d a l → ∀ p ∈ l, vI (U9 d p) = true ∧ (U9 d p).length = p.n ∧ p.at_ + p.n ≤ d.length
 | _, [], _, p, hp => by simp at hp
 | a, q :: l, ⟨h1, h2, h3⟩, p, hp => by
  rcases List.mem_cons.1 hp with rfl | hp
  ·subst h1;have hb := vB h2;rw [List.length_drop] at hb;exact ⟨(yt.1 h2).2, by unfold U9; rw [List.length_take, List.length_drop]; omega, by omega⟩
  ·exact qU h3 p hp
theorem Xy {t : Int} {d : Bs} {p : Pl} (hp : p ∈ prt t d) : vI (U9 d p) = true ∧ (U9 d p).length = p.n ∧ p.at_ + p.n ≤ d.length := by
 rcases qX t d with h | ⟨a, k, b, e, _, ha, hc, _⟩
 ·rw [h] at hp; simp at hp
 ·exact qU (K4 hc ha) p hp
theorem yh {s : St} (h : vQ s = true) : ∀ n ∈ Z6 s, vI n = true := fun n hn => by
 unfold vQ at h;simp only [Bool.and_eq_true] at h;obtain ⟨⟨⟨⟨⟨h1, h2⟩, _⟩, _⟩, _⟩, _⟩ := h;unfold Z6 at hn;rcases List.mem_cons.1 hn with rfl | hn
 ·exact h1
 rcases List.mem_cons.1 hn with rfl | hn
 ·exact h2
 obtain ⟨l, hl, hn⟩ := List.mem_flatten.1 hn;obtain ⟨r, _, rfl⟩ := List.mem_map.1 hl;unfold Zr at hn;obtain ⟨p, hp, rfl⟩ := List.mem_map.1 hn;exact (Xy hp).1
end Go.Proofs.YtejmbmenbailmaaGreat
namespace Go.Proofs.YtejmbmenbailmaaGreat
open Go.Xs
open Enc (enc)
/-! ### numbers beside names -/
inductive Al (L : List Nm) : List Int → List Bs → Prop
 | nil : Al L [] []
 | cons {i : Int} {n : Bs} {ids : List Int} {ns : List Bs} (h : ∃ e ∈ L, e.id = i ∧ e.n = n) (t : Al L ids ns) : Al L (i :: ids) (n :: ns)
theorem Al.mono {L L' : List Nm} (h : ∀ e ∈ L, ∃ e' ∈ L', e'.id = e.id ∧ e'.n = e.n) : ∀ {ids : List Int} {ns : List Bs}, Al L ids ns → Al L' ids ns
 | _, _, .nil => .nil
 | _, _, .cons ⟨e, he, h1, h2⟩ t => by
  obtain ⟨e', he', h3, h4⟩ := h e he;exact .cons ⟨e', he', h3.trans h1, h4.trans h2⟩ (Al.mono h t)
theorem bf {D : List (Option Bt)} {L : List Nm} {n : Bs} {e : Nm} (he : e ∈ L) : ∃ e' ∈ ZG D L n, e'.id = e.id ∧ e'.n = e.n := by
 cases hb : Vi L n with
 | some x =>
  obtain ⟨j, h1, h2, rfl⟩ := vH hb;have : ZG D L x.n = reuse L j x (x.u + 1) := by unfold ZG; rw [h1]; simp only [h2]
  rw [this];exact WL h2 he
 | none =>
  have : ZG D L n = L ++ [⟨((hnd D : Nat) : Int), n, 1⟩] := by unfold ZG; rw [Wy hb]
  rw [this];exact ⟨e, List.mem_append.2 (.inl he), rfl, rfl⟩
theorem aZ {D : List (Option Bt)} {L : List Nm} {n : Bs} : ∃ e ∈ ZG D L n, e.id = uR D L n ∧ e.n = n := by
 cases hb : Vi L n with
 | some x =>
  obtain ⟨j, h1, h2, rfl⟩ := vH hb;have : ZG D L x.n = reuse L j x (x.u + 1) := by unfold ZG; rw [h1]; simp only [h2]
  rw [this];obtain ⟨e, he, h3, h4⟩ := WL (u := x.u + 1) h2 (List.mem_of_getElem? h2);exact ⟨e, he, by rw [h3]; unfold uR; rw [hb]; rfl, h4⟩
 | none =>
  have : ZG D L n = L ++ [⟨((hnd D : Nat) : Int), n, 1⟩] := by unfold ZG; rw [Wy hb]
  rw [this];exact ⟨⟨((hnd D : Nat) : Int), n, 1⟩, by simp, by unfold uR; rw [hb]; rfl, rfl⟩
theorem uQ {N : Nat} {D : List (Option Bt)} {L : List Nm} {n : Bs} {l : List Bs} (h : WA N D L n = 0) : wG N D L (n :: l) = ⟨(wG N (WB D L (zy n)) (ZG D L (zy n)) l).D, (wG N (WB D L (zy n)) (ZG D L (zy n)) l).L, uR D L (zy n) :: (wG N (WB D L (zy n)) (ZG D L (zy n)) l).ids, (wG N (WB D L (zy n)) (ZG D L (zy n)) l).e⟩ := by
 rw [wG, if_pos h]
theorem Y0 {N : Nat} {D : List (Option Bt)} {L : List Nm} {n : Bs} {l : List Bs} (h : WA N D L n ≠ 0) : wG N D L (n :: l) = ⟨D, L, [], WA N D L n⟩ := by
 rw [wG, if_neg h]
theorem Y3 {N : Nat} : ∀ {l : List Bs} {D : List (Option Bt)} {L : List Nm} {e : Nm}, e ∈ L → ∃ e' ∈ (wG N D L l).L, e'.id = e.id ∧ e'.n = e.n
 | [], _, _, e, he => ⟨e, he, rfl, rfl⟩
 | n :: l, D, L, e, he => by
  by_cases hE : WA N D L n = 0
  ·rw [uQ hE];obtain ⟨e1, h1, h2, h3⟩ := bf (D := D) (n := zy n) he;obtain ⟨e2, h4, h5, h6⟩ := Y3 (N := N) (l := l) (D := WB D L (zy n)) h1;exact ⟨e2, h4, h5.trans h2, h6.trans h3⟩
  ·rw [Y0 hE]; exact ⟨e, he, rfl, rfl⟩
theorem qo {N : Nat} : ∀ {l : List Bs} {D : List (Option Bt)} {L : List Nm}, (wG N D L l).e = 0 → Al (wG N D L l).L (wG N D L l).ids (l.map zy)
 | [], _, _, _ => .nil
 | n :: l, D, L, h => by
  by_cases hE : WA N D L n = 0
  ·rw [uQ hE] at h ⊢;obtain ⟨e1, h1, h2, h3⟩ := aZ (D := D) (L := L) (n := zy n);obtain ⟨e2, h4, h5, h6⟩ := Y3 (N := N) (l := l) (D := WB D L (zy n)) h1;exact .cons ⟨e2, h4, h5.trans h2, h6.trans h3⟩ (qo h)
  ·rw [Y0 hE] at h; exact absurd h hE
/-! ### names that live by the numbers that are held -/
structure KI (L : List Nm) (A : List Int) : Prop where
 dis : xD L
 us : ∀ e ∈ L, e.u = A.count e.id
 pos : Pos L
 ids : ∀ i ∈ A, ∃ e ∈ L, e.id = i
theorem KI.nil : KI [] [] := ⟨⟨List.nodup_nil, List.nodup_nil⟩, fun e he => by simp at he, Pos.nil, fun i hi => by simp at hi⟩
def qx (L : List Nm) : List Nm := L.map fun e => ⟨e.id, e.n, 0⟩
theorem iY (L : List Nm) : (qx L).map (·.id) = L.map (·.id) := by unfold qx; rw [List.map_map]; rfl
theorem oW (L : List Nm) : (qx L).map (·.n) = L.map (·.n) := by unfold qx; rw [List.map_map]; rfl
theorem Xp {L : List Nm} {e : Nm} (h : e ∈ qx L) : e.u = 0 ∧ ∃ x ∈ L, x.id = e.id ∧ x.n = e.n := by
 unfold qx at h;obtain ⟨x, hx, rfl⟩ := List.mem_map.1 h;exact ⟨rfl, x, hx, rfl, rfl⟩
theorem UY {L : List Nm} {e : Nm} (h : e ∈ L) : (⟨e.id, e.n, 0⟩ : Nm) ∈ qx L := List.mem_map.2 ⟨e, h, rfl⟩
theorem kD {L : List Nm} (h : xD L) : xD (qx L) := ⟨by rw [iY]; exact h.ids, by rw [oW]; exact h.ns⟩
theorem QC {c : Int → Nat} : ∀ {L : List Nm}, (∀ e ∈ L, e.u = c e.id) → Pos L → W9 (qx L) c = L
 | [], _, _ => rfl
 | e :: l, h, hp => by
  have h1 := h e (by simp);have h2 := hp e (by simp);show W9 (⟨e.id, e.n, 0⟩ :: qx l) c = _;rw [yX, QC (fun x hx => h x (List.mem_cons_of_mem _ hx)) fun x hx => hp x (List.mem_cons_of_mem _ hx)];simp only;rw [if_neg (by omega), Nat.zero_add, ← h1]
theorem KI.W9 {L : List Nm} {A : List Int} (h : KI L A) : W9 (qx L) (fun k => A.count k) = L := QC h.us h.pos
theorem KI.of {M : List Nm} {A : List Int} (hd : xD M) (h0 : ∀ e ∈ M, e.u = 0) (hi : ∀ i ∈ A, ∃ e ∈ M, e.id = i) : KI (Proofs.YtejmbmenbailmaaGreat.W9 M fun k => A.count k) A := by
 refine ⟨QF _ hd, fun e he => ?_, fun e he => ?_, fun i hA => ?_⟩
 ·obtain ⟨x, hx, rfl, _⟩ := Vq.1 he;show x.u + A.count x.id = A.count x.id;rw [h0 x hx, Nat.zero_add]
 ·obtain ⟨x, hx, rfl, h1⟩ := Vq.1 he;exact Nat.pos_of_ne_zero h1
 ·obtain ⟨e, he, rfl⟩ := hi i hA;refine ⟨_, Vq.2 ⟨e, he, rfl, ?_⟩, rfl⟩;have := List.count_pos_iff.2 hA;show e.u + A.count e.id ≠ 0;omega
theorem KI.adds {N : Nat} {l : List Bs} {D : List (Option Bt)} {L : List Nm} {A : List Int} (h : KI L A) (hD : ∀ e ∈ L, (Zg D e.id).isSome = true) : KI (wG N D L l).L (A ++ (wG N D L l).ids) := by
 obtain ⟨M, i1, i2, i3, i4, _, _⟩ := XF N l D (qx L) (fun k => A.count k) (kD h.dis) (fun e he => by
  obtain ⟨_, x, hx, h1, _⟩ := Xp he;rw [← h1]; exact hD x hx) (fun e he => by
  obtain ⟨_, x, hx, h1, _⟩ := Xp he;have := h.us x hx;have := h.pos x hx;show 1 ≤ e.u + A.count e.id;rw [← h1]; omega) (fun i hi => by
  refine List.count_eq_zero.2 fun hA => ?_
  obtain ⟨e, he, rfl⟩ := h.ids i hA;exact hi _ (UY he) rfl)
 rw [h.W9] at i3 i4;rw [i3];have hc : (fun k => A.count k + (wG N D L l).ids.count k) = fun k => (A ++ (wG N D L l).ids).count k := by
  funext k; rw [List.count_append]
 rw [hc];refine KI.of i2 (fun e he => ?_) (fun i hi => ?_)
 ·rcases List.mem_append.1 he with he | he
  ·exact (Xp he).1
  ·exact i1 e he
 ·rcases List.mem_append.1 hi with hi | hi
  ·obtain ⟨e, he, h1⟩ := h.ids i hi;exact ⟨_, List.mem_append.2 (.inl (UY he)), h1⟩
  ·exact i4 i hi
/-- numbers are given back -/
theorem KI.drops {L : List Nm} {A ids R : List Int} (h : KI L A) (hA : ∀ k, A.count k = R.count k + ids.count k) : KI (drops L ids) R ∧ ∀ e ∈ L, e.id ∈ R → ∃ e' ∈ Proofs.YtejmbmenbailmaaGreat.drops L ids, e'.id = e.id ∧ e'.n = e.n := by
 have hb := h.W9;have hmem : ∀ i, i ∈ R ∨ i ∈ ids → i ∈ A := fun i hi => by
  rw [← List.count_pos_iff, hA];rcases hi with hi | hi
  ·have := List.count_pos_iff.2 hi; omega
  ·have := List.count_pos_iff.2 hi; omega
 have hfun : (fun k => A.count k) = fun k => R.count k + ids.count k := funext hA
 have hd : Proofs.YtejmbmenbailmaaGreat.drops L ids = Proofs.YtejmbmenbailmaaGreat.W9 (qx L) (fun k => R.count k) := by
  rw [← hb, hfun];have := X0 (ids := ids) (L := qx L) (c := fun k => R.count k) (kD h.dis).ids (fun i hi => by
   obtain ⟨e, he, h1⟩ := h.ids i (hmem i (.inr hi));exact ⟨_, UY he, h1⟩)
  rw [hfun] at hb;rw [hb] at this ⊢;exact this
 rw [hd];refine ⟨KI.of (kD h.dis) (fun e he => (Xp he).1) (fun i hi => ?_), fun e he hR => ?_⟩
 ·obtain ⟨e, he, h1⟩ := h.ids i (hmem i (.inl hi));exact ⟨_, UY he, h1⟩
 ·refine ⟨_, Vq.2 ⟨_, UY he, rfl, ?_⟩, rfl, rfl⟩;have := List.count_pos_iff.2 hR;show 0 + R.count e.id ≠ 0;omega
theorem KI.empty {L : List Nm} (h : KI L []) : L = [] := by
 cases L with
 | nil => rfl
 | cons e l =>
  have h1 := h.us e (by simp);have h2 := h.pos e (by simp);simp at h1; omega
/-! ### arenas that are alike -/
def Uz (D D' : List (Option Bt)) : Prop := ∀ i, (Zg D i).map List.length = (Zg D' i).map List.length
theorem Uz.symm {D D' : List (Option Bt)} (h : Uz D D') : Uz D' D := fun i => (h i).symm
theorem Uz.trans {D D' D'' : List (Option Bt)} (h : Uz D D') (k : Uz D' D'') : Uz D D'' := fun i => (h i).trans (k i)
theorem Uz.refl (D : List (Option Bt)) : Uz D D := fun _ => rfl
theorem Uz.stand {D D' : List (Option Bt)} (h : Uz D D') (i : Int) : (Zg D i).isSome = (Zg D' i).isSome := by
 have := congrArg Option.isSome (h i);simpa using this
theorem Jr {D D' : List (Option Bt)} (h : Uz D D') (i : Nat) : ((D[i]?).join).map List.length = ((D'[i]?).join).map List.length := by
 have := h ((i : Int) + 1)
 rwa [Zy, Zy] at this
theorem kV {D D' : List (Option Bt)} (h : bq D = bq D') : Uz D D' := fun i => by
 unfold Zg;split
 ·have h1 := congrArg (fun l => (l[(i - 1).toNat]?).join) h;simp only [bq, List.getElem?_map] at h1;cases h2 : D[(i - 1).toNat]? with
  | none =>
   rw [h2] at h1;cases h3 : D'[(i - 1).toNat]? with
   | none => rfl
   | some y => rw [h3] at h1; simpa using h1
  | some x =>
   rw [h2] at h1;cases h3 : D'[(i - 1).toNat]? with
   | none => rw [h3] at h1; simpa using h1
   | some y => rw [h3] at h1; simpa using h1
 ·rfl
theorem uW {D D' : List (Option Bt)} (h : Uz D D') : hnd D = hnd D' := by
 refine jF (wJ D) (fun i hi => ?_) ?_
 ·obtain ⟨b, hb⟩ := xg D i hi;have := Jr h i;rw [hb] at this;cases h2 : D'[i]? with
  | none => rw [h2] at this; simp at this
  | some x =>
   cases x with
   | none => rw [h2] at this; simp at this
   | some c => exact ⟨c, rfl⟩
 ·have := Jr h (hnd D - 1);rw [vD D] at this;cases h2 : (D'[hnd D - 1]?).join with
  | none => rfl
  | some c => rw [h2] at this; simp at this
theorem uU : ∀ {D : List (Option Bt)}, (∀ i : Nat, (D[i]?).join = none) → Zb D = 0
 | [], _ => rfl
 | a :: l, h => by
  have h0 := h 0;simp only [List.getElem?_cons_zero, Option.join_some] at h0;subst h0;have ih := uU (D := l) fun i => by simpa using h (i + 1)
  unfold Zb at ih ⊢;rw [List.map_cons, List.sum_cons, ih]; rfl
theorem qG : ∀ {D D' : List (Option Bt)}, (∀ i : Nat, ((D[i]?).join).map List.length = ((D'[i]?).join).map List.length) → Zb D = Zb D'
 | [], D', h => (uU (D := D') fun i => by
  have := h i;cases h2 : (D'[i]?).join with
  | none => rfl
  | some c => rw [h2] at this; simp at this).symm
 | a :: l, [], h => uU (D := a :: l) fun i => by
  have := h i;cases h2 : ((a :: l)[i]?).join with
  | none => rfl
  | some c => rw [h2] at this; simp at this
 | a :: l, b :: m, h => by
  have h0 := h 0;have ih := qG (D := l) (D' := m) fun i => by simpa using h (i + 1)
  simp only [List.getElem?_cons_zero, Option.join_some] at h0;unfold Zb at ih ⊢;rw [List.map_cons, List.sum_cons, List.map_cons, List.sum_cons, ih];congr 1;cases a with
  | none =>
   cases b with
   | none => rfl
   | some y => simp at h0
  | some x =>
   cases b with
   | none => simp at h0
   | some y =>
    have : x.length = y.length := by simpa using h0
    show zY x.length = zY y.length;rw [this]
theorem dB {D D' : List (Option Bt)} (h : Uz D D') : Zb D = Zb D' := qG (Jr h)
theorem XW {D D' : List (Option Bt)} (h : Uz D D') (N : Nat) (n : Int) : ZA N D n = ZA N D' n := by unfold ZA; rw [dB h]
theorem Yv {D D' : List (Option Bt)} (h : Uz D D') (m : Nat) : Uz (ZB D m) (ZB D' m) := fun i => by
 by_cases hi : i = ((hnd D : Nat) : Int)
 ·have h2 := wP D' m;rw [← uW h] at h2;rw [hi, wP, h2]
 ·rw [Zt hi, Zt (by rw [← uW h]; exact hi)]; exact h i
theorem xV (D : List (Option Bt)) (i : Int) : Zg (WG D i) i = none := by
 cases hb : Zg D i with
 | some b => exact YI hb
 | none => unfold WG; rw [hb, if_neg (by decide)]; exact hb
theorem jc {D D' : List (Option Bt)} (h : Uz D D') (i : Int) : Uz (WG D i) (WG D' i) := fun k => by
 by_cases hk : k = i
 ·rw [hk, xV, xV]
 ·rw [ZT hk, ZT hk]; exact h k
theorem lT {D : List (Option Bt)} {h : Int} {b Y : Bt} (hg : Zg D h = some b) (hl : Y.length = b.length) : Uz (D.set (h - 1).toNat (some Y)) D := kV (Xx hg hl)
theorem WT.stand {D : List (Option Bt)} {L : List Nm} {B : List (Int × Bs)} (h : WT D L B) : ∀ e ∈ L, (Zg D e.id).isSome = true := fun e he => by rw [h.blk e he]; rfl
theorem WT.empty {D : List (Option Bt)} (h : WT D [] []) : Zb D = 0 := by
 refine uU fun i => ?_
 cases hb : (D[i]?).join with
 | none => rfl
 | some b =>
  rw [← Zy] at hb;rcases h.all _ b hb with ⟨e, he, _⟩ | ⟨x, hx, _⟩
  ·simp at he
  ·simp at hx
/-- a block more, of others -/
theorem WT.alloc {D : List (Option Bt)} {L : List Nm} {B : List (Int × Bs)} (h : WT D L B) (m : Nat) : WT (ZB D m) L ((((hnd D : Nat) : Int), zeros m) :: B) := by
 have hno := yD D;have hid : ∀ e ∈ L, e.id ≠ ((hnd D : Nat) : Int) := fun x hx e => by
  have := h.blk x hx;rw [e, hno] at this; cases this
 refine ⟨h.dis, fun e he => by rw [Zt (hid e he)]; exact h.blk e he, fun x hx => ?_, fun i b hib => ?_, h.us, h.fold⟩
 ·rcases List.mem_cons.1 hx with rfl | hx
  ·exact ⟨wP D m, hid⟩
  ·obtain ⟨h1, h2⟩ := h.oth x hx;have hne : x.1 ≠ ((hnd D : Nat) : Int) := fun e => by rw [e, hno] at h1; cases h1
   exact ⟨by rw [Zt hne]; exact h1, h2⟩
 ·by_cases hi : i = ((hnd D : Nat) : Int)
  ·exact .inr ⟨_, List.mem_cons_self, hi.symm⟩
  ·rw [Zt hi] at hib;rcases h.all i b hib with hx | ⟨x, hx, hxi⟩
   ·exact .inl hx
   ·exact .inr ⟨x, List.mem_cons_of_mem _ hx, hxi⟩
/-- handles of others are told once -/
def Hs (B : List (Int × Bs)) : Prop := (B.map (·.1)).Nodup
theorem WT.write {D : List (Option Bt)} {L : List Nm} {B : List (Int × Bs)} {k : Int} {b Y : Bs} (h : WT D L ((k, b) :: B)) (hh : Hs ((k, b) :: B)) : WT (D.set (k - 1).toNat (some Y)) L ((k, Y) :: B) := by
 obtain ⟨h1, h2⟩ := h.oth (k, b) (by simp);have hg : Zg D k = some b := h1;have hne : ∀ x ∈ B, x.1 ≠ k := fun x hx e => (List.nodup_cons.1 hh).1 (List.mem_map.2 ⟨x, hx, e⟩)
 refine ⟨h.dis, fun e he => by rw [Ww hg, if_neg (h2 e he)]; exact h.blk e he, fun x hx => ?_, fun i c hib => ?_, h.us, h.fold⟩
 ·rcases List.mem_cons.1 hx with rfl | hx
  ·exact ⟨by rw [Ww hg, if_pos rfl], h2⟩
  ·obtain ⟨h3, h4⟩ := h.oth x (List.mem_cons_of_mem _ hx);exact ⟨by rw [Ww hg, if_neg (hne x hx)]; exact h3, h4⟩
 ·rw [Ww hg] at hib;by_cases hi : i = k
  ·exact .inr ⟨_, List.mem_cons_self, hi.symm⟩
  ·rw [if_neg hi] at hib;rcases h.all i c hib with hx | ⟨x, hx, hxi⟩
   ·exact .inl hx
   ·rcases List.mem_cons.1 hx with rfl | hx
    ·exact absurd hxi.symm hi
    ·exact .inr ⟨x, List.mem_cons_of_mem _ hx, hxi⟩
/-- a block of others goes -/
theorem WT.free {D : List (Option Bt)} {L : List Nm} {B B' : List (Int × Bs)} {k : Int} {b : Bs} (h : WT D L B) (hm : (k, b) ∈ B) (hB : ∀ x, x ∈ B' ↔ x ∈ B ∧ x.1 ≠ k) : WT (WG D k) L B' := by
 obtain ⟨h1, h2⟩ := h.oth (k, b) hm;refine ⟨h.dis, fun e he => by rw [ZT (h2 e he)]; exact h.blk e he, fun x hx => ?_, fun i c hib => ?_, h.us, h.fold⟩
 ·obtain ⟨h3, h4⟩ := (hB x).1 hx;obtain ⟨h5, h6⟩ := h.oth x h3;exact ⟨by rw [ZT h4]; exact h5, h6⟩
 ·by_cases hi : i = k
  ·rw [hi, xV] at hib; cases hib
  ·rw [ZT hi] at hib;rcases h.all i c hib with hx | ⟨x, hx, hxi⟩
   ·exact .inl hx
   ·exact .inr ⟨x, (hB x).2 ⟨hx, by rw [hxi]; exact hi⟩, hxi⟩
end Go.Proofs.YtejmbmenbailmaaGreat
namespace Go.Proofs.YtejmbmenbailmaaGreat
open Go.Xs
open Enc (enc)
def Xd : Nat → List Bs → List Pl
 | _, [] => []
 | a, x :: xs => ⟨a, x.length⟩ :: Xd (a + x.length) xs
theorem Qh : ∀ (a : Nat) (xs : List Bs), (Xd a xs).length = xs.length
 | _, [] => rfl
 | a, x :: xs => by show (Xd _ xs).length + 1 = xs.length + 1; rw [Qh]
theorem jw : ∀ {a : Nat} {xs zs : List Bs}, xs.map List.length = zs.map List.length → Xd a xs = Xd a zs
 | _, [], [], _ => rfl
 | _, [], _ :: _, h => by simp at h
 | _, _ :: _, [], h => by simp at h
 | a, x :: xs, y :: zs, h => by
  rw [List.map_cons, List.map_cons, List.cons.injEq] at h;show (⟨a, x.length⟩ : Pl) :: Xd (a + x.length) xs = ⟨a, y.length⟩ :: Xd (a + y.length) zs;rw [h.1, jw h.2]
theorem K5 : ∀ (xs : List Bs) (P Z : Bs), (∀ x ∈ xs, vI x = true) → Y8 (P ++ xs.flatten ++ Z) xs.length P.length = some (Xd P.length xs, P.length + xs.flatten.length)
 | [], P, Z, _ => rfl
 | x :: xs, P, Z, h => by
  have hx := h x (by simp);have hd : (P ++ (x :: xs).flatten ++ Z).drop P.length = x ++ (xs.flatten ++ Z) := by
   rw [List.flatten_cons, List.append_assoc, List.append_assoc, List.drop_left]
  have hl := fK (Z := xs.flatten ++ Z) hx;have ih := K5 xs (P ++ x) Z (fun y hy => h y (List.mem_cons_of_mem _ hy));have e : P ++ (x :: xs).flatten ++ Z = P ++ x ++ xs.flatten ++ Z := by rw [List.flatten_cons, List.append_assoc P x]
  rw [List.length_append] at ih;show Y8 _ (xs.length + 1) P.length = _;unfold Y8;rw [hd, hl, e];simp only [if_true, ih, Option.map_some];show some (_, _) = some (_, _);rw [List.flatten_cons, List.length_append, Nat.add_assoc]; rfl
theorem y7 {d : Bs} : ∀ {k a : Nat} {l : List Pl} {e : Nat}, Y8 d k a = some (l, e) → a ≤ d.length → ∃ xs : List Bs, xs.length = k ∧ (∀ x ∈ xs, vI x = true) ∧ l = Xd a xs ∧ d.drop a = xs.flatten ++ d.drop e ∧ l.map (U9 d) = xs ∧ e = a + xs.flatten.length
 | 0, a, l, e, h, ha => by
  obtain ⟨rfl, rfl⟩ := Prod.mk.inj (Option.some.inj h);exact ⟨[], rfl, fun x hx => by simp at hx, rfl, rfl, rfl, rfl⟩
 | k + 1, a, l, e, h, ha => by
  unfold Y8 at h;split at h
  ·next h2 =>
   have hl : lead (d.drop a) = ((lead (d.drop a)).1, true) := by rw [← h2]
   have hp := vB hl;have hv := (yt.1 hl).2;rw [List.length_drop] at hp;cases hx : Y8 d k (a + (lead (d.drop a)).1) with
   | none => rw [hx] at h; cases h
   | some x =>
    obtain ⟨l2, e2⟩ := x;rw [hx] at h;obtain ⟨rfl, rfl⟩ := Prod.mk.inj (Option.some.inj h);obtain ⟨xs, i1, i2, i3, i4, i5, i6⟩ := y7 hx (by omega);have hlen : ((d.drop a).take (lead (d.drop a)).1).length = (lead (d.drop a)).1 := by rw [List.length_take, List.length_drop]; omega
    refine ⟨(d.drop a).take (lead (d.drop a)).1 :: xs, by rw [List.length_cons, i1], fun y hy => ?_, ?_, ?_, ?_, ?_⟩
    ·rcases List.mem_cons.1 hy with rfl | hy
     ·exact hv
     ·exact i2 y hy
    ·show _ = (⟨a, _⟩ : Pl) :: Xd _ xs;rw [hlen, i3]
    ·rw [List.flatten_cons, List.append_assoc, ← i4, ← List.drop_drop, List.take_append_drop]
    ·rw [List.map_cons, i5]; rfl
    ·rw [List.flatten_cons, List.length_append, hlen, i6, Nat.add_assoc]
  ·cases h
theorem Uk {t : Int} {x : Nat × Nat × Nat} (h : ZV t = some x) : t ≠ 1 ∧ t ≠ 28 ∧ t ≠ 16 ∧ 1 ≤ x.2.1 := by
 unfold ZV at h;split at h
 ·obtain rfl := Option.some.inj h; exact ⟨by omega, by omega, by omega, Nat.le_refl _⟩
 ·split at h
  ·obtain rfl := Option.some.inj h; exact ⟨by omega, by omega, by omega, Nat.le_refl _⟩
  ·split at h
   ·obtain rfl := Option.some.inj h; exact ⟨by omega, by omega, by omega, Nat.le_refl _⟩
   ·split at h
    ·obtain rfl := Option.some.inj h; exact ⟨by omega, by omega, by omega, by decide⟩
    ·cases h
/-- data in three parts: bytes, names, bytes -/
structure Form (t : Int) (d : Bs) (P : Bs) (xs : List Bs) (Z : Bs) : Prop where
 shape : ZV t = some (P.length, xs.length, Z.length)
 eq : d = P ++ xs.flatten ++ Z
 vI : ∀ x ∈ xs, vI x = true
theorem Form.xM {t : Int} {d P : Bs} {xs : List Bs} {Z : Bs} (h : Form t d P xs Z) : xM t d = some (Xd P.length xs) := by
 unfold Proofs.YtejmbmenbailmaaGreat.xM;rw [h.shape];have := K5 xs P Z h.vI;rw [← h.eq] at this;have hl : d.length = P.length + xs.flatten.length + Z.length := by rw [h.eq, List.length_append, List.length_append]
 simp only;rw [if_neg (by omega), this];simp only;rw [if_pos hl]
theorem Form.ok {t : Int} {d P : Bs} {xs : List Bs} {Z : Bs} (h : Form t d P xs Z) (hd : d.length ≤ 1000) : ZH t d = true ∧ prt t d = Xd P.length xs := by
 have hk := Uk h.shape;have h1 : ZH t d = true := by
  unfold ZH;rw [if_neg (by omega), if_neg hk.1, if_neg hk.2.1, if_neg hk.2.2.1, h.xM]; rfl
 refine ⟨h1, ?_⟩;unfold prt;rw [if_pos h1, h.xM]; rfl
theorem wN {t : Int} {d : Bs} (h : ZH t d = true) : d.length ≤ 1000 := by
 unfold ZH at h;split at h
 ·cases h
 ·omega
theorem Ko {t : Int} {d : Bs} (h : ZH t d = true) {x : Nat × Nat × Nat} (hs : ZV t = some x) : ∃ P xs Z, Form t d P xs Z ∧ (prt t d).map (U9 d) = xs := by
 have hk := Uk hs;have h0 := h;have hlen := wN h;unfold ZH at h;rw [if_neg (by omega), if_neg hk.1, if_neg hk.2.1, if_neg hk.2.2.1] at h;have hprt : ∀ l, xM t d = some l → prt t d = l := fun l hl => by unfold prt; rw [if_pos h0, hl]; rfl
 obtain ⟨a, k, b⟩ := x;unfold xM at h hprt;rw [hs] at h hprt;simp only at h hprt;split at h
 ·cases h
 ·next ha =>
  rw [if_neg ha] at hprt;split at h
  ·next l e hp =>
   rw [hp] at hprt;split at h
   ·next he =>
    obtain ⟨xs, i1, i2, i3, i4, i5, i6⟩ := y7 hp (by omega);have hpe := hprt l (by simp only; rw [if_pos he]);refine ⟨d.take a, xs, d.drop e, ⟨?_, ?_, i2⟩, by rw [hpe]; exact i5⟩
    ·rw [hs, i1, List.length_take, List.length_drop];congr 2
     ·omega
     ·congr 1; omega
    ·rw [List.append_assoc, ← i4, List.take_append_drop]
   ·cases h
  ·cases h
theorem uI {t : Int} {d : Bs} (hs : ZV t = none) : prt t d = [] := by
 unfold prt xM;rw [hs];split <;> rfl
theorem Yu : ∀ (xs zs : List Bs) (P Z : Bs), zs.length = xs.length → splice (P ++ xs.flatten ++ Z) P.length (Xd P.length xs) zs = zs.flatten ++ Z
 | [], zs, P, Z, h => by
  have : zs = [] := List.length_eq_zero_iff.1 h;subst this;show (P ++ [] ++ Z).drop P.length = [] ++ Z;rw [List.append_nil, List.drop_left]; rfl
 | x :: xs, [], P, Z, h => by simp at h
 | x :: xs, y :: zs, P, Z, h => by
  have ih := Yu xs zs (P ++ x) Z (by simpa using h);have e : P ++ (x :: xs).flatten ++ Z = P ++ x ++ xs.flatten ++ Z := by rw [List.flatten_cons, List.append_assoc P x]
  rw [List.length_append] at ih;rw [e];show ((P ++ x ++ xs.flatten ++ Z).drop P.length).take (P.length - P.length) ++ y ++ splice (P ++ x ++ xs.flatten ++ Z) (P.length + x.length) (Xd (P.length + x.length) xs) zs = _;rw [ih, Nat.sub_self, List.take_zero, List.nil_append, List.flatten_cons, List.append_assoc]
theorem Form.splice {t : Int} {d P : Bs} {xs : List Bs} {Z : Bs} (h : Form t d P xs Z) {zs : List Bs} (hy : zs.length = xs.length) : splice d 0 (Xd P.length xs) zs = P ++ zs.flatten ++ Z := by
 have hk := (Uk h.shape).2.2.2;have := Yu xs zs P Z hy;rw [← h.eq] at this;cases xs with
 | nil => simp at hk
 | cons x xs =>
  cases zs with
  | nil => simp at hy
  | cons y zs =>
   have e1 : Proofs.YtejmbmenbailmaaGreat.splice d P.length (Xd P.length (x :: xs)) (y :: zs) = y ++ Proofs.YtejmbmenbailmaaGreat.splice d (P.length + x.length) (Xd (P.length + x.length) xs) zs := by
    show (d.drop P.length).take (P.length - P.length) ++ y ++ _ = _;rw [Nat.sub_self, List.take_zero]; rfl
   rw [e1] at this;show (d.drop 0).take (P.length - 0) ++ y ++ Proofs.YtejmbmenbailmaaGreat.splice d (P.length + x.length) (Xd (P.length + x.length) xs) zs = _;rw [List.append_assoc, this, List.drop_zero, Nat.sub_zero, List.append_assoc];congr 1;rw [h.eq, List.append_assoc, List.take_left]
/-- folded -/
theorem Form.fold {t : Int} {d P : Bs} {xs : List Bs} {Z : Bs} (h : Form t d P xs Z) : Form t (P ++ (xs.map zy).flatten ++ Z) P (xs.map zy) Z := by
 refine ⟨by rw [List.length_map]; exact h.shape, rfl, fun x hx => ?_⟩;obtain ⟨y, hy, rfl⟩ := List.mem_map.1 hx;rw [VB]; exact h.vI y hy
theorem YK (xs : List Bs) : (xs.map zy).map List.length = xs.map List.length := by
 rw [List.map_map]; exact List.map_congr_left fun x _ => wU x
theorem gN (xs zs : List Bs) (h : xs.map List.length = zs.map List.length) : xs.flatten.length = zs.flatten.length := by
 rw [List.length_flatten, List.length_flatten, h]
theorem Form.cut {t : Int} {d P : Bs} {xs : List Bs} {Z : Bs} (h : Form t d P xs Z) (hd : d.length ≤ 1000) : (prt t d).map (U9 d) = xs := by
 rw [(h.ok hd).2];have := K5 xs P Z h.vI;rw [← h.eq] at this;obtain ⟨zs, _, _, i3, i4, i5, i6⟩ := y7 this (by rw [h.eq, List.length_append, List.length_append]; omega);rw [i5];have hm : Xd P.length xs = Xd P.length zs := i3
 -- the same lengths, the same bytes
 have key : ∀ (a : Nat) (xs zs : List Bs) (Z Z' : Bs), Xd a xs = Xd a zs → xs.flatten ++ Z = zs.flatten ++ Z' → xs = zs := by
  intro a xs
  induction xs generalizing a with
  | nil =>
   intro zs Z Z' h1 _;cases zs with
   | nil => rfl
   | cons y zs => cases h1
  | cons x xs ih =>
   intro zs Z Z' h1 h2;cases zs with
   | nil => cases h1
   | cons y zs =>
    have h3 : (⟨a, x.length⟩ : Pl) :: Xd (a + x.length) xs = ⟨a, y.length⟩ :: Xd (a + y.length) zs := h1;obtain ⟨h4, h5⟩ := List.cons.inj h3;have hl : x.length = y.length := congrArg Pl.n h4;rw [List.flatten_cons, List.flatten_cons, List.append_assoc, List.append_assoc] at h2;obtain ⟨h6, h7⟩ := List.append_inj h2 hl;rw [h6, ih _ _ _ _ (by rw [hl] at h5; rw [← hl] at h5; rw [h5, hl]) h7]
 refine (key P.length xs zs Z (d.drop (P.length + xs.flatten.length)) hm ?_).symm;rw [← i4, h.eq, List.append_assoc, List.drop_left]
theorem Form.jG {t : Int} {d P : Bs} {xs : List Bs} {Z : Bs} (h : Form t d P xs Z) : (P ++ (xs.map zy).flatten ++ Z).length = d.length := by
 rw [h.eq, List.length_append, List.length_append, List.length_append, List.length_append, gN _ _ (YK xs)]
theorem yH {t : Int} {d P : Bs} {xs : List Bs} {Z : Bs} (h : Form t d P xs Z) (hd : d.length ≤ 1000) : WH t d = P ++ (xs.map zy).flatten ++ Z := by
 have h1 := h.cut hd;unfold WH;have : ((prt t d).map fun p => zy (U9 d p)) = xs.map zy := by rw [← h1, List.map_map]; rfl
 rw [this, (h.ok hd).2];exact h.splice (by rw [List.length_map])
theorem yG {t : Int} {d : Bs} (hs : ZV t = none) : WH t d = d := by
 unfold WH;rw [uI hs]; rfl
/-- data folded is as good -/
theorem yF {t : Int} {d : Bs} (h : ZH t d = true) : ZH t (WH t d) = true ∧ prt t (WH t d) = prt t d ∧ (WH t d).length = d.length := by
 cases hs : ZV t with
 | none => rw [yG hs]; exact ⟨h, rfl, rfl⟩
 | some x =>
  have hd := wN h;obtain ⟨P, xs, Z, hf, _⟩ := Ko h hs;rw [yH hf hd];have hl := hf.jG;obtain ⟨h1, h2⟩ := hf.fold.ok (by omega);exact ⟨h1, by rw [h2, (hf.ok hd).2, jw (YK xs)], hl⟩
theorem YW {r : RR} {P : Bs} {xs : List Bs} {Z : Bs} (h : Form r.t r.d P xs Z) (hd : r.d.length ≤ 1000) {ids : List Int} (hi : ids.length = xs.length) : WQ r ids = P ++ (ids.map U8).flatten ++ Z := by
 unfold WQ;rw [(h.ok hd).2];exact h.splice (by rw [List.length_map, hi])
theorem YV {r : RR} (hs : ZV r.t = none) (ids : List Int) : WQ r ids = r.d := by
 unfold WQ;rw [uI hs];cases ids <;> rfl
theorem Qq : ∀ (ids : List Int), (ids.map U8).flatten.length = 4 * ids.length
 | [] => rfl
 | i :: l => by rw [List.map_cons, List.flatten_cons, List.length_append, Qq l, List.length_cons, U8, Zu]; omega
theorem qK : ∀ (a : Nat) (xs : List Bs), wV ((Xd a xs).map fun p => 4 - (p.n : Int)) = 4 * (xs.length : Int) - (xs.flatten.length : Int)
 | _, [] => rfl
 | a, x :: xs => by
  show wV ((4 - (x.length : Int)) :: (Xd (a + x.length) xs).map fun p => 4 - (p.n : Int)) = _;rw [V7, qK, List.flatten_cons, List.length_append, List.length_cons]
  push_cast
  omega
theorem jP {r : RR} (h : ZH r.t r.d = true) {ids : List Int} (hi : ids.length = (prt r.t r.d).length) : ((WQ r ids).length : Int) = WZ r - 2 := by
 unfold WZ;cases hs : ZV r.t with
 | none => rw [YV hs, uI hs]; show (r.d.length : Int) = 2 + r.d.length + 0 - 2; omega
 | some x =>
  have hd := wN h;obtain ⟨P, xs, Z, hf, _⟩ := Ko h hs;have hp := (hf.ok hd).2;rw [hp, Qh] at hi;rw [YW hf hd hi, hp, qK, hf.eq];rw [List.length_append, List.length_append, List.length_append, List.length_append, Qq, hi]
  push_cast
  omega
theorem lS {r : RR} (h : ZH r.t r.d = true) : 2 ≤ WZ r := by
 have := jP h (ids := List.replicate (prt r.t r.d).length 0) (by simp);omega
theorem ji : ∀ {l : List RR} {ids : List Int}, (∀ r ∈ l, ZH r.t r.d = true) → ids.length = ((l.map Zr).flatten).length → ((Um l ids).length : Int) = wV (l.map WZ)
 | [], _, _, _ => rfl
 | r :: l, ids, h, hi => by
  rw [List.map_cons, List.flatten_cons, List.length_append, Zr, List.length_map] at hi;have hd : WQ r ids = WQ r (ids.take (prt r.t r.d).length) := by
   unfold WQ;have key : ∀ (d : Bs) (l : List Pl) (a : Nat) (xs : List Bs), splice d a l xs = splice d a l (xs.take l.length) := by
    intro d l
    induction l with
    | nil => intro a xs; cases xs <;> rfl
    | cons p l ih =>
     intro a xs;cases xs with
     | nil => rfl
     | cons x xs =>
      show _ = splice d a (p :: l) (x :: xs.take l.length);show (d.drop a).take (p.at_ - a) ++ x ++ splice d (p.at_ + p.n) l xs = (d.drop a).take (p.at_ - a) ++ x ++ splice d (p.at_ + p.n) l (xs.take l.length);rw [← ih]
   rw [key, List.map_take]
  have h1 := jP (h r (by simp)) (ids := ids.take (prt r.t r.d).length) (by rw [List.length_take]; omega);have ih := ji (l := l) (ids := ids.drop (prt r.t r.d).length) (fun x hx => h x (List.mem_cons_of_mem _ hx)) (by rw [List.length_drop]; omega);show ((U7 2 (WQ r ids).length ++ WQ r ids ++ Um l (ids.drop (prt r.t r.d).length)).length : Int) = _;rw [List.length_append, List.length_append, Zu, List.map_cons, V7, ← ih];rw [← hd] at h1
  push_cast
  omega
theorem xB {s : St} {ids : List Int} (h : ∀ r ∈ s.rrs, ZH r.t r.d = true) (hi : ids.length = (Z6 s).length) : ((Wd s ids).length : Int) = Zm s := by
 have h1 : ids.length = ((s.rrs.map Zr).flatten).length + 2 := by rw [hi]; rfl
 have := ji (l := s.rrs) (ids := ids.drop 2) h (by rw [List.length_drop]; omega);unfold Wd Zm U8;simp only [List.length_append, Zu];rw [← this]
 push_cast
 omega
theorem Wp {s : St} (h : vQ s = true) : ∀ r ∈ s.rrs, ZH r.t r.d = true ∧ r.t = s.typ := fun r hr => by
 unfold vQ at h;simp only [Bool.and_eq_true] at h;have := List.all_eq_true.1 h.2 r hr;unfold Xj at this;simp only [Bool.and_eq_true, decide_eq_true_eq] at this;exact ⟨this.2, this.1.1.2⟩
theorem VJ {s : St} (h : vQ s = true) : vI s.name = true ∧ vI s.zone = true ∧ 1 ≤ s.typ ∧ s.typ ≤ 65535 ∧ 0 ≤ s.kind ∧ s.kind ≤ 2 ∧ s.rrs.length ≤ 32 ∧ (0 < s.rrs.length ↔ s.kind = 0) := by
 unfold vQ at h;simp only [Bool.and_eq_true, decide_eq_true_eq, beq_iff_eq] at h;obtain ⟨⟨⟨⟨⟨h1, h2⟩, h3⟩, h4⟩, h5⟩, _⟩ := h;exact ⟨h1, h2, h3.1, h3.2.1, h3.2.2.1, h3.2.2.2, h4, decide_eq_decide.1 h5⟩
theorem gL {s : St} (h : vQ s = true) : vQ (Zz s) = true ∧ Zm (Zz s) = Zm s := by
 have hn := VJ h;have hd := Wp h;constructor
 ·unfold vQ Zz;simp only [Bool.and_eq_true, decide_eq_true_eq, beq_iff_eq, List.length_map];refine ⟨⟨⟨⟨⟨by rw [VB]; exact hn.1, by rw [VB]; exact hn.2.1⟩, ⟨hn.2.2.1, hn.2.2.2.1, hn.2.2.2.2.1, hn.2.2.2.2.2.1⟩⟩, hn.2.2.2.2.2.2.1⟩, decide_eq_decide.2 hn.2.2.2.2.2.2.2⟩, List.all_eq_true.2 fun r hr => ?_⟩;obtain ⟨x, hx, rfl⟩ := List.mem_map.1 hr;obtain ⟨h1, h2⟩ := hd x hx;unfold Xj Yx;simp only [Bool.and_eq_true, decide_eq_true_eq, beq_self_eq_true, VB, hn.1, and_self, true_and];exact ⟨⟨h2, trivial⟩, (yF h1).1⟩
 ·unfold Zm Zz;simp only [List.map_map];congr 2;refine List.map_congr_left fun r hr => ?_
  obtain ⟨h2, h3, h4⟩ := yF (hd r hr).1;show WZ ⟨zy s.name, r.t, 1, 0, WH r.t r.d⟩ = WZ r;unfold WZ;simp only;rw [h3, h4]
end Go.Proofs.YtejmbmenbailmaaGreat
namespace Go.Proofs.YtejmbmenbailmaaGreat
open Go.Xs
open Enc (enc)
theorem JR (Y : Bs) (j k : Nat) : (⟨Y.toArray⟩ : ByteArray).extract j k = ⟨((Y.drop j).take (k - j)).toArray⟩ := by
 apply ByteArray.ext;rw [ByteArray.data_extract];apply Array.toList_inj.1;simp
theorem Ae (Y Z : Bs) : (⟨Y.toArray⟩ : ByteArray) ++ (⟨Z.toArray⟩ : ByteArray) = ⟨(Y ++ Z).toArray⟩ := by
 apply ByteArray.ext;rw [ByteArray.data_append];simp
theorem K8 {E : Env} {x i : Operand} {Y : Bs} {j : Nat} {q : IntKind} (h1 : ev E x = sv Y) (h2 : ev E i = .int q (j : Int)) (h : j ≤ Y.length) : zl (ev E) (.sslc x (some i) none) = some (sv (Y.drop j)) := by
 rw [mG (s := ⟨Y.toArray⟩) h1 h2 h, qI, JR, List.take_of_length_le (by rw [List.length_drop]; omega)]
theorem oz {E : Env} {x i i' : Operand} {Y : Bs} {j k : Nat} {q q' : IntKind} (h1 : ev E x = sv Y) (h2 : ev E i = .int q (j : Int)) (h2' : ev E i' = .int q' (k : Int)) (h : j ≤ k ∧ k ≤ Y.length) : zl (ev E) (.sslc x (some i) (some i')) = some (sv ((Y.drop j).take (k - j))) := by
 rw [Ch (s := ⟨Y.toArray⟩) h1 h2 h2' h, JR]
theorem mK {E : Env} {x y : Operand} {Y Z : Bs} (h1 : ev E x = sv Y) (h2 : ev E y = sv Z) (h : Y.length + Z.length ≤ 9223372036854775807) : zl (ev E) (.bin .add x y) = some (sv (Y ++ Z)) := by
 simp only [zl, h1, h2, Wt, QM, qI];rw [if_pos h, Ae]
theorem Jp {Y Z : Bs} : (⟨Y.toArray⟩ : ByteArray) = ⟨Z.toArray⟩ ↔ Y = Z := ⟨fun h => by have := congrArg (fun b : ByteArray => b.data.toList) h; simpa using this, fun h => by rw [h]⟩
theorem Jv {E : Env} {S : zw} {t u s q : Tmp} {v v' v'' v3 : Value} (hv : E t = v) (hv' : E u = v') (hv'' : E s = v'') (hv3 : E q = v3) : Xi Tryz.prog #[.tmp t, .tmp u, .tmp s, .tmp q] E S (.tuple #[v, v', v'', v3]) := fun fn F w tmps h _ he => by
 rw [← hv, ← hv', ← hv'', ← hv3, ← he];simp [results, h, Sem.run_bind, Sem.run, Result.andThen, pure]
/-- append(b, s...) -/
theorem nW {r : Option Nat} {n : Nat} {K : Env → zw → Prop} {E : Env} {S G : zw} {d : Option Tmp} {e bytes : Nat} {z : List Value} {s x : Operand} {v : Value} {L Y : Bs} {H : List Chunk} [hp : Pick S H G] (hs : ev E s = v) (hx : ev E x = sv Y) (hL : Za e v L H)
 (hz : enc (0 : UInt8) = z) (hb : (L.length + Y.length) * bytes ≤ 140737488355328) (hl : L.length + Y.length ≤ 9223372036854775807)
 (h : ∀ v' H', Za e v' (L ++ Y) H' → K (Zd d v' E) (H' :: G)) : YO Tryz.prog r n d (.app e 1 bytes z s x) K E S := by
 refine nV (α := UInt8) hs hx hL (fun F w _ => ⟨?_, ?_⟩) rfl (0 : UInt8) hz hb hl h
 ·show (pure (⟨Y.toArray⟩ : ByteArray).size : Sem Nat).run Tryz.prog w = _;simp [pure, qI]
 ·show (pure (((⟨Y.toArray⟩ : ByteArray).extract 0 Y.length).data.map fun b => Value.int .u8 b.toNat) : Sem (Array Value)).run Tryz.prog w = _;rw [JR, List.drop_zero, Nat.sub_zero, List.take_length];have : (Y.toArray.map fun b => Value.int .u8 b.toNat) = (cells Y).toArray := by
   apply Array.toList_inj.1;rw [uO]; simp
  rw [this]; rfl
end Go.Proofs.YtejmbmenbailmaaGreat
namespace Go.Proofs.YtejmbmenbailmaaGreat
open Go.Xs
open Enc (enc)
def lV (t : Int) : Value := match ZV t with
 | some (a, k, b) => .tuple #[.int .i64 (a : Int), .int .i64 (k : Int), .int .i64 (b : Int), .bool true]
 | none => .tuple #[.int .i64 0, .int .i64 0, .int .i64 0, .bool false]
theorem qV (t : Int) : Tri Tryz.prog 139 #[.int .i64 t] [] (fun r S => r = lV t ∧ S = []) := by
 refine Tri.forget (zm Tryz.Ea (Nat.le_of_ble_eq_true rfl) ?_);unfold Tryz.Bd;unfold lV ZV;refine ze (z8 (yp pC (yp pC (yp pC (yp pC (zf (za (ze (ze (z8 (yp (pI rfl) (zf (za (zq (ze (ze (z8 (yp (vJ rfl rfl) (yp (pB rfl) (zf (za ?_)))))))))))))))))))));by_cases h1 : t = 2
 ·rw [decide_eq_true h1, if_pos (.inl h1)];refine zH rfl (zu (za (zH rfl (ze (z8 (yp pC (yp pC (yp pC (yp pC (zf (za (zJ (bret (zU ?_))))))))))))));exact zI (Jv rfl rfl rfl rfl) ⟨_, .of, rfl, rfl⟩
 rw [decide_eq_false h1];refine zA rfl (ze (z8 (yp (vJ rfl rfl) (yp (pB rfl) (zf (za ?_))))));by_cases h2 : t = 5
 ·rw [decide_eq_true h2, if_pos (.inr (.inl h2))];refine zH rfl (zu (za (zH rfl (ze (z8 (yp pC (yp pC (yp pC (yp pC (zf (za (zJ (bret (zU ?_))))))))))))));exact zI (Jv rfl rfl rfl rfl) ⟨_, .of, rfl, rfl⟩
 rw [decide_eq_false h2];refine zA rfl (z8 (yp (vJ rfl rfl) (yp (pB rfl) (zf (za ?_)))));by_cases h3 : t = 12
 ·rw [decide_eq_true h3, if_pos (.inr (.inr h3))];refine zH rfl (ze (z8 (yp pC (yp pC (yp pC (yp pC (zf (za (zJ (bret (zU ?_)))))))))));exact zI (Jv rfl rfl rfl rfl) ⟨_, .of, rfl, rfl⟩
 rw [decide_eq_false h3, if_neg (show ¬ (t = 2 ∨ t = 5 ∨ t = 12) from by omega)];refine zA rfl (ze (z8 (yp (vJ rfl rfl) (yp (pB rfl) (zf (za ?_))))));by_cases h4 : t = 15
 ·rw [decide_eq_true h4, if_pos h4];refine zH rfl (ze (z8 (yp pC (yp pC (yp pC (yp pC (zf (za (zJ (bret (zU ?_)))))))))));exact zI (Jv rfl rfl rfl rfl) ⟨_, .of, rfl, rfl⟩
 rw [decide_eq_false h4, if_neg h4];refine zA rfl (ze (z8 (yp (vJ rfl rfl) (yp (pB rfl) (zf (za ?_))))));by_cases h5 : t = 33
 ·rw [decide_eq_true h5, if_pos h5];refine zH rfl (ze (z8 (yp pC (yp pC (yp pC (yp pC (zf (za (zJ (bret (zU ?_)))))))))));exact zI (Jv rfl rfl rfl rfl) ⟨_, .of, rfl, rfl⟩
 rw [decide_eq_false h5, if_neg h5];refine zA rfl (ze (z8 (yp (vJ rfl rfl) (yp (pB rfl) (zf (za ?_))))));by_cases h6 : t = 6
 ·rw [decide_eq_true h6, if_pos h6];refine zH rfl (ze (z8 (yp pC (yp pC (yp pC (yp pC (zf (za (zJ (bret (zU ?_)))))))))));exact zI (Jv rfl rfl rfl rfl) ⟨_, .of, rfl, rfl⟩
 rw [decide_eq_false h6, if_neg h6];refine zA rfl (zu (zR (za (ze (z8 (yp pC (yp pC (yp pC (yp pC (zf (za (zJ ?_))))))))))));exact zI (Jv rfl rfl rfl rfl) ⟨_, .of, rfl, rfl⟩
theorem jl (t : Int) (d : Bs) (hd : d.length < 2 ^ 40) : Tri Tryz.prog 97 #[.int .i64 t, sv d] [] (fun r S => ∃ v L H, r = .tuple #[v, .bool (xM t d).isSome] ∧ Za 161 v (L : List Pl) H ∧ (∀ l, xM t d = some l → L = l) ∧ S = [H]) := by
 refine Tri.forget (zm Tryz.Gg (Nat.le_of_ble_eq_true rfl) ?_);unfold Tryz.Im;refine ze (z8 (yp pC (yp pC (zf (za (ze (z8 (yp (pI rfl) ?_))))))));refine zh (zk (qV t) rfl rfl fun r S' h => ?_);obtain ⟨rfl, rfl⟩ := h;have hno : ∀ {v : Value}, (xM t d) = none → v = .tuple #[.slice none 0 0, .bool false] → ∀ S, ∃ S'', zB S S'' ∧ ∃ w L H, v = .tuple #[w, .bool (xM t d).isSome] ∧ Za 161 w (L : List Pl) H ∧ (∀ l, xM t d = some l → L = l) ∧ S'' = [H] := fun h hv S => ⟨[[]], ⟨S.flatten, by simp⟩, _, [], [], by rw [h]; exact hv, .nil, fun l hl => by (rw [h] at hl; cases hl), rfl⟩
 unfold lV;cases hs : ZV t with
 | none =>
  have hp : xM t d = some [] := by unfold xM; rw [hs]
  simp only;refine yp (pU rfl) (yp (pExt rfl rfl) (yp (pExt rfl rfl) (yp (pExt rfl rfl) (yp (pExt rfl rfl) (yp (pI rfl) (yp (pI rfl) (yp (pI rfl) (yp (pB rfl) (zf (za (ze (ze (z8 (yp (pB rfl) (yp (Zi rfl) (zf (za (zH rfl (ze (z8 (yp pC (yp pC (zf (za (zJ (zU ?_))))))))))))))))))))))))));exact zI (rR rfl rfl) ⟨[[]], ⟨[], by simp⟩, _, [], [], by rw [hp]; rfl, .nil, fun l hl => by rw [hp] at hl; exact Option.some.inj hl, rfl⟩
 | some x =>
  obtain ⟨a, k, b⟩ := x;have hp : xM t d = if d.length < a then none else match Y8 d k a with
   | some (l, e) => if d.length = e + b then some l else none
   | none => none := by unfold xM; rw [hs]; try rfl
  have hab : a ≤ 6 ∧ k ≤ 2 ∧ b ≤ 20 := xJ hs;simp only;refine yp (pU rfl) (yp (pExt rfl rfl) (yp (pExt rfl rfl) (yp (pExt rfl rfl) (yp (pExt rfl rfl) (yp (pI rfl) (yp (pI rfl) (yp (pI rfl) (yp (pB rfl) (zf (za (ze (ze (z8 (yp (pB rfl) (yp (Zi rfl) (zf (za (zA rfl (zu (za (ze (ze (z8 (yp (pT rfl) (yp (uJ rfl) (yp (pI rfl) (yp (ZO rfl rfl) (zf (za ?_)))))))))))))))))))))))))))));rw [qI];by_cases h1 : d.length < a
  ·rw [decide_eq_true (show (d.length : Int) < (a : Int) from by omega)];rw [if_pos h1] at hp;refine zH rfl (ze (z8 (yp pC (yp pC (zf (za (zJ (zU ?_))))))));exact zI (rR rfl rfl) (hno hp rfl _)
  rw [decide_eq_false (show ¬ (d.length : Int) < (a : Int) from by omega)];rw [if_neg h1] at hp;refine zA rfl (zu (za (ze (z8 (yp (pI rfl) (yp (pI rfl) (zf (za (ze (ze (z8 (yp (pI rfl) (yp pC (zf (za (zq ?_))))))))))))))));refine Z5 (σ := Nat) (fun i E S => ∃ (v : Value) (L : List Pl) (H : List Chunk) (e : Nat), Has E [(1, sv d), (8, .int .i64 (b : Int)), (10, .int .i64 (e : Int)), (27, .int .i64 (k : Int)), (28, .int .i64 (i : Int))] ∧ E 4 = v ∧ Za 161 v L H ∧ L.length = i ∧ i ≤ k ∧ e ≤ d.length ∧ Y8 d k a = (Y8 d (k - i) e).map (fun x => (L ++ x.1, x.2)) ∧ zB S [H]) (fun i => k - i) 0
   ⟨_, [], [], a, ⟨rfl, rfl, rfl, rfl, rfl, trivial⟩, rfl, .nil, rfl, Nat.zero_le _, by omega, by cases Y8 d (k - 0) a <;> rfl, ⟨[], by simp⟩⟩ fun i E S ⟨v, L, H, e, hE, hE4, hL, hLl, hi, he, hx, hJ⟩ => ?_
  obtain ⟨la, lc, rfl⟩ := hL.isSlice;have hE2 : Has E [(1, sv d), (4, .slice la L.length lc), (8, .int .i64 (b : Int)), (10, .int .i64 (e : Int)), (27, .int .i64 (k : Int)), (28, .int .i64 (i : Int))] := ⟨hE.1, hE4, hE.2⟩
  clear hE hE4;obtain ⟨E0, e0⟩ := zx hE2; subst e0; clear hE2;refine zn hJ (ze (z8 (yp (ZO rfl rfl) (zf (za (ze ?_))))));refine zP rfl (fun h2 => ?_) (fun h2 => ?_)
  ·obtain ⟨m, hm⟩ : ∃ m, k - i = m + 1 := ⟨k - i - 1, by omega⟩
   rw [hm, Y8] at hx;refine zu (za (ze (zq (ze (z8 (yp (pT rfl) (yp (pI rfl) (yp (K8 (Y := d) rfl rfl he) ?_))))))))
   skip
   refine zh (zk (fA (d.drop e) (by rw [List.length_drop]; omega)) rfl rfl fun r S' h => ?_);obtain ⟨rfl, rfl⟩ := h;cases hb : (lead (d.drop e)).2 with
   | false =>
    rw [hb, if_neg (by decide)] at hx;rw [hx] at hp;refine yp (pU rfl) (yp (pExt rfl rfl) (yp (pExt rfl rfl) (yp (pI rfl) (yp (pB rfl) (zf (za (ze (ze (z8 (yp (pB rfl) (yp (Zi rfl) (zf (za (zH rfl (ze (z8 (yp pC (yp pC (zf (za (zJ (zU (bret (zU (zU (bret (zU ?_)))))))))))))))))))))))))));exact zI (rR rfl rfl) (hno hp rfl _)
   | true =>
    rw [hb, if_pos rfl] at hx;have hl := vB (show lead (d.drop e) = ((lead (d.drop e)).1, true) from by rw [← hb]);rw [List.length_drop] at hl;generalize (lead (d.drop e)).1 = n at hx hl;refine yp (pU rfl) (yp (pExt rfl rfl) (yp (pExt rfl rfl) (yp (pI rfl) (yp (pB rfl) (zf (za (ze (ze (z8 (yp (pB rfl) (yp (Zi rfl) (zf (za (zA rfl (zu (za (ze (z8 (yp (pS rfl) (yp (pI rfl) (yp (pI rfl) (yp (uZ (Uf rfl) (Uf rfl)) ?_))))))))))))))))))))));refine zh (WX (⟨e, n⟩ : Pl) rfl rfl (by decide) (by decide) rfl fun p43 => ?_);refine zh (VA (Y := [(⟨e, n⟩ : Pl)]) rfl rfl hL (.lit (by repeat (first | exact List.mem_cons_self | apply List.mem_cons_of_mem)) rfl) rfl (⟨0, 0⟩ : Pl) rfl (by simp; omega) (by simp; omega) fun v2 H2 hL2 => ?_);obtain ⟨la2, lc2, rfl⟩ := hL2.isSlice;refine yp (pS rfl) (zf (za (z8 (yp (pI rfl) (yp (pI rfl) (yp (Zo rfl rfl (by omega)) (yp (pI rfl) (zf (zR (za (z8 (yp (Ze rfl rfl (by omega)) (yp (pI rfl) (zf (za ?_)))))))))))))));refine ⟨i + 1, ⟨.slice la2 (L ++ [(⟨e, n⟩ : Pl)]).length lc2, L ++ [⟨e, n⟩], H2, e + n, ⟨rfl, rfl, rfl, rfl, rfl, trivial⟩, rfl, hL2, by simp [hLl], by omega, by omega, ?_, .of⟩, by omega⟩;rw [hx, Option.map_map, show k - (i + 1) = m from by omega];congr 1;funext x;simp
  ·obtain rfl : i = k := by omega
   rw [Nat.sub_self, Y8] at hx;rw [hx] at hp;simp only [Option.map_some, List.append_nil] at hp;refine zX (zF (zF (zZ (za (ze (z8 (yp (pS rfl) (yp (pT rfl) (yp (uJ rfl) (yp (pI rfl) ?_))))))))));rw [qI];refine yp (ZI rfl rfl (by omega)) (yp (pI rfl) (yp (vJ rfl rfl) (yp (pS rfl) (yp (pB rfl) (zf (za (zJ ?_)))))));by_cases h3 : d.length = e + b
   ·rw [if_pos h3] at hp;rw [decide_eq_true (show (d.length : Int) - (e : Int) = (b : Int) from by omega)];exact zI (rR rfl rfl) ⟨_, .of, _, L, H, by rw [hp]; rfl, hL, fun l hl => by rw [hp] at hl; exact Option.some.inj hl, rfl⟩
   ·rw [if_neg h3] at hp;rw [decide_eq_false (show ¬ (d.length : Int) - (e : Int) = (b : Int) from by omega)];exact zI (rR rfl rfl) ⟨_, .of, _, L, H, by rw [hp]; rfl, hL, fun l hl => by (rw [hp] at hl; cases hl), rfl⟩
theorem bY {f : Nat} {d : Bs} {a : Nat} {b : UInt8} (h : d[a]? = some b) : lF (f + 1) d a = lF f d (a + 1 + b.toNat) := by rw [lF, h]
theorem qH {f : Nat} {d : Bs} {a : Nat} (h : d.length ≤ a) : lF (f + 1) d a = (a == d.length) := by rw [lF, List.getElem?_eq_none h]
theorem LD (Y : Bs) : decide ((⟨Y.toArray⟩ : ByteArray) = ⟨#[]⟩) = decide (Y = []) := by
 refine decide_eq_decide.2 ?_;exact Jp (Z := [])
theorem mo (d : Bs) (hd : d.length < 2 ^ 40) : Tri Tryz.prog 138 #[sv d] [] (fun r S => r = .bool (txt d) ∧ S = []) := by
 refine Tri.forget (zm Tryz.Eb (Nat.le_of_ble_eq_true rfl) ?_);unfold Tryz.Bf;refine ze (z8 (yp pC (zf (za (ze (ze (z8 (yp (pT rfl) (yp (Cv rfl rfl) (zf (za ?_)))))))))));rw [LD];by_cases h0 : d = []
 ·rw [decide_eq_true h0];subst h0;refine zH rfl (ze (z8 (yp pC (zf (za (zJ (zU ?_)))))));exact zI (rB rfl) ⟨_, .of, rfl, rfl⟩
 rw [decide_eq_false h0];have ht : txt d = lF (d.length + 1) d 0 := by unfold txt; rw [show (d != []) = true from by simpa using h0]; rfl
 refine zA rfl (zu (za (ze (zq ?_))));refine Z5 (σ := Nat) (fun a E S => Has E [(0, sv (d.drop a))] ∧ a ≤ d.length ∧ (∃ f, txt d = lF f d a ∧ d.length + 1 ≤ f + a) ∧ zB S []) (fun a => d.length - a) 0 ⟨⟨rfl, trivial⟩, Nat.zero_le _, ⟨_, ht, Nat.le_refl _⟩, .of⟩ fun a E S ⟨hE, ha, ⟨f, hf, hfl⟩, hJ⟩ => ?_
 obtain ⟨f, rfl⟩ : ∃ g, f = g + 1 := ⟨f - 1, by omega⟩
 obtain ⟨E0, e0⟩ := zx hE; subst e0; clear hE;refine zn hJ ?_;have hdl : (d.drop a).length = d.length - a := List.length_drop;refine ze (ze (z8 (yp (pT rfl) (yp (Ga rfl rfl) (zf (za ?_))))));rw [LD];by_cases h1 : a < d.length
 ·have hy : d[a]? = some d[a] := List.getElem?_eq_getElem h1;have hy0 : (d.drop a)[0]? = some d[a] := by rw [List.getElem?_drop]; exact hy
  generalize d[a] = b at hy hy0;have hb := b.toNat_lt;rw [decide_eq_false (show ¬ d.drop a = [] from fun h => by rw [h] at hdl; simp at hdl; omega)];rw [bY hy] at hf;refine zH rfl (zu (za (zq (ze (z8 (yp (pT rfl) (yp (Co (k := 0) rfl rfl hy0) (yp (mJ rfl) (yp (vW rfl rfl (by omega)) (yp (pI rfl) (zf (za (ze (ze (z8 (yp (pI rfl) (yp (pT rfl) (yp (uJ rfl) (yp (VQ rfl rfl) (zf (za ?_)))))))))))))))))))));rw [qI];by_cases h2 : a + 1 + b.toNat ≤ d.length
  ·rw [decide_eq_false (show ¬ ((d.drop a).length : Int) < 1 + (b.toNat : Int) from by omega)];refine zA rfl (zu (za (z8 (yp (pT rfl) (yp (pI rfl) (yp (K8 (Y := d.drop a) (j := 1 + b.toNat) rfl rfl (by omega)) ?_))))));rw [List.drop_drop, show a + (1 + b.toNat) = a + 1 + b.toNat from by omega];refine yp (pT rfl) (zf (zR (za ?_)));exact ⟨a + 1 + b.toNat, ⟨⟨rfl, trivial⟩, h2, ⟨f, hf, by omega⟩, .of⟩, by omega⟩
  ·rw [decide_eq_true (show ((d.drop a).length : Int) < 1 + (b.toNat : Int) from by omega)];obtain ⟨f, rfl⟩ : ∃ g, f = g + 1 := ⟨f - 1, by omega⟩
   rw [qH (by omega)] at hf;refine zH rfl (ze (z8 (yp pC (zf (za (zJ (zU (bret (zU (bret (zU ?_)))))))))));exact zI (rB rfl) ⟨_, .of, by rw [hf, beq_eq_false_iff_ne.2 (by omega)], rfl⟩
 ·have hda : d.drop a = [] := List.drop_eq_nil_of_le (by omega);rw [decide_eq_true hda];rw [qH (by omega)] at hf;refine zA rfl (zX (zF (zF (zZ (za (ze (z8 (yp pC (zf (za (zJ ?_)))))))))));exact zI (rB rfl) ⟨_, .of, by rw [hf, beq_iff_eq.2 (by omega)], rfl⟩
theorem ES (n : Nat) : decide ((n : Int) = 4) = (n == 4) := by
 by_cases h : n = 4
 ·rw [decide_eq_true (by omega), beq_iff_eq.2 h]
 ·rw [decide_eq_false (by omega), beq_eq_false_iff_ne.2 h]
theorem A9 (n : Nat) : decide ((n : Int) = 16) = (n == 16) := by
 by_cases h : n = 16
 ·rw [decide_eq_true (by omega), beq_iff_eq.2 h]
 ·rw [decide_eq_false (by omega), beq_eq_false_iff_ne.2 h]
theorem dN (t : Int) (d : Bs) (hd : d.length < 2 ^ 40) : Tri Tryz.prog 95 #[.int .i64 t, sv d] [] (fun r S => r = .bool (ZH t d) ∧ S = []) := by
 refine Tri.forget (zm Tryz.Gi (Nat.le_of_ble_eq_true rfl) ?_);unfold Tryz.x95;refine ze (z8 (yp pC (zf (za (ze (z8 (yp (pI rfl) (yp (pT rfl) ?_))))))));refine zh (zk (jl t d hd) rfl rfl fun r S' h => ?_);obtain ⟨v, L, H, rfl, hL, _, rfl⟩ := h;obtain ⟨la, lc, rfl⟩ := hL.isSlice;unfold ZH;refine yp (pU rfl) (yp (pExt rfl rfl) (yp (pExt rfl rfl) (yp (pS rfl) (yp (pB rfl) (zf (za (ze (zq (ze (z8 (yp (pT rfl) (yp (uJ rfl) (yp (VQ rfl rfl) (yp (pB rfl) (zf (za ?_))))))))))))))));rw [qI];by_cases h1 : 1000 < d.length
 ·rw [decide_eq_true (show (1000 : Int) < (d.length : Int) from by omega), if_pos h1];refine zH rfl (ze (z8 (yp pC (zf (za (zJ (bret (zU ?_))))))));exact zI (rB rfl) ⟨[], ⟨H, by simp⟩, rfl, rfl⟩
 rw [decide_eq_false (show ¬ (1000 : Int) < (d.length : Int) from by omega), if_neg h1];refine zA rfl (ze (z8 (yp (pI rfl) (yp (vJ rfl rfl) (yp (pB rfl) (zf (za ?_)))))));by_cases h2 : t = 1
 ·rw [decide_eq_true h2, if_pos h2];refine zH rfl (ze (z8 (yp (pT rfl) (yp (uJ rfl) (yp (vJ rfl rfl) (yp (pB rfl) (zf (za (zJ (bret (zU ?_)))))))))));rw [qI]
  skip
  exact zI (rB rfl) ⟨[], ⟨H, by simp⟩, by rw [ES], rfl⟩
 rw [decide_eq_false h2, if_neg h2];refine zA rfl (ze (z8 (yp (pI rfl) (yp (vJ rfl rfl) (yp (pB rfl) (zf (za ?_)))))));by_cases h3 : t = 28
 ·rw [decide_eq_true h3, if_pos h3];refine zH rfl (ze (z8 (yp (pT rfl) (yp (uJ rfl) (yp (vJ rfl rfl) (yp (pB rfl) (zf (za (zJ (bret (zU ?_)))))))))));rw [qI]
  skip
  exact zI (rB rfl) ⟨[], ⟨H, by simp⟩, by rw [A9], rfl⟩
 rw [decide_eq_false h3, if_neg h3];refine zA rfl (ze (z8 (yp (pI rfl) (yp (vJ rfl rfl) (yp (pB rfl) (zf (za ?_)))))));by_cases h4 : t = 16
 ·rw [decide_eq_true h4, if_pos h4];refine zH rfl (ze (z8 (yp (pT rfl) ?_)));refine zh (zk (mo d hd) rfl rfl fun r S' h => ?_);obtain ⟨rfl, rfl⟩ := h;refine yp (pB rfl) (zf (za (zJ (bret (zU ?_)))));exact zI (rB rfl) ⟨[], ⟨H, by simp⟩, rfl, rfl⟩
 rw [decide_eq_false h4, if_neg h4];refine zA rfl (zu (zR (za (ze (z8 (yp (pB rfl) (yp (pB rfl) (zf (za (zJ ?_))))))))));exact zI (rB rfl) ⟨[], ⟨H, by simp⟩, rfl, rfl⟩
/-! ### the walk over the names in data -/
def pv (p : Pl) : Array Value := #[.int .i64 (p.at_ : Int), .int .i64 (p.n : Int)]
abbrev JF (bt bd : Nat) (t : Int) (d : Bs) : zw := [[(bt, .cells #[.int .i64 t] 3)], [(bd, .cells #[sv d] 9)]]
theorem kZ (t : Int) (d : Bs) : Tri Tryz.prog 48 #[.int .i64 t, sv d] [] (fun r S => ∃ bt bd, r = .func (.func 96) #[] #[.pointer (some ⟨bt, 0, none⟩), .pointer (some ⟨bd, 0, none⟩)] ∧ S = JF bt bd t d) := by
 refine Tri.forget (zm Tryz.GZ (Nat.le_of_ble_eq_true rfl) ?_);unfold Tryz.La;refine ze (z8 ?_);refine zh (iU (Uf rfl) fun p2 => ?_);refine zh (iU (rH rfl) fun p3 => ?_);refine yp pC (zf (za (ze (z8 (yp (Cu (Jb rfl) (Jb rfl)) (yp (pF rfl) (zf (za (zJ ?_)))))))));exact zI (rF rfl) ⟨JF p2 p3 t d, ⟨[], by simp; exact List.Perm.swap _ _ _⟩, p2, p3, rfl, rfl⟩
theorem nA {bt bd : Nat} {t : Int} {d : Bs} {S0 : zw} (hd : d.length < 2 ^ 40) :
 Y6 Tryz.prog 96 #[] #[.pointer (some ⟨bt, 0, none⟩), .pointer (some ⟨bd, 0, none⟩)] (JF bt bd t d) S0
  (fun pre x => pre ++ [x] <+: (prt t d).map pv) (fun xs => xs = (prt t d).map pv) := by
 intro l c J Jx hJ0 hround;have e0 : (#[] ++ #[.func (.yield l) #[] #[]] ++ #[.pointer (some ⟨bt, 0, none⟩), .pointer (some ⟨bd, 0, none⟩)] : Array Value) = #[.func (.yield l) #[] #[], .pointer (some ⟨bt, 0, none⟩), .pointer (some ⟨bd, 0, none⟩)] := rfl;rw [e0];refine Tri.forget (zm Tryz.Gh (Nat.le_of_ble_eq_true rfl) ?_);unfold Tryz.x96;refine ze (ze (z8 ?_));refine zh (zC rfl rfl ?_);refine zh (zC rfl rfl ?_);refine zh (zk (dN t d hd) rfl rfl fun r S' h => ?_);obtain ⟨rfl, rfl⟩ := h;cases hok : ZH t d with
 | false =>
  have hp : prt t d = [] := by unfold prt; rw [if_neg (by rw [hok]; decide)]
  refine yp (Zi rfl) (zf (za (zH rfl (zJ (zU ?_)))));exact zI wm ⟨[c] :: S0, ⟨(JF bt bd t d).flatten, by simp; exact List.perm_append_comm (l₁ := [_, _])⟩, .inl ⟨[], by rw [hp]; rfl, hJ0⟩⟩
 | true =>
  have hsome : ∃ l, xM t d = some l := by
   have h0 := hok;unfold ZH at h0;cases hs : ZV t with
   | none => exact ⟨[], by unfold xM; rw [hs]⟩
   | some x =>
    have hk := jd hs;split at h0
    ·cases h0
    ·rw [if_neg hk.1, if_neg hk.2.1, if_neg hk.2.2] at h0;exact Option.isSome_iff_exists.1 h0
  obtain ⟨L0, hp0⟩ := hsome;have hp : prt t d = L0 := by unfold prt; rw [if_pos hok, hp0]; rfl
  refine yp (Zi rfl) (zf (za (zA rfl (zu (za (ze (z8 ?_)))))));refine zh (zC rfl rfl ?_);refine zh (zC rfl rfl ?_);refine zh (zk (jl t d hd) rfl rfl fun r S' h => ?_);obtain ⟨v, L, H, rfl, hL, hLe, rfl⟩ := h;obtain rfl := hLe L0 hp0;have hL2 := K3 hp0;obtain ⟨la, lc, rfl⟩ := hL.isSlice;rw [hp];refine yp (pU rfl) (yp (pExt rfl rfl) (yp (pExt rfl rfl) (yp (pS rfl) (yp (pB rfl) (zf (za (ze (z8 (yp (pS rfl) (yp (ZC rfl) (yp pC (zf (za (zq ?_))))))))))))));refine Z5 (σ := Nat) (fun i E S => Has E [(0, .func (.yield l) #[] #[]), (18, .slice la L.length lc), (19, .int .i64 (L.length : Int)), (20, .int .i64 i)] ∧ i ≤ L.length ∧ ∃ T', J ((L.take i).map pv) T' ∧ zB S (H :: T')) (fun i => L.length - i) 0
   ⟨⟨rfl, rfl, rfl, rfl, trivial⟩, Nat.zero_le _, [c] :: S0, hJ0, ⟨(JF bt bd t d).flatten, ?_⟩⟩ fun i E S ⟨hE, hi, T', hJ, hk⟩ => ?_
  ·simp;exact List.Perm.append_left H ((List.perm_append_comm (l₁ := [_, _])).cons _)
  obtain ⟨E0, e0⟩ := zx hE; subst e0; clear hE;refine zn hk (ze (z8 (yp (ZO rfl rfl) (zf (za (ze ?_))))));refine zP rfl (fun h => ?_) (fun h => ?_)
  ·have hlt : i < L.length := by omega
   obtain ⟨bb2, sp, fz, hz, rfl, hm, hc, rfl⟩ := hL.at' (by intro h; simp [h] at hlt);refine zu (za (ze (zq (ze (z8 (yp (zS rfl rfl (by omega)) ?_))))));refine zh (ZU (l := enc L[i]) rfl (wh hlt rfl) rfl ?_);refine zh (Zf fun p7 => ?_);refine zh (vL (c' := [.int .i64 (L[i].at_ : Int), .int .i64 (L[i].n : Int)]) rfl rfl rfl rfl rfl ?_);refine zf (za (ze (z8 (yp (pF rfl) (yp (zo rfl) ?_)))));refine zh (zC rfl rfl ?_);refine yp (zo rfl) ?_;refine zh (zC rfl rfl ?_);have ht : L.take (i + 1) = L.take i ++ [L[i]] := List.take_succ_eq_append_getElem hlt;have hV : (L.take i).map pv ++ [pv L[i]] <+: L.map pv := by
    rw [show (L.take i).map pv ++ [pv L[i]] = (L.take (i + 1)).map pv from by rw [ht, List.map_append]; rfl];exact (List.take_prefix _ _).map _
   refine zh (Xr (hround _ (pv L[i]) T' (by rw [hp]; exact hV) hJ) rfl rfl fun bl T2 h => ?_);rcases h with ⟨rfl, hJ'⟩ | ⟨rfl, hJx⟩
   ·refine yp (Zi rfl) (zf (za (zA rfl (zu (zR (za (z8 (yp (Ze rfl rfl (by omega)) (yp (pI rfl) (zf (za ?_)))))))))));refine ⟨i + 1, ⟨⟨rfl, rfl, rfl, rfl, trivial⟩, by omega, T2, ?_, .of⟩, by omega⟩;rw [ht, List.map_append]; exact hJ'
   ·refine yp (Zi rfl) (zf (za (zH rfl (zJ (bret (zU (zU (bret ?_))))))));exact zI wm ⟨T2, .of, .inr ⟨_, hJx⟩⟩
  ·refine zX (zF (zF (zZ ?_)));refine ZX wm ⟨T', .of, .inl ⟨_, ?_, hJ⟩⟩;rw [List.take_of_length_le (by omega)]
end Go.Proofs.YtejmbmenbailmaaGreat
namespace Go.Proofs.YtejmbmenbailmaaGreat
open Go.Xs
open Enc (enc)
theorem kE {n : Nat} {Q : Exit → Env → zw → Prop} {E : Env} {g : Operand} {p q : Tmp} {xa xb : zD} {bt bd : Nat} {t : Int} {d : Bs} {S S0 G0 : zw} [hsub : Sub S0 (JF bt bd t d ++ S) G0] (J : Nat → zw → Prop)
 (hg : ev E g = .func (.func 96) #[] #[.pointer (some ⟨bt, 0, none⟩), .pointer (some ⟨bd, 0, none⟩)]) (hps : [p, q].all (fun t => Nat.blt t n) = true) (hd : d.length < 2 ^ 40) (hJ0 : J 0 S)
 (hround : ∀ (l k : Nat) (x : Pl) (T : zw), (prt t d)[k]? = some x → J k T → Y Tryz.prog (some l) n xa (VD (fun E1 S1 => Y Tryz.prog (some l) n xb (kX (fun _ S' => J (k + 1) S') (fun _ _ _ => False) []) E1 S1) (fun _ _ _ => False)) (UJ [p, q] [.int .i64 (x.at_ : Int), .int .i64 (x.n : Int)] E) T)
 (hdone : ∀ S', J (prt t d).length S' → Q .normal E S') : Y Tryz.prog none n (.range g [p, q] xa xb) Q E S0 := by
 refine XJ (S := S) (own := JF bt bd t d) (G0 := G0) (fun pre T => pre <+: (prt t d).map pv ∧ J pre.length T) (fun _ _ _ => False) hg hps (nA (bt := bt) (bd := bd) (S0 := S) hd) ⟨List.nil_prefix, hJ0⟩ ?_ ?_ ?_ ?_
 ·intro pre x hx;have : x ∈ (prt t d).map pv := hx.subset (by simp);obtain ⟨e, _, rfl⟩ := List.mem_map.1 this;rfl
 ·rintro l pre x T hx ⟨_, hJ⟩;have hxl : ((prt t d).map pv)[pre.length]? = some x := by
   obtain ⟨u, hu⟩ := hx;rw [← hu, List.append_assoc, List.getElem?_append_right (Nat.le_refl _), Nat.sub_self]; rfl
  rw [List.getElem?_map] at hxl;cases he : (prt t d)[pre.length]? with
  | none => rw [he] at hxl; cases hxl
  | some e =>
   rw [he] at hxl;obtain rfl := (Option.some.inj hxl).symm;have h := hround l pre.length e T he hJ;have hx2 : pre ++ [pv e] <+: (prt t d).map pv := hx;refine Y.mono h ?_;rintro ex E1 S1 h1;cases ex with
   | normal =>
    refine Y.mono h1 ?_;rintro ex2 E2 S2 h2;cases ex2 with
    | normal => exact ⟨hx2, by rw [List.length_append]; exact h2⟩
    | _ => exact h2
   | _ => exact h1
 ·rintro xs S' hx ⟨_, hJ⟩;rw [hx, List.length_map] at hJ;exact hdone S' hJ
 ·rintro e pre S' _ h;exact h.elim
end Go.Proofs.YtejmbmenbailmaaGreat
