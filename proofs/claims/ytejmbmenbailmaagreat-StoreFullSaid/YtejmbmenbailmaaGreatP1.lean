/- Records (chapter 3), plainly: where names stand in data, and what data may be. Names added and dropped, one behind the other: how often each is used, and what they cost. Sets (chapter 8), plainly: what may be, its names, its size, its block's bytes. Names that live: each is used as often as numbers of it are held; arenas that are alike. A set's block (chapter 8), plainly: data with names in other letters, or with numbers in their places. Parts of strings, strings put together, as lists of bytes. Records (chapter 3): what data may be, and its names. A range over the names in data. -/
import Derived.Test.YtejmbmenbailmaaGreatN1
import Derived.Test.YtejmbmenbailmaaGreatI1
import Derived.Test.YtejmbmenbailmaaGreatFPack
namespace Go.Proofs.YtejmbmenbailmaaGreat
open Go.Xs
open Enc (enc)
/-! ### what a text begins with -/
theorem y9 : ∀ (f : Nat) (Y : Bs) (a n : Nat), Xh f Y a = (n, true) → a < n ∧ n ≤ Y.length
 | 0, _, _, _, h => by simp [Xh] at h
 | f + 1, Y, a, n, h => by
  unfold Xh at h;cases hy : Y[a]? with
  | none => rw [hy] at h; simp at h
  | some b =>
   have hlt := (List.getElem?_eq_some_iff.1 hy).1;rw [hy] at h;simp only at h;split at h
   ·simp at h
   ·split at h
    ·obtain rfl : a + 1 = n := (Prod.mk.inj h).1;omega
    ·split at h
     ·simp at h
     ·have := y9 f Y _ n h;omega
theorem jy : ∀ (f : Nat) (Y : Bs) (a n m : Nat), Xh f Y a = (n, true) → n ≤ m → Xh f (Y.take m) a = (n, true)
 | 0, _, _, _, _, h, _ => by simp [Xh] at h
 | f + 1, Y, a, n, m, h, hm => by
  have hb := y9 (f + 1) Y a n h;have hg : (Y.take m)[a]? = Y[a]? := List.getElem?_take_of_lt (by omega);unfold Xh at h ⊢;rw [hg];cases hy : Y[a]? with
  | none => rw [hy] at h; simp at h
  | some b =>
   rw [hy] at h;simp only at h ⊢;split at h
   ·simp at h
   ·next h0 =>
    rw [if_neg h0];split at h
    ·next h1 => rw [if_pos h1]; exact h
    ·next h1 =>
     rw [if_neg h1];split at h
     ·simp at h
     ·next h2 => rw [if_neg h2]; exact jy f Y _ n m h hm
theorem y8 : ∀ (f : Nat) (Y : Bs) (a n m : Nat), Xh f (Y.take m) a = (n, true) → Xh f Y a = (n, true)
 | 0, _, _, _, _, h => by simp [Xh] at h
 | f + 1, Y, a, n, m, h => by
  have hb := y9 (f + 1) _ a n h;have hg : (Y.take m)[a]? = Y[a]? := List.getElem?_take_of_lt (by have := List.length_take_le m Y; omega);unfold Xh at h ⊢;rw [hg] at h;cases hy : Y[a]? with
  | none => rw [hy] at h; simp at h
  | some b =>
   rw [hy] at h;simp only at h ⊢;split at h
   ·simp at h
   ·next h0 =>
    rw [if_neg h0];split at h
    ·next h1 => rw [if_pos h1]; exact h
    ·next h1 =>
     rw [if_neg h1];split at h
     ·simp at h
     ·next h2 => rw [if_neg h2]; exact y8 f Y _ n m h
/-- a text begins with a name of n bytes: its first n bytes are one -/
theorem y7 {Y : Bs} {n : Nat} : lead Y = (n, true) ↔ n ≤ Y.length ∧ vF (Y.take n) = true := by
 unfold vF lead;constructor
 ·intro h;have hb := y9 _ _ _ _ h;rw [jy _ _ _ _ n h (Nat.le_refl _), List.length_take, Nat.min_eq_left hb.2];exact ⟨hb.2, by simp⟩
 ·rintro ⟨h1, h2⟩;rw [Bool.and_eq_true] at h2;have hlen : (Y.take n).length = n := by rw [List.length_take]; omega
  have h3 : (Xh 256 (Y.take n) 0).1 = n := by have := h2.2; rw [hlen] at this; simpa using this
  exact y8 256 Y 0 n n (Prod.ext h3 h2.1)
theorem vg {Y : Bs} {n : Nat} (h : lead Y = (n, true)) : 1 ≤ n ∧ n ≤ 255 ∧ n ≤ Y.length := by
 have hb := y9 _ _ _ _ h;have := JG 256 Y 0;unfold lead at h;rw [h] at this;exact ⟨by omega, this, hb.2⟩
/-- ahead of anything -/
theorem eY {Y Z : Bs} (h : vF Y = true) : lead (Y ++ Z) = (Y.length, true) := y7.2 ⟨by simp, by rw [List.take_left]; exact h⟩
/-! ### where names stand -/
structure Pl where
 at_ : Nat
 n : Nat
instance : Enc Pl := ⟨fun x => [.int .i64 (x.at_ : Int), .int .i64 (x.n : Int)], 2, fun _ => rfl, fun _ => rfl⟩
def ZW (t : Int) : Option (Nat × Nat × Nat) := if t = 2 ∨ t = 5 ∨ t = 12 then some (0, 1, 0) else if t = 15 then some (2, 1, 0) else if t = 33 then some (6, 1, 0) else if t = 6 then some (0, 2, 20) else none
/-- names, one behind the other -/
def yZ (d : Bs) : Nat → Nat → Option (List Pl × Nat)
 | 0, a => some ([], a)
 | k + 1, a => if (lead (d.drop a)).2 = true then (yZ d k (a + (lead (d.drop a)).1)).map fun x => (⟨a, (lead (d.drop a)).1⟩ :: x.1, x.2) else none
def xH (t : Int) (d : Bs) : Option (List Pl) := match ZW t with
 | none => some []
 | some (a, k, b) => if d.length < a then none else match yZ d k a with
  | some (l, e) => if d.length = e + b then some l else none
  | none => none
/-- texts -/
def iP : Nat → Bs → Nat → Bool
 | 0, _, _ => false
 | f + 1, d, a => match d[a]? with
  | some b => iP f d (a + 1 + b.toNat)
  | none => a == d.length
def txt (d : Bs) : Bool := d != [] && iP (d.length + 1) d 0
def ZI (t : Int) (d : Bs) : Bool := if 1000 < d.length then false else if t = 1 then d.length == 4 else if t = 28 then d.length == 16 else if t = 16 then txt d else (xH t d).isSome
def prt (t : Int) (d : Bs) : List Pl := if ZI t d = true then (xH t d).getD [] else []
theorem dB {d : Bs} : ∀ {k a : Nat} {l : List Pl} {e : Nat}, yZ d k a = some (l, e) → a ≤ d.length → e ≤ d.length ∧ a ≤ e ∧ l.length = k
 | 0, a, l, e, h, ha => by
  obtain ⟨rfl, rfl⟩ := Prod.mk.inj (Option.some.inj h);exact ⟨ha, Nat.le_refl _, rfl⟩
 | k + 1, a, l, e, h, ha => by
  unfold yZ at h;split at h
  ·next h2 =>
   have hl : lead (d.drop a) = ((lead (d.drop a)).1, true) := by rw [← h2]
   have hp := vg hl;rw [List.length_drop] at hp;cases hx : yZ d k (a + (lead (d.drop a)).1) with
   | none => rw [hx] at h; cases h
   | some x =>
    obtain ⟨l2, e2⟩ := x;rw [hx] at h;obtain ⟨rfl, rfl⟩ := Prod.mk.inj (Option.some.inj h);have := dB hx (by omega);exact ⟨this.1, by omega, by simp [this.2.2]⟩
  ·cases h
/-- places, one behind the other, from a on -/
def Row (d : Bs) : Nat → List Pl → Prop
 | a, [] => a ≤ d.length
 | a, p :: l => p.at_ = a ∧ lead (d.drop a) = (p.n, true) ∧ Row d (a + p.n) l
theorem kW {d : Bs} : ∀ {k a : Nat} {l : List Pl} {e : Nat}, yZ d k a = some (l, e) → a ≤ d.length → Row d a l
 | 0, a, l, e, h, ha => by
  obtain ⟨rfl, rfl⟩ := Prod.mk.inj (Option.some.inj h);exact ha
 | k + 1, a, l, e, h, ha => by
  unfold yZ at h;split at h
  ·next h2 =>
   have hl : lead (d.drop a) = ((lead (d.drop a)).1, true) := by rw [← h2]
   have hp := vg hl;rw [List.length_drop] at hp;cases hx : yZ d k (a + (lead (d.drop a)).1) with
   | none => rw [hx] at h; cases h
   | some x =>
    obtain ⟨l2, e2⟩ := x;rw [hx] at h;obtain ⟨rfl, rfl⟩ := Prod.mk.inj (Option.some.inj h);exact ⟨rfl, hl, kW hx (show a + (lead (d.drop a)).1 ≤ d.length from by omega)⟩
  ·cases h
theorem qR {t : Int} {d : Bs} {l : List Pl} (h : xH t d = some l) : l = [] ∨ ∃ a k b e, ZW t = some (a, k, b) ∧ a ≤ d.length ∧ yZ d k a = some (l, e) ∧ d.length = e + b := by
 unfold xH at h;split at h
 ·exact .inl (Option.some.inj h).symm
 ·next a k b hs =>
  split at h
  ·cases h
  ·split at h
   ·next l2 e hp =>
    split at h
    ·next he =>
     obtain rfl := Option.some.inj h;exact .inr ⟨a, k, b, e, hs, by omega, hp, he⟩
    ·cases h
   ·cases h
theorem j4 {t : Int} {x : Nat × Nat × Nat} (h : ZW t = some x) : t ≠ 1 ∧ t ≠ 28 ∧ t ≠ 16 := by
 unfold ZW at h;refine ⟨fun e => ?_, fun e => ?_, fun e => ?_⟩ <;> (subst e; simp at h)
theorem xF {t : Int} {x : Nat × Nat × Nat} (h : ZW t = some x) : x.1 ≤ 6 ∧ x.2.1 ≤ 2 ∧ x.2.2 ≤ 20 := by
 unfold ZW at h;split at h
 ·obtain rfl := Option.some.inj h; decide
 ·split at h
  ·obtain rfl := Option.some.inj h; decide
  ·split at h
   ·obtain rfl := Option.some.inj h; decide
   ·split at h
    ·obtain rfl := Option.some.inj h; decide
    ·cases h
theorem kV {t : Int} {d : Bs} {l : List Pl} (h : xH t d = some l) : l.length ≤ 2 := by
 rcases qR h with rfl | ⟨a, k, b, e, hs, ha, hp, _⟩
 ·exact Nat.zero_le _
 ·have h1 := (xF hs).2.1;have h2 := (dB hp ha).2.2;simp only at h1;omega
end Go.Proofs.YtejmbmenbailmaaGreat
namespace Go.Proofs.YtejmbmenbailmaaGreat
open Go.Xs
open Enc (enc)
/-! ### Drop, and one use more, step by step -/
def sO : List Nm → Int → List Nm
 | [], _ => []
 | e :: l, i => if e.id = i then (if e.u = 1 then l else ⟨e.id, e.n, e.u - 1⟩ :: l) else e :: sO l i
def inc : List Nm → Int → List Nm
 | [], _ => []
 | e :: l, i => if e.id = i then ⟨e.id, e.n, e.u + 1⟩ :: l else e :: inc l i
theorem YJ : ∀ (L : List Nm) (i : Int), vC L i = sO L i
 | [], _ => rfl
 | e :: l, i => by
  have ih := YJ l i;unfold vC at ih ⊢;unfold sO VJ;by_cases h : e.id = i
  ·rw [if_pos h, if_pos h];simp only [List.getElem?_cons_zero, List.eraseIdx_cons_zero];unfold reuse;rw [List.set_cons_zero]
  ·rw [if_neg h, if_neg h, ← ih];cases hx : VJ i l with
   | none => rfl
   | some k =>
    obtain ⟨x, h1, _⟩ := U2 hx;simp only [Option.map_some, List.getElem?_cons_succ, h1, List.eraseIdx_cons_succ];unfold reuse;rw [List.set_cons_succ];split <;> rfl
theorem Yt : ∀ {L : List Nm} {j : Nat} {e : Nm}, (L.map (·.id)).Nodup → L[j]? = some e → reuse L j e (e.u + 1) = inc L e.id
 | [], _, _, _, h => by simp at h
 | x :: l, 0, e, _, h => by
  obtain rfl : x = e := by simpa using h
  unfold inc reuse;rw [if_pos rfl, List.set_cons_zero]
 | x :: l, j + 1, e, hd, h => by
  rw [List.map_cons, List.nodup_cons] at hd;have hl : l[j]? = some e := by simpa using h
  have hne : x.id ≠ e.id := fun h2 => hd.1 (h2 ▸ List.mem_map.2 ⟨e, List.mem_of_getElem? hl, rfl⟩)
  have ih := Yt hd.2 hl;unfold reuse at ih ⊢;unfold inc;rw [if_neg hne, List.set_cons_succ, ih]
/-! ### a list of names, each used so often more -/
def W9 : List Nm → (Int → Nat) → List Nm
 | [], _ => []
 | e :: l, c => if e.u + c e.id = 0 then W9 l c else ⟨e.id, e.n, e.u + c e.id⟩ :: W9 l c
theorem yP (e : Nm) (l : List Nm) (c : Int → Nat) : W9 (e :: l) c = if e.u + c e.id = 0 then W9 l c else ⟨e.id, e.n, e.u + c e.id⟩ :: W9 l c := rfl
theorem WR : ∀ {L : List Nm} {c c' : Int → Nat}, (∀ e ∈ L, c e.id = c' e.id) → W9 L c = W9 L c'
 | [], _, _, _ => rfl
 | e :: l, c, c', h => by
  unfold W9;rw [h e (by simp), WR fun x hx => h x (List.mem_cons_of_mem _ hx)]
theorem Uu (c : Int → Nat) : ∀ (L M : List Nm), W9 (L ++ M) c = W9 L c ++ W9 M c
 | [], _ => rfl
 | e :: l, M => by
  rw [List.cons_append, yP, yP, Uu c l M];split
  ·rfl
  ·rfl
theorem Qt : ∀ {L : List Nm}, Pos L → W9 L (fun _ => 0) = L
 | [], _ => rfl
 | e :: l, h => by
  unfold W9;have := h e (by simp);rw [if_neg (by omega), Qt fun x hx => h x (List.mem_cons_of_mem _ hx)];rfl
theorem jU : ∀ {L : List Nm} {c : Int → Nat}, (∀ e ∈ L, e.u + c e.id = 0) → W9 L c = []
 | [], _, _ => rfl
 | e :: l, c, h => by
  unfold W9;rw [if_pos (h e (by simp))];exact jU fun x hx => h x (List.mem_cons_of_mem _ hx)
theorem Vq : ∀ {L : List Nm} {c : Int → Nat} {x : Nm}, x ∈ W9 L c ↔ ∃ e ∈ L, x = ⟨e.id, e.n, e.u + c e.id⟩ ∧ x.u ≠ 0
 | [], c, x => by unfold W9; simp
 | e :: l, c, x => by
  unfold W9;split
  ·next h0 =>
   rw [Vq];constructor
   ·rintro ⟨y, hy, h1, h2⟩; exact ⟨y, List.mem_cons_of_mem _ hy, h1, h2⟩
   ·rintro ⟨y, hy, h1, h2⟩;rcases List.mem_cons.1 hy with rfl | hy
    ·rw [h1] at h2; exact absurd h0 h2
    ·exact ⟨y, hy, h1, h2⟩
  ·next h0 =>
   rw [List.mem_cons, Vq];constructor
   ·rintro (rfl | ⟨y, hy, h1, h2⟩)
    ·exact ⟨e, by simp, rfl, h0⟩
    ·exact ⟨y, List.mem_cons_of_mem _ hy, h1, h2⟩
   ·rintro ⟨y, hy, h1, h2⟩;rcases List.mem_cons.1 hy with rfl | hy
    ·exact .inl h1
    ·exact .inr ⟨y, hy, h1, h2⟩
theorem Ko (c : Int → Nat) : ∀ (L : List Nm), List.Sublist ((W9 L c).map (·.id)) (L.map (·.id)) ∧ List.Sublist ((W9 L c).map (·.n)) (L.map (·.n))
 | [] => ⟨.slnil, .slnil⟩
 | e :: l => by
  have ih := Ko c l;unfold W9;split
  ·exact ⟨.cons _ ih.1, .cons _ ih.2⟩
  ·exact ⟨.cons_cons _ ih.1, .cons_cons _ ih.2⟩
theorem Qv {L : List Nm} (c : Int → Nat) (h : xw L) : xw (W9 L c) := ⟨(Ko c L).1.nodup h.ids, (Ko c L).2.nodup h.ns⟩
theorem jV {c : Int → Nat} {i : Int} : ∀ {L : List Nm}, (L.map (·.id)).Nodup → (∃ e ∈ L, e.id = i) → 1 ≤ c i → sO (W9 L c) i = W9 L (fun k => if k = i then c k - 1 else c k)
 | [], _, h, _ => by simp at h
 | e :: l, hd, h, hc => by
  rw [List.map_cons, List.nodup_cons] at hd;unfold W9;by_cases he : e.id = i
  ·have htl : W9 l c = W9 l (fun k => if k = i then c k - 1 else c k) := WR fun x hx => by
    have hne : x.id ≠ i := fun h2 => hd.1 (he ▸ h2 ▸ List.mem_map.2 ⟨x, hx, rfl⟩)
    show c x.id = if x.id = i then c x.id - 1 else c x.id
    rw [if_neg hne]
   rw [if_neg (by rw [he]; omega)];unfold sO;rw [if_pos he];simp only [he, if_true];by_cases h1 : e.u + c i = 1
   ·rw [if_pos h1, if_pos (by omega), htl]
   ·rw [if_neg h1, if_neg (by omega), ← htl, show e.u + c i - 1 = e.u + (c i - 1) from by omega]
  ·have h2 : ∃ e ∈ l, e.id = i := by
    obtain ⟨x, hx, hxi⟩ := h;rcases List.mem_cons.1 hx with rfl | hx
    ·exact absurd hxi he
    ·exact ⟨x, hx, hxi⟩
   have ih := jV hd.2 h2 hc;simp only [if_neg he];by_cases h0 : e.u + c e.id = 0
   ·rw [if_pos h0, if_pos h0]; exact ih
   ·rw [if_neg h0, if_neg h0];show sO (_ :: _) i = _;unfold sO;rw [if_neg (show ¬ (⟨e.id, e.n, e.u + c e.id⟩ : Nm).id = i from he), ih]
theorem Qu {c : Int → Nat} {i : Int} : ∀ {L : List Nm}, (L.map (·.id)).Nodup → (∀ e ∈ L, 1 ≤ e.u + c e.id) → inc (W9 L c) i = W9 L (fun k => if k = i then c k + 1 else c k)
 | [], _, _ => rfl
 | e :: l, hd, h => by
  rw [List.map_cons, List.nodup_cons] at hd;have h1 := h e (by simp);unfold W9;rw [if_neg (by omega)];show inc (_ :: _) i = _;unfold inc;by_cases he : e.id = i
  ·have htl : W9 l c = W9 l (fun k => if k = i then c k + 1 else c k) := WR fun x hx => by
    have hne : x.id ≠ i := fun h2 => hd.1 (he ▸ h2 ▸ List.mem_map.2 ⟨x, hx, rfl⟩)
    show c x.id = if x.id = i then c x.id + 1 else c x.id
    rw [if_neg hne]
   rw [if_pos (show (⟨e.id, e.n, e.u + c e.id⟩ : Nm).id = i from he)];simp only [he, if_true];rw [if_neg (by omega), ← htl]; rfl
  ·have ih := Qu (c := c) (i := i) hd.2 fun x hx => h x (List.mem_cons_of_mem _ hx)
   rw [if_neg (show ¬ (⟨e.id, e.n, e.u + c e.id⟩ : Nm).id = i from he)];simp only [if_neg he];rw [if_neg (by omega), ih]
/-! ### drops -/
def drops (L : List Nm) (ids : List Int) : List Nm := ids.foldl vC L
theorem xU : ∀ {ids : List Int} {L : List Nm} {c : Int → Nat}, (L.map (·.id)).Nodup → (∀ i ∈ ids, ∃ e ∈ L, e.id = i) → drops (W9 L fun k => c k + ids.count k) ids = W9 L c
 | [], L, c, _, _ => by unfold drops; simp
 | i :: ids, L, c, hd, h => by
  have h1 := jV (c := fun k => c k + (i :: ids).count k) (i := i) hd (h i (by simp)) (by simp; omega);have h2 : (W9 L fun k => if k = i then c k + (i :: ids).count k - 1 else c k + (i :: ids).count k) = W9 L fun k => c k + ids.count k := WR fun e _ => by
   show (if e.id = i then c e.id + (i :: ids).count e.id - 1 else c e.id + (i :: ids).count e.id) = c e.id + ids.count e.id;rw [List.count_cons];by_cases he : e.id = i
   ·subst he; simp
   ·have : (i == e.id) = false := by simpa using fun h3 : i = e.id => he h3.symm
    rw [if_neg he, this]; simp
  show (ids.foldl vC (vC (W9 L fun k => c k + (i :: ids).count k) i)) = _;rw [YJ, h1, h2];exact xU hd fun j hj => h j (List.mem_cons_of_mem _ hj)
/-! ### adds -/
structure Ad where
 D : List (Option Bt)
 L : List Nm
 ids : List Int
 e : Int
def wH (N : Nat) : List (Option Bt) → List Nm → List Bs → Ad
 | D, L, [] => ⟨D, L, [], 0⟩
 | D, L, n :: l => if WA N D L n = 0 then ⟨(wH N (WB D L (zx n)) (ZH D L (zx n)) l).D, (wH N (WB D L (zx n)) (ZH D L (zx n)) l).L, uR D L (zx n) :: (wH N (WB D L (zx n)) (ZH D L (zx n)) l).ids, (wH N (WB D L (zx n)) (ZH D L (zx n)) l).e⟩ else ⟨D, L, [], WA N D L n⟩
theorem Km {L : List Nm} {m : Bs} : (Vi L m).isSome = true ↔ ∃ e ∈ L, e.n = m := by
 constructor
 ·intro h;obtain ⟨e, he⟩ := Option.isSome_iff_exists.1 h;obtain ⟨j, _, h2, h3⟩ := vE he;exact ⟨e, List.mem_of_getElem? h2, h3⟩
 ·rintro ⟨e, he, rfl⟩;exact JY he
theorem iB {D : List (Option Bt)} {L : List Nm} {n m : Bs} : (Vi (ZH D L n) m).isSome = true ↔ m = n ∨ (Vi L m).isSome = true := by
 rw [Km, Km];cases hb : Vi L n with
 | some x =>
  obtain ⟨j, h1, h2, rfl⟩ := vE hb;have : ZH D L x.n = reuse L j x (x.u + 1) := by unfold ZH; rw [h1]; simp only [h2]
  rw [this];constructor
  ·rintro ⟨e, he, rfl⟩;obtain ⟨y, hy, _, h4⟩ := VK h2 he;exact .inr ⟨y, hy, h4⟩
  ·rintro (rfl | ⟨y, hy, rfl⟩)
   ·obtain ⟨z, hz, _, h4⟩ := WL (u := x.u + 1) h2 (List.mem_of_getElem? h2);exact ⟨z, hz, h4⟩
   ·obtain ⟨z, hz, _, h4⟩ := WL (u := x.u + 1) h2 hy;exact ⟨z, hz, h4⟩
 | none =>
  have : ZH D L n = L ++ [⟨((hnd D : Nat) : Int), n, 1⟩] := by unfold ZH; rw [Wy hb]
  rw [this];constructor
  ·rintro ⟨e, he, rfl⟩;rcases List.mem_append.1 he with he | he
   ·exact .inr ⟨e, he, rfl⟩
   ·rw [List.mem_singleton.1 he]; exact .inl rfl
  ·rintro (rfl | ⟨y, hy, rfl⟩)
   ·exact ⟨⟨((hnd D : Nat) : Int), m, 1⟩, by simp, rfl⟩
   ·exact ⟨y, List.mem_append.2 (.inl hy), rfl⟩
theorem yj (D : List (Option Bt)) : Zg D ((hnd D : Nat) : Int) = none := by
 have := vB D;have hp := wK D;rw [show ((hnd D : Nat) : Int) = ((hnd D - 1 : Nat) : Int) + 1 from by omega, Zz]; exact this
/-- what adds leave: the elder names, new ones behind them, each used as often as its number was told -/
theorem Xz (N : Nat) : ∀ (l : List Bs) (D : List (Option Bt)) (L : List Nm) (c : Int → Nat), xw L → (∀ e ∈ L, (Zg D e.id).isSome = true) → (∀ e ∈ L, 1 ≤ e.u + c e.id) → (∀ i, (∀ e ∈ L, e.id ≠ i) → c i = 0) →
 ∃ M : List Nm, (∀ e ∈ M, e.u = 0) ∧ xw (L ++ M) ∧ (wH N D (W9 L c) l).L = W9 (L ++ M) (fun k => c k + (wH N D (W9 L c) l).ids.count k) ∧ (∀ i ∈ (wH N D (W9 L c) l).ids, ∃ e ∈ L ++ M, e.id = i) ∧
  (∀ e ∈ L ++ M, (Zg (wH N D (W9 L c) l).D e.id).isSome = true) ∧ (∀ e ∈ M, Zg D e.id = none)
 | [], D, L, c, hd, hD, _, _ => ⟨[], fun e he => by simp at he, by rw [List.append_nil]; exact hd, by unfold wH; simp, fun i hi => by unfold wH at hi; simp at hi, by rw [List.append_nil]; exact hD, fun e he => by simp at he⟩
 | n :: l, D, L, c, hd, hD, hu, hc => by
  unfold wH;by_cases hE : WA N D (W9 L c) n = 0
  ·rw [if_pos hE];have hcount : ∀ (i k : Int) (ids : List Int), (i :: ids).count k = ids.count k + if k = i then 1 else 0 := fun i k ids => by
    rw [List.count_cons];by_cases h : k = i
    ·subst h; simp
    ·have : (i == k) = false := by simpa using fun h3 : i = k => h h3.symm
     rw [if_neg h, this]; simp
   cases hb : Vi (W9 L c) (zx n) with
   | some x =>
    obtain ⟨j, h1, h2, h3⟩ := vE hb;have hxm := List.mem_of_getElem? h2;obtain ⟨e, heL, hxe, _⟩ := Vq.1 hxm;have hL : ZH D (W9 L c) (zx n) = W9 L (fun k => if k = x.id then c k + 1 else c k) := by
     unfold ZH; rw [h1]; simp only [h2];rw [Yt (Qv c hd).ids h2, Qu hd.ids hu]
    have hDD : WB D (W9 L c) (zx n) = D := by unfold WB; rw [hb]; rfl
    have hI : uR D (W9 L c) (zx n) = x.id := by unfold uR; rw [hb]; rfl
    rw [hL, hDD, hI];have hxid : x.id = e.id := by rw [hxe]
    obtain ⟨M, i1, i2, i3, i4, i5, i6⟩ := Xz N l D L (fun k => if k = x.id then c k + 1 else c k) hd hD (fun y hy => by
     have := hu y hy;show 1 ≤ y.u + if y.id = x.id then c y.id + 1 else c y.id
     split <;> omega) (fun i hi => by
     show (if i = x.id then c i + 1 else c i) = 0;rw [if_neg fun h4 => hi e heL (by rw [h4, hxid])]; exact hc i hi)
    refine ⟨M, i1, i2, ?_, fun i hi => ?_, i5, i6⟩
    ·rw [i3];refine WR fun y _ => ?_
     show (if y.id = x.id then c y.id + 1 else c y.id) + _ = c y.id + _;rw [hcount];split <;> omega
    ·rcases List.mem_cons.1 hi with rfl | hi
     ·exact ⟨e, List.mem_append.2 (.inl heL), hxid.symm⟩
     ·exact i4 i hi
   | none =>
    have hL0 : ZH D (W9 L c) (zx n) = W9 L c ++ [⟨((hnd D : Nat) : Int), zx n, 1⟩] := by unfold ZH; rw [Wy hb]
    have hDD : WB D (W9 L c) (zx n) = ZB D (8 + (zx n).length) := by unfold WB; rw [hb]; rfl
    have hI : uR D (W9 L c) (zx n) = ((hnd D : Nat) : Int) := by unfold uR; rw [hb]; rfl
    have hno := yj D;have hidn : ∀ y ∈ L, y.id ≠ ((hnd D : Nat) : Int) := fun y hy h => by
     have := hD y hy;rw [h, hno] at this; cases this
    have hnn : ∀ y ∈ L, y.n ≠ zx n := fun y hy h => by
     have hm : (⟨y.id, y.n, y.u + c y.id⟩ : Nm) ∈ W9 L c := Vq.2 ⟨y, hy, rfl, by have := hu y hy; show y.u + c y.id ≠ 0; omega⟩;exact V5 (Wy hb) _ hm h
    have hL : ZH D (W9 L c) (zx n) = W9 (L ++ [⟨((hnd D : Nat) : Int), zx n, 0⟩]) (fun k => if k = ((hnd D : Nat) : Int) then 1 else c k) := by
     rw [hL0, Uu];congr 1
     ·refine WR fun y hy => ?_
      show c y.id = if y.id = ((hnd D : Nat) : Int) then 1 else c y.id
      rw [if_neg (hidn y hy)]
     ·unfold W9;simp [W9]
    rw [hL, hDD, hI];have hd2 : xw (L ++ [⟨((hnd D : Nat) : Int), zx n, 0⟩]) := hd.add hidn hnn;obtain ⟨M, i1, i2, i3, i4, i5, i6⟩ := Xz N l (ZB D (8 + (zx n).length)) (L ++ [⟨((hnd D : Nat) : Int), zx n, 0⟩]) (fun k => if k = ((hnd D : Nat) : Int) then 1 else c k) hd2 (fun y hy => by
     rcases List.mem_append.1 hy with hy | hy
     ·rw [Zt (hidn y hy)]; exact hD y hy
     ·rw [List.mem_singleton.1 hy]; show (Zg _ ((hnd D : Nat) : Int)).isSome = true; rw [wQ]; rfl) (fun y hy => by
     show 1 ≤ y.u + if y.id = ((hnd D : Nat) : Int) then 1 else c y.id
     rcases List.mem_append.1 hy with hy | hy
     ·rw [if_neg (hidn y hy)]; exact hu y hy
     ·rw [List.mem_singleton.1 hy]; simp) (fun i hi => by
     show (if i = ((hnd D : Nat) : Int) then 1 else c i) = 0;have h5 : ¬ i = ((hnd D : Nat) : Int) := fun h => hi ⟨((hnd D : Nat) : Int), zx n, 0⟩ (by simp) h.symm
     rw [if_neg h5];exact hc i fun y hy => hi y (List.mem_append.2 (.inl hy)))
    rw [List.append_assoc] at i2 i3 i4 i5;refine ⟨[⟨((hnd D : Nat) : Int), zx n, 0⟩] ++ M, fun y hy => ?_, i2, ?_, fun i hi => ?_, i5, fun y hy => ?_⟩
    ·rcases List.mem_append.1 hy with hy | hy
     ·rw [List.mem_singleton.1 hy]
     ·exact i1 y hy
    ·rw [i3];refine WR fun y _ => ?_
     show (if y.id = ((hnd D : Nat) : Int) then 1 else c y.id) + _ = c y.id + _;rw [hcount];by_cases h6 : y.id = ((hnd D : Nat) : Int)
     ·rw [if_pos h6, if_pos h6, h6, hc _ hidn]; omega
     ·rw [if_neg h6, if_neg h6]; omega
    ·rcases List.mem_cons.1 hi with rfl | hi
     ·exact ⟨⟨((hnd D : Nat) : Int), zx n, 0⟩, by simp, rfl⟩
     ·exact i4 i hi
    ·rcases List.mem_append.1 hy with hy | hy
     ·rw [List.mem_singleton.1 hy]; exact hno
     ·have h7 := i6 y hy;have hne : y.id ≠ ((hnd D : Nat) : Int) := fun h => by rw [h, wQ] at h7; cases h7
      rw [Zt hne] at h7; exact h7
  ·rw [if_neg hE];exact ⟨[], fun e he => by simp at he, by rw [List.append_nil]; exact hd, by simp, fun i hi => by simp at hi, by rw [List.append_nil]; exact hD, fun e he => by simp at he⟩
/-- all adds undone -/
theorem aO {N : Nat} {l : List Bs} {D : List (Option Bt)} {L : List Nm} (hd : xw L) (hp : Pos L) (hD : ∀ e ∈ L, (Zg D e.id).isSome = true) : drops (wH N D L l).L (wH N D L l).ids = L := by
 have h0 := Qt hp;obtain ⟨M, i1, i2, i3, i4, _, _⟩ := Xz N l D L (fun _ => 0) hd hD (fun e he => by have := hp e he; omega) (fun _ _ => rfl);rw [h0] at i3 i4;rw [i3, xU i2.ids i4, Uu, h0, jU (fun e he => by rw [i1 e he]), List.append_nil]
/-! ### what they cost -/
def wG (L : List Nm) : List Bs → List Bs → Nat
 | _, [] => 0
 | seen, n :: l => (if zx n ∈ seen ∨ (Vi L (zx n)).isSome = true then 0 else zY (8 + n.length)) + wG L (zx n :: seen) l
theorem uN {L : List Nm} : ∀ {l : List Bs} {s s' : List Bs}, (∀ m, m ∈ s ↔ m ∈ s') → wG L s l = wG L s' l
 | [], _, _, _ => rfl
 | n :: l, s, s', h => by
  unfold wG;rw [uN (s := zx n :: s) (s' := zx n :: s') fun m => by rw [List.mem_cons, List.mem_cons, h m]];simp only [h (zx n)]
theorem YP {L L' : List Nm} {x : Bs} (hL : ∀ m, (Vi L' m).isSome = true ↔ m = x ∨ (Vi L m).isSome = true) : ∀ {l : List Bs} {s : List Bs}, wG L' s l = wG L (x :: s) l
 | [], _ => rfl
 | n :: l, s => by
  unfold wG;rw [YP hL (l := l) (s := zx n :: s), uN (s := x :: zx n :: s) (s' := zx n :: x :: s) fun m => by simp only [List.mem_cons]; exact ⟨fun h => by rcases h with h | h | h <;> simp [h], fun h => by rcases h with h | h | h <;> simp [h]⟩];congr 1;have hiff : (zx n ∈ s ∨ (Vi L' (zx n)).isSome = true) ↔ (zx n ∈ x :: s ∨ (Vi L (zx n)).isSome = true) := by
   rw [hL, List.mem_cons];exact ⟨fun h => by rcases h with h | h | h <;> simp [h], fun h => by rcases h with (h | h) | h <;> simp [h]⟩
  simp only [hiff]
theorem yI (k : Nat) : 16 ≤ zY k := by
 unfold zY
 (repeat' split) <;> omega
theorem yU {N : Nat} : ∀ {l : List Bs} {D : List (Option Bt)} {L : List Nm}, (∀ n ∈ l, vF n = true) → Zc D ≤ N →
 (Zc D + wG L [] l ≤ N → (wH N D L l).e = 0 ∧ Zc (wH N D L l).D = Zc D + wG L [] l) ∧ (N < Zc D + wG L [] l → (wH N D L l).e = 4)
 | [], D, L, _, hN => ⟨fun _ => ⟨rfl, rfl⟩, fun h => absurd h (Nat.not_lt.2 hN)⟩
 | n :: l, D, L, hv, hN => by
  have hvn := hv n (by simp);have h255 := Wu hvn;have hfl := wV n;have hstep : wG L [zx n] l = wG (ZH D L (zx n)) [] l := (YP fun m => iB).symm;have hcc : cost (8 + (n.length : Int)) = (zY (8 + n.length) : Nat) := by
   unfold cost; rw [if_neg (by omega)]; congr 1
  have h16 := yI (8 + n.length);unfold wH wG;rw [hstep];have hnil : ¬ zx n ∈ ([] : List Bs) := by simp
  cases hb : (Vi L (zx n)).isSome with
  | true =>
   have hE : WA N D L n = 0 := by unfold WA; rw [if_neg (by rw [hvn]; decide), hb]; rfl
   have hDD : WB D L (zx n) = D := by unfold WB; rw [hb]; rfl
   rw [if_pos hE, if_pos (.inr rfl), Nat.zero_add, hDD];exact yU (fun m hm => hv m (List.mem_cons_of_mem _ hm)) hN
  | false =>
   have hEa : WA N D L n = if (N : Int) - Zc D < (zY (8 + n.length) : Nat) then 4 else 0 := by
    unfold WA ZA;rw [if_neg (by rw [hvn]; decide), hb, if_neg (by decide), hcc, if_neg (by omega)]
   have hDD : WB D L (zx n) = ZB D (8 + n.length) := by unfold WB; rw [hb, hfl]; rfl
   rw [if_neg (show ¬ (zx n ∈ ([] : List Bs) ∨ false = true) from by simp)];by_cases hroom : Zc D + zY (8 + n.length) ≤ N
   ·have hE : WA N D L n = 0 := by rw [hEa, if_neg (by omega)]
    rw [if_pos hE];have hu := qd D (8 + n.length);rw [← hDD] at hu;have ih := yU (N := N) (l := l) (D := WB D L (zx n)) (L := ZH D L (zx n)) (fun m hm => hv m (List.mem_cons_of_mem _ hm)) (by omega);rw [hu] at ih;refine ⟨fun h => ?_, fun h => ih.2 (by omega)⟩;obtain ⟨h1, h2⟩ := ih.1 (by omega);exact ⟨h1, by rw [← Nat.add_assoc]; exact h2⟩
   ·have hE : WA N D L n = 4 := by rw [hEa, if_pos (by omega)]
    rw [if_neg (by rw [hE]; decide)];exact ⟨fun h => by omega, fun _ => hE⟩
end Go.Proofs.YtejmbmenbailmaaGreat
namespace Go.Proofs.YtejmbmenbailmaaGreat
open Go.Xs
open Enc (enc)
structure RR where
 n : Bs
 t : Int
 c : Int
 ttl : Int
 d : Bs
instance : Enc RR := ⟨fun x => [sv x.n, .int .i64 x.t, .int .i64 x.c, .int .i64 x.ttl, sv x.d], 5, fun _ => rfl, fun _ => rfl⟩
structure St where
 name : Bs
 typ : Int
 kind : Int
 zone : Bs
 rrs : List RR
def St.v (s : St) (w : Value) : Value := .agg #[sv s.name, .int .i64 s.typ, w, .int .i64 s.kind, sv s.zone]
def Yq (a b : Bs) : Bool := vF a && vF b && (a.map low == b.map low)
def Xe (s : St) (r : RR) : Bool := Yq r.n s.name && decide (r.t = s.typ) && decide (r.c = 1) && ZI r.t r.d
def vM (s : St) : Bool := vF s.name && vF s.zone && decide (1 ≤ s.typ ∧ s.typ ≤ 65535 ∧ 0 ≤ s.kind ∧ s.kind ≤ 2) && decide (s.rrs.length ≤ 32) && (decide (0 < s.rrs.length) == decide (s.kind = 0)) && s.rrs.all (Xe s)
def U7 (d : Bs) (p : Pl) : Bs := (d.drop p.at_).take p.n
def Zr (r : RR) : List Bs := (prt r.t r.d).map (U7 r.d)
def Z6 (s : St) : List Bs := s.name :: s.zone :: (s.rrs.map Zr).flatten
def wW (l : List Int) : Int := l.foldr (· + ·) 0
def WY (r : RR) : Int := 2 + (r.d.length : Int) + wW ((prt r.t r.d).map fun p => 4 - (p.n : Int))
def Zn (s : St) : Int := 16 + wW (s.rrs.map WY)
def wD (s : St) : Int := if vM s = false then 1 else if 4096 < Zn s then 3 else 0
def xE (s : St) : Int := if wD s = 0 then Zn s else 0
/-- data with other bytes in the names' places -/
def splice (d : Bs) : Nat → List Pl → List Bs → Bs
 | a, p :: l, x :: xs => (d.drop a).take (p.at_ - a) ++ x ++ splice d (p.at_ + p.n) l xs
 | a, _, _ => d.drop a
def WI (t : Int) (d : Bs) : Bs := splice d 0 (prt t d) ((prt t d).map fun p => zx (U7 d p))
def ZE (s : St) : St := ⟨zx s.name, s.typ, s.kind, zx s.zone, s.rrs.map fun r => ⟨zx s.name, r.t, 1, 0, WI r.t r.d⟩⟩
/-- a number's bytes, the least first -/
def U5 : Nat → Nat → Bs
 | 0, _ => []
 | k + 1, n => UInt8.ofNat (n % 256) :: U5 k (n / 256)
theorem Zw : ∀ (k n : Nat), (U5 k n).length = k
 | 0, _ => rfl
 | k + 1, n => by show (U5 k (n / 256)).length + 1 = k + 1; rw [Zw k]
def U6 (i : Int) : Bs := U5 4 i.toNat
def WO (r : RR) (ids : List Int) : Bs := splice r.d 0 (prt r.t r.d) (ids.map U6)
def Uk : List RR → List Int → Bs
 | [], _ => []
 | r :: l, ids => U5 2 (WO r ids).length ++ WO r ids ++ Uk l (ids.drop (prt r.t r.d).length)
def Wd (s : St) (ids : List Int) : Bs := U6 (ids.getD 0 0) ++ U5 2 s.typ.toNat ++ U5 2 s.kind.toNat ++ U6 (ids.getD 1 0) ++ U5 4 0x5e7b10c5 ++ Uk s.rrs (ids.drop 2)
theorem V3 (a : Int) (l : List Int) : wW (a :: l) = a + wW l := rfl
theorem X3 (l m : List Int) : wW (l ++ m) = wW l + wW m := by
 induction l with
 | nil => show wW m = 0 + wW m; omega
 | cons a l ih => rw [List.cons_append, V3, V3, ih]; omega
theorem qO (t : Int) (d : Bs) : prt t d = [] ∨ ∃ a k b e, ZW t = some (a, k, b) ∧ a ≤ d.length ∧ yZ d k a = some (prt t d, e) ∧ d.length = e + b := by
 unfold prt;split
 ·next h =>
  cases hp : xH t d with
  | none => exact .inl rfl
  | some l => exact qR hp
 ·exact .inl rfl
/-- names are names -/
theorem qL {d : Bs} : ∀ {a : Nat} {l : List Pl}, Row d a l → ∀ p ∈ l, vF (U7 d p) = true ∧ (U7 d p).length = p.n ∧ p.at_ + p.n ≤ d.length
 | _, [], _, p, hp => by simp at hp
 | a, q :: l, ⟨h1, h2, h3⟩, p, hp => by
  rcases List.mem_cons.1 hp with rfl | hp
  ·subst h1;have hb := vg h2;rw [List.length_drop] at hb;exact ⟨(y7.1 h2).2, by unfold U7; rw [List.length_take, List.length_drop]; omega, by omega⟩
  ·exact qL h3 p hp
theorem Xt {t : Int} {d : Bs} {p : Pl} (hp : p ∈ prt t d) : vF (U7 d p) = true ∧ (U7 d p).length = p.n ∧ p.at_ + p.n ≤ d.length := by
 rcases qO t d with h | ⟨a, k, b, e, _, ha, hc, _⟩
 ·rw [h] at hp; simp at hp
 ·exact qL (kW hc ha) p hp
theorem XZ {s : St} (h : vM s = true) : ∀ n ∈ Z6 s, vF n = true := fun n hn => by
 unfold vM at h;simp only [Bool.and_eq_true] at h;obtain ⟨⟨⟨⟨⟨h1, h2⟩, _⟩, _⟩, _⟩, _⟩ := h;unfold Z6 at hn;rcases List.mem_cons.1 hn with rfl | hn
 ·exact h1
 rcases List.mem_cons.1 hn with rfl | hn
 ·exact h2
 obtain ⟨l, hl, hn⟩ := List.mem_flatten.1 hn;obtain ⟨r, _, rfl⟩ := List.mem_map.1 hl;unfold Zr at hn;obtain ⟨p, hp, rfl⟩ := List.mem_map.1 hn;exact (Xt hp).1
end Go.Proofs.YtejmbmenbailmaaGreat
namespace Go.Proofs.YtejmbmenbailmaaGreat
open Go.Xs
open Enc (enc)
/-! ### numbers beside names -/
inductive Al (L : List Nm) : List Int → List Bs → Prop
 | nil : Al L [] []
 | cons {i : Int} {n : Bs} {ids : List Int} {ns : List Bs} (h : ∃ e ∈ L, e.id = i ∧ e.n = n) (t : Al L ids ns) : Al L (i :: ids) (n :: ns)
theorem Al.mono {L L' : List Nm} (h : ∀ e ∈ L, ∃ e' ∈ L', e'.id = e.id ∧ e'.n = e.n) : ∀ {ids : List Int} {ns : List Bs}, Al L ids ns → Al L' ids ns
 | _, _, .nil => .nil
 | _, _, .cons ⟨e, he, h1, h2⟩ t => by
  obtain ⟨e', he', h3, h4⟩ := h e he;exact .cons ⟨e', he', h3.trans h1, h4.trans h2⟩ (Al.mono h t)
theorem aQ {D : List (Option Bt)} {L : List Nm} {n : Bs} {e : Nm} (he : e ∈ L) : ∃ e' ∈ ZH D L n, e'.id = e.id ∧ e'.n = e.n := by
 cases hb : Vi L n with
 | some x =>
  obtain ⟨j, h1, h2, rfl⟩ := vE hb;have : ZH D L x.n = reuse L j x (x.u + 1) := by unfold ZH; rw [h1]; simp only [h2]
  rw [this];exact WL h2 he
 | none =>
  have : ZH D L n = L ++ [⟨((hnd D : Nat) : Int), n, 1⟩] := by unfold ZH; rw [Wy hb]
  rw [this];exact ⟨e, List.mem_append.2 (.inl he), rfl, rfl⟩
theorem aP {D : List (Option Bt)} {L : List Nm} {n : Bs} : ∃ e ∈ ZH D L n, e.id = uR D L n ∧ e.n = n := by
 cases hb : Vi L n with
 | some x =>
  obtain ⟨j, h1, h2, rfl⟩ := vE hb;have : ZH D L x.n = reuse L j x (x.u + 1) := by unfold ZH; rw [h1]; simp only [h2]
  rw [this];obtain ⟨e, he, h3, h4⟩ := WL (u := x.u + 1) h2 (List.mem_of_getElem? h2);exact ⟨e, he, by rw [h3]; unfold uR; rw [hb]; rfl, h4⟩
 | none =>
  have : ZH D L n = L ++ [⟨((hnd D : Nat) : Int), n, 1⟩] := by unfold ZH; rw [Wy hb]
  rw [this];exact ⟨⟨((hnd D : Nat) : Int), n, 1⟩, by simp, by unfold uR; rw [hb]; rfl, rfl⟩
theorem uQ {N : Nat} {D : List (Option Bt)} {L : List Nm} {n : Bs} {l : List Bs} (h : WA N D L n = 0) : wH N D L (n :: l) = ⟨(wH N (WB D L (zx n)) (ZH D L (zx n)) l).D, (wH N (WB D L (zx n)) (ZH D L (zx n)) l).L, uR D L (zx n) :: (wH N (WB D L (zx n)) (ZH D L (zx n)) l).ids, (wH N (WB D L (zx n)) (ZH D L (zx n)) l).e⟩ := by
 rw [wH, if_pos h]
theorem yS {N : Nat} {D : List (Option Bt)} {L : List Nm} {n : Bs} {l : List Bs} (h : WA N D L n ≠ 0) : wH N D L (n :: l) = ⟨D, L, [], WA N D L n⟩ := by
 rw [wH, if_neg h]
theorem yT {N : Nat} : ∀ {l : List Bs} {D : List (Option Bt)} {L : List Nm} {e : Nm}, e ∈ L → ∃ e' ∈ (wH N D L l).L, e'.id = e.id ∧ e'.n = e.n
 | [], _, _, e, he => ⟨e, he, rfl, rfl⟩
 | n :: l, D, L, e, he => by
  by_cases hE : WA N D L n = 0
  ·rw [uQ hE];obtain ⟨e1, h1, h2, h3⟩ := aQ (D := D) (n := zx n) he;obtain ⟨e2, h4, h5, h6⟩ := yT (N := N) (l := l) (D := WB D L (zx n)) h1;exact ⟨e2, h4, h5.trans h2, h6.trans h3⟩
  ·rw [yS hE]; exact ⟨e, he, rfl, rfl⟩
theorem qg {N : Nat} : ∀ {l : List Bs} {D : List (Option Bt)} {L : List Nm}, (wH N D L l).e = 0 → Al (wH N D L l).L (wH N D L l).ids (l.map zx)
 | [], _, _, _ => .nil
 | n :: l, D, L, h => by
  by_cases hE : WA N D L n = 0
  ·rw [uQ hE] at h ⊢;obtain ⟨e1, h1, h2, h3⟩ := aP (D := D) (L := L) (n := zx n);obtain ⟨e2, h4, h5, h6⟩ := yT (N := N) (l := l) (D := WB D L (zx n)) h1;exact .cons ⟨e2, h4, h5.trans h2, h6.trans h3⟩ (qg h)
  ·rw [yS hE] at h; exact absurd h hE
/-! ### names that live by the numbers that are held -/
structure Kz (L : List Nm) (A : List Int) : Prop where
 dis : xw L
 us : ∀ e ∈ L, e.u = A.count e.id
 pos : Pos L
 ids : ∀ i ∈ A, ∃ e ∈ L, e.id = i
theorem Kz.nil : Kz [] [] := ⟨⟨List.nodup_nil, List.nodup_nil⟩, fun e he => by simp at he, Pos.nil, fun i hi => by simp at hi⟩
def ql (L : List Nm) : List Nm := L.map fun e => ⟨e.id, e.n, 0⟩
theorem iH (L : List Nm) : (ql L).map (·.id) = L.map (·.id) := by unfold ql; rw [List.map_map]; rfl
theorem oh (L : List Nm) : (ql L).map (·.n) = L.map (·.n) := by unfold ql; rw [List.map_map]; rfl
theorem Xj {L : List Nm} {e : Nm} (h : e ∈ ql L) : e.u = 0 ∧ ∃ x ∈ L, x.id = e.id ∧ x.n = e.n := by
 unfold ql at h;obtain ⟨x, hx, rfl⟩ := List.mem_map.1 h;exact ⟨rfl, x, hx, rfl, rfl⟩
theorem UO {L : List Nm} {e : Nm} (h : e ∈ L) : (⟨e.id, e.n, 0⟩ : Nm) ∈ ql L := List.mem_map.2 ⟨e, h, rfl⟩
theorem YZ {L : List Nm} (h : xw L) : xw (ql L) := ⟨by rw [iH]; exact h.ids, by rw [oh]; exact h.ns⟩
theorem Qs {c : Int → Nat} : ∀ {L : List Nm}, (∀ e ∈ L, e.u = c e.id) → Pos L → W9 (ql L) c = L
 | [], _, _ => rfl
 | e :: l, h, hp => by
  have h1 := h e (by simp);have h2 := hp e (by simp);show W9 (⟨e.id, e.n, 0⟩ :: ql l) c = _;rw [yP, Qs (fun x hx => h x (List.mem_cons_of_mem _ hx)) fun x hx => hp x (List.mem_cons_of_mem _ hx)];simp only;rw [if_neg (by omega), Nat.zero_add, ← h1]
theorem Kz.W9 {L : List Nm} {A : List Int} (h : Kz L A) : W9 (ql L) (fun k => A.count k) = L := Qs h.us h.pos
theorem Kz.of {M : List Nm} {A : List Int} (hd : xw M) (h0 : ∀ e ∈ M, e.u = 0) (hi : ∀ i ∈ A, ∃ e ∈ M, e.id = i) : Kz (Proofs.YtejmbmenbailmaaGreat.W9 M fun k => A.count k) A := by
 refine ⟨Qv _ hd, fun e he => ?_, fun e he => ?_, fun i hA => ?_⟩
 ·obtain ⟨x, hx, rfl, _⟩ := Vq.1 he;show x.u + A.count x.id = A.count x.id;rw [h0 x hx, Nat.zero_add]
 ·obtain ⟨x, hx, rfl, h1⟩ := Vq.1 he;exact Nat.pos_of_ne_zero h1
 ·obtain ⟨e, he, rfl⟩ := hi i hA;refine ⟨_, Vq.2 ⟨e, he, rfl, ?_⟩, rfl⟩;have := List.count_pos_iff.2 hA;show e.u + A.count e.id ≠ 0;omega
theorem Kz.adds {N : Nat} {l : List Bs} {D : List (Option Bt)} {L : List Nm} {A : List Int} (h : Kz L A) (hD : ∀ e ∈ L, (Zg D e.id).isSome = true) : Kz (wH N D L l).L (A ++ (wH N D L l).ids) := by
 obtain ⟨M, i1, i2, i3, i4, _, _⟩ := Xz N l D (ql L) (fun k => A.count k) (YZ h.dis) (fun e he => by
  obtain ⟨_, x, hx, h1, _⟩ := Xj he;rw [← h1]; exact hD x hx) (fun e he => by
  obtain ⟨_, x, hx, h1, _⟩ := Xj he;have := h.us x hx;have := h.pos x hx;show 1 ≤ e.u + A.count e.id;rw [← h1]; omega) (fun i hi => by
  refine List.count_eq_zero.2 fun hA => ?_
  obtain ⟨e, he, rfl⟩ := h.ids i hA;exact hi _ (UO he) rfl)
 rw [h.W9] at i3 i4;rw [i3];have hc : (fun k => A.count k + (wH N D L l).ids.count k) = fun k => (A ++ (wH N D L l).ids).count k := by
  funext k; rw [List.count_append]
 rw [hc];refine Kz.of i2 (fun e he => ?_) (fun i hi => ?_)
 ·rcases List.mem_append.1 he with he | he
  ·exact (Xj he).1
  ·exact i1 e he
 ·rcases List.mem_append.1 hi with hi | hi
  ·obtain ⟨e, he, h1⟩ := h.ids i hi;exact ⟨_, List.mem_append.2 (.inl (UO he)), h1⟩
  ·exact i4 i hi
/-- numbers are given back -/
theorem Kz.drops {L : List Nm} {A ids R : List Int} (h : Kz L A) (hA : ∀ k, A.count k = R.count k + ids.count k) : Kz (drops L ids) R ∧ ∀ e ∈ L, e.id ∈ R → ∃ e' ∈ Proofs.YtejmbmenbailmaaGreat.drops L ids, e'.id = e.id ∧ e'.n = e.n := by
 have hb := h.W9;have hmem : ∀ i, i ∈ R ∨ i ∈ ids → i ∈ A := fun i hi => by
  rw [← List.count_pos_iff, hA];rcases hi with hi | hi
  ·have := List.count_pos_iff.2 hi; omega
  ·have := List.count_pos_iff.2 hi; omega
 have hfun : (fun k => A.count k) = fun k => R.count k + ids.count k := funext hA
 have hd : Proofs.YtejmbmenbailmaaGreat.drops L ids = Proofs.YtejmbmenbailmaaGreat.W9 (ql L) (fun k => R.count k) := by
  rw [← hb, hfun];have := xU (ids := ids) (L := ql L) (c := fun k => R.count k) (YZ h.dis).ids (fun i hi => by
   obtain ⟨e, he, h1⟩ := h.ids i (hmem i (.inr hi));exact ⟨_, UO he, h1⟩)
  rw [hfun] at hb;rw [hb] at this ⊢;exact this
 rw [hd];refine ⟨Kz.of (YZ h.dis) (fun e he => (Xj he).1) (fun i hi => ?_), fun e he hR => ?_⟩
 ·obtain ⟨e, he, h1⟩ := h.ids i (hmem i (.inl hi));exact ⟨_, UO he, h1⟩
 ·refine ⟨_, Vq.2 ⟨_, UO he, rfl, ?_⟩, rfl, rfl⟩;have := List.count_pos_iff.2 hR;show 0 + R.count e.id ≠ 0;omega
theorem Kz.empty {L : List Nm} (h : Kz L []) : L = [] := by
 cases L with
 | nil => rfl
 | cons e l =>
  have h1 := h.us e (by simp);have h2 := h.pos e (by simp);simp at h1; omega
/-! ### arenas that are alike -/
def Uw (D D' : List (Option Bt)) : Prop := ∀ i, (Zg D i).map List.length = (Zg D' i).map List.length
theorem Uw.symm {D D' : List (Option Bt)} (h : Uw D D') : Uw D' D := fun i => (h i).symm
theorem Uw.trans {D D' D'' : List (Option Bt)} (h : Uw D D') (k : Uw D' D'') : Uw D D'' := fun i => (h i).trans (k i)
theorem Uw.refl (D : List (Option Bt)) : Uw D D := fun _ => rfl
theorem Uw.stand {D D' : List (Option Bt)} (h : Uw D D') (i : Int) : (Zg D i).isSome = (Zg D' i).isSome := by
 have := congrArg Option.isSome (h i);simpa using this
theorem Jo {D D' : List (Option Bt)} (h : Uw D D') (i : Nat) : ((D[i]?).join).map List.length = ((D'[i]?).join).map List.length := by
 have := h ((i : Int) + 1)
 rwa [Zz, Zz] at this
theorem kP {D D' : List (Option Bt)} (h : aR D = aR D') : Uw D D' := fun i => by
 unfold Zg;split
 ·have h1 := congrArg (fun l => (l[(i - 1).toNat]?).join) h;simp only [aR, List.getElem?_map] at h1;cases h2 : D[(i - 1).toNat]? with
  | none =>
   rw [h2] at h1;cases h3 : D'[(i - 1).toNat]? with
   | none => rfl
   | some y => rw [h3] at h1; simpa using h1
  | some x =>
   rw [h2] at h1;cases h3 : D'[(i - 1).toNat]? with
   | none => rw [h3] at h1; simpa using h1
   | some y => rw [h3] at h1; simpa using h1
 ·rfl
theorem uV {D D' : List (Option Bt)} (h : Uw D D') : hnd D = hnd D' := by
 refine jD (wK D) (fun i hi => ?_) ?_
 ·obtain ⟨b, hb⟩ := UU D i hi;have := Jo h i;rw [hb] at this;cases h2 : D'[i]? with
  | none => rw [h2] at this; simp at this
  | some x =>
   cases x with
   | none => rw [h2] at this; simp at this
   | some c => exact ⟨c, rfl⟩
 ·have := Jo h (hnd D - 1);rw [vB D] at this;cases h2 : (D'[hnd D - 1]?).join with
  | none => rfl
  | some c => rw [h2] at this; simp at this
theorem uT : ∀ {D : List (Option Bt)}, (∀ i : Nat, (D[i]?).join = none) → Zc D = 0
 | [], _ => rfl
 | a :: l, h => by
  have h0 := h 0;simp only [List.getElem?_cons_zero, Option.join_some] at h0;subst h0;have ih := uT (D := l) fun i => by simpa using h (i + 1)
  unfold Zc at ih ⊢;rw [List.map_cons, List.sum_cons, ih]; rfl
theorem qB : ∀ {D D' : List (Option Bt)}, (∀ i : Nat, ((D[i]?).join).map List.length = ((D'[i]?).join).map List.length) → Zc D = Zc D'
 | [], D', h => (uT (D := D') fun i => by
  have := h i;cases h2 : (D'[i]?).join with
  | none => rfl
  | some c => rw [h2] at this; simp at this).symm
 | a :: l, [], h => uT (D := a :: l) fun i => by
  have := h i;cases h2 : ((a :: l)[i]?).join with
  | none => rfl
  | some c => rw [h2] at this; simp at this
 | a :: l, b :: m, h => by
  have h0 := h 0;have ih := qB (D := l) (D' := m) fun i => by simpa using h (i + 1)
  simp only [List.getElem?_cons_zero, Option.join_some] at h0;unfold Zc at ih ⊢;rw [List.map_cons, List.sum_cons, List.map_cons, List.sum_cons, ih];congr 1;cases a with
  | none =>
   cases b with
   | none => rfl
   | some y => simp at h0
  | some x =>
   cases b with
   | none => simp at h0
   | some y =>
    have : x.length = y.length := by simpa using h0
    show zY x.length = zY y.length;rw [this]
theorem bZ {D D' : List (Option Bt)} (h : Uw D D') : Zc D = Zc D' := qB (Jo h)
theorem XP {D D' : List (Option Bt)} (h : Uw D D') (N : Nat) (n : Int) : ZA N D n = ZA N D' n := by unfold ZA; rw [bZ h]
theorem Yo {D D' : List (Option Bt)} (h : Uw D D') (m : Nat) : Uw (ZB D m) (ZB D' m) := fun i => by
 by_cases hi : i = ((hnd D : Nat) : Int)
 ·have h2 := wQ D' m;rw [← uV h] at h2;rw [hi, wQ, h2]
 ·rw [Zt hi, Zt (by rw [← uV h]; exact hi)]; exact h i
theorem xO (D : List (Option Bt)) (i : Int) : Zg (WH D i) i = none := by
 cases hb : Zg D i with
 | some b => exact YC hb
 | none => unfold WH; rw [hb, if_neg (by decide)]; exact hb
theorem j3 {D D' : List (Option Bt)} (h : Uw D D') (i : Int) : Uw (WH D i) (WH D' i) := fun k => by
 by_cases hk : k = i
 ·rw [hk, xO, xO]
 ·rw [ZV hk, ZV hk]; exact h k
theorem l5 {D : List (Option Bt)} {h : Int} {b Y : Bt} (hg : Zg D h = some b) (hl : Y.length = b.length) : Uw (D.set (h - 1).toNat (some Y)) D := kP (Xr hg hl)
theorem WS.stand {D : List (Option Bt)} {L : List Nm} {B : List (Int × Bs)} (h : WS D L B) : ∀ e ∈ L, (Zg D e.id).isSome = true := fun e he => by rw [h.blk e he]; rfl
theorem WS.empty {D : List (Option Bt)} (h : WS D [] []) : Zc D = 0 := by
 refine uT fun i => ?_
 cases hb : (D[i]?).join with
 | none => rfl
 | some b =>
  rw [← Zz] at hb;rcases h.all _ b hb with ⟨e, he, _⟩ | ⟨x, hx, _⟩
  ·simp at he
  ·simp at hx
/-- a block more, of others -/
theorem WS.alloc {D : List (Option Bt)} {L : List Nm} {B : List (Int × Bs)} (h : WS D L B) (m : Nat) : WS (ZB D m) L ((((hnd D : Nat) : Int), zeros m) :: B) := by
 have hno := yj D;have hid : ∀ e ∈ L, e.id ≠ ((hnd D : Nat) : Int) := fun x hx e => by
  have := h.blk x hx;rw [e, hno] at this; cases this
 refine ⟨h.dis, fun e he => by rw [Zt (hid e he)]; exact h.blk e he, fun x hx => ?_, fun i b hib => ?_, h.us, h.fold⟩
 ·rcases List.mem_cons.1 hx with rfl | hx
  ·exact ⟨wQ D m, hid⟩
  ·obtain ⟨h1, h2⟩ := h.oth x hx;have hne : x.1 ≠ ((hnd D : Nat) : Int) := fun e => by rw [e, hno] at h1; cases h1
   exact ⟨by rw [Zt hne]; exact h1, h2⟩
 ·by_cases hi : i = ((hnd D : Nat) : Int)
  ·exact .inr ⟨_, List.mem_cons_self, hi.symm⟩
  ·rw [Zt hi] at hib;rcases h.all i b hib with hx | ⟨x, hx, hxi⟩
   ·exact .inl hx
   ·exact .inr ⟨x, List.mem_cons_of_mem _ hx, hxi⟩
/-- handles of others are told once -/
def Hs (B : List (Int × Bs)) : Prop := (B.map (·.1)).Nodup
theorem WS.write {D : List (Option Bt)} {L : List Nm} {B : List (Int × Bs)} {k : Int} {b Y : Bs} (h : WS D L ((k, b) :: B)) (hh : Hs ((k, b) :: B)) : WS (D.set (k - 1).toNat (some Y)) L ((k, Y) :: B) := by
 obtain ⟨h1, h2⟩ := h.oth (k, b) (by simp);have hg : Zg D k = some b := h1;have hne : ∀ x ∈ B, x.1 ≠ k := fun x hx e => (List.nodup_cons.1 hh).1 (List.mem_map.2 ⟨x, hx, e⟩)
 refine ⟨h.dis, fun e he => by rw [Wv hg, if_neg (h2 e he)]; exact h.blk e he, fun x hx => ?_, fun i c hib => ?_, h.us, h.fold⟩
 ·rcases List.mem_cons.1 hx with rfl | hx
  ·exact ⟨by rw [Wv hg, if_pos rfl], h2⟩
  ·obtain ⟨h3, h4⟩ := h.oth x (List.mem_cons_of_mem _ hx);exact ⟨by rw [Wv hg, if_neg (hne x hx)]; exact h3, h4⟩
 ·rw [Wv hg] at hib;by_cases hi : i = k
  ·exact .inr ⟨_, List.mem_cons_self, hi.symm⟩
  ·rw [if_neg hi] at hib;rcases h.all i c hib with hx | ⟨x, hx, hxi⟩
   ·exact .inl hx
   ·rcases List.mem_cons.1 hx with rfl | hx
    ·exact absurd hxi.symm hi
    ·exact .inr ⟨x, List.mem_cons_of_mem _ hx, hxi⟩
/-- a block of others goes -/
theorem WS.free {D : List (Option Bt)} {L : List Nm} {B B' : List (Int × Bs)} {k : Int} {b : Bs} (h : WS D L B) (hm : (k, b) ∈ B) (hB : ∀ x, x ∈ B' ↔ x ∈ B ∧ x.1 ≠ k) : WS (WH D k) L B' := by
 obtain ⟨h1, h2⟩ := h.oth (k, b) hm;refine ⟨h.dis, fun e he => by rw [ZV (h2 e he)]; exact h.blk e he, fun x hx => ?_, fun i c hib => ?_, h.us, h.fold⟩
 ·obtain ⟨h3, h4⟩ := (hB x).1 hx;obtain ⟨h5, h6⟩ := h.oth x h3;exact ⟨by rw [ZV h4]; exact h5, h6⟩
 ·by_cases hi : i = k
  ·rw [hi, xO] at hib; cases hib
  ·rw [ZV hi] at hib;rcases h.all i c hib with hx | ⟨x, hx, hxi⟩
   ·exact .inl hx
   ·exact .inr ⟨x, (hB x).2 ⟨hx, by rw [hxi]; exact hi⟩, hxi⟩
end Go.Proofs.YtejmbmenbailmaaGreat
namespace Go.Proofs.YtejmbmenbailmaaGreat
open Go.Xs
open Enc (enc)
def X8 : Nat → List Bs → List Pl
 | _, [] => []
 | a, x :: xs => ⟨a, x.length⟩ :: X8 (a + x.length) xs
theorem Q8 : ∀ (a : Nat) (xs : List Bs), (X8 a xs).length = xs.length
 | _, [] => rfl
 | a, x :: xs => by show (X8 _ xs).length + 1 = xs.length + 1; rw [Q8]
theorem jq : ∀ {a : Nat} {xs zs : List Bs}, xs.map List.length = zs.map List.length → X8 a xs = X8 a zs
 | _, [], [], _ => rfl
 | _, [], _ :: _, h => by simp at h
 | _, _ :: _, [], h => by simp at h
 | a, x :: xs, y :: zs, h => by
  rw [List.map_cons, List.map_cons, List.cons.injEq] at h;show (⟨a, x.length⟩ : Pl) :: X8 (a + x.length) xs = ⟨a, y.length⟩ :: X8 (a + y.length) zs;rw [h.1, jq h.2]
theorem kX : ∀ (xs : List Bs) (P Z : Bs), (∀ x ∈ xs, vF x = true) → yZ (P ++ xs.flatten ++ Z) xs.length P.length = some (X8 P.length xs, P.length + xs.flatten.length)
 | [], P, Z, _ => rfl
 | x :: xs, P, Z, h => by
  have hx := h x (by simp);have hd : (P ++ (x :: xs).flatten ++ Z).drop P.length = x ++ (xs.flatten ++ Z) := by
   rw [List.flatten_cons, List.append_assoc, List.append_assoc, List.drop_left]
  have hl := eY (Z := xs.flatten ++ Z) hx;have ih := kX xs (P ++ x) Z (fun y hy => h y (List.mem_cons_of_mem _ hy));have e : P ++ (x :: xs).flatten ++ Z = P ++ x ++ xs.flatten ++ Z := by rw [List.flatten_cons, List.append_assoc P x]
  rw [List.length_append] at ih;show yZ _ (xs.length + 1) P.length = _;unfold yZ;rw [hd, hl, e];simp only [if_true, ih, Option.map_some];show some (_, _) = some (_, _);rw [List.flatten_cons, List.length_append, Nat.add_assoc]; rfl
theorem XU {d : Bs} : ∀ {k a : Nat} {l : List Pl} {e : Nat}, yZ d k a = some (l, e) → a ≤ d.length → ∃ xs : List Bs, xs.length = k ∧ (∀ x ∈ xs, vF x = true) ∧ l = X8 a xs ∧ d.drop a = xs.flatten ++ d.drop e ∧ l.map (U7 d) = xs ∧ e = a + xs.flatten.length
 | 0, a, l, e, h, ha => by
  obtain ⟨rfl, rfl⟩ := Prod.mk.inj (Option.some.inj h);exact ⟨[], rfl, fun x hx => by simp at hx, rfl, rfl, rfl, rfl⟩
 | k + 1, a, l, e, h, ha => by
  unfold yZ at h;split at h
  ·next h2 =>
   have hl : lead (d.drop a) = ((lead (d.drop a)).1, true) := by rw [← h2]
   have hp := vg hl;have hv := (y7.1 hl).2;rw [List.length_drop] at hp;cases hx : yZ d k (a + (lead (d.drop a)).1) with
   | none => rw [hx] at h; cases h
   | some x =>
    obtain ⟨l2, e2⟩ := x;rw [hx] at h;obtain ⟨rfl, rfl⟩ := Prod.mk.inj (Option.some.inj h);obtain ⟨xs, i1, i2, i3, i4, i5, i6⟩ := XU hx (by omega);have hlen : ((d.drop a).take (lead (d.drop a)).1).length = (lead (d.drop a)).1 := by rw [List.length_take, List.length_drop]; omega
    refine ⟨(d.drop a).take (lead (d.drop a)).1 :: xs, by rw [List.length_cons, i1], fun y hy => ?_, ?_, ?_, ?_, ?_⟩
    ·rcases List.mem_cons.1 hy with rfl | hy
     ·exact hv
     ·exact i2 y hy
    ·show _ = (⟨a, _⟩ : Pl) :: X8 _ xs;rw [hlen, i3]
    ·rw [List.flatten_cons, List.append_assoc, ← i4, ← List.drop_drop, List.take_append_drop]
    ·rw [List.map_cons, i5]; rfl
    ·rw [List.flatten_cons, List.length_append, hlen, i6, Nat.add_assoc]
  ·cases h
theorem Ui {t : Int} {x : Nat × Nat × Nat} (h : ZW t = some x) : t ≠ 1 ∧ t ≠ 28 ∧ t ≠ 16 ∧ 1 ≤ x.2.1 := by
 unfold ZW at h;split at h
 ·obtain rfl := Option.some.inj h; exact ⟨by omega, by omega, by omega, Nat.le_refl _⟩
 ·split at h
  ·obtain rfl := Option.some.inj h; exact ⟨by omega, by omega, by omega, Nat.le_refl _⟩
  ·split at h
   ·obtain rfl := Option.some.inj h; exact ⟨by omega, by omega, by omega, Nat.le_refl _⟩
   ·split at h
    ·obtain rfl := Option.some.inj h; exact ⟨by omega, by omega, by omega, by decide⟩
    ·cases h
/-- data in three parts: bytes, names, bytes -/
structure Form (t : Int) (d : Bs) (P : Bs) (xs : List Bs) (Z : Bs) : Prop where
 shape : ZW t = some (P.length, xs.length, Z.length)
 eq : d = P ++ xs.flatten ++ Z
 vF : ∀ x ∈ xs, vF x = true
theorem Form.xH {t : Int} {d P : Bs} {xs : List Bs} {Z : Bs} (h : Form t d P xs Z) : xH t d = some (X8 P.length xs) := by
 unfold Proofs.YtejmbmenbailmaaGreat.xH;rw [h.shape];have := kX xs P Z h.vF;rw [← h.eq] at this;have hl : d.length = P.length + xs.flatten.length + Z.length := by rw [h.eq, List.length_append, List.length_append]
 simp only;rw [if_neg (by omega), this];simp only;rw [if_pos hl]
theorem Form.ok {t : Int} {d P : Bs} {xs : List Bs} {Z : Bs} (h : Form t d P xs Z) (hd : d.length ≤ 1000) : ZI t d = true ∧ prt t d = X8 P.length xs := by
 have hk := Ui h.shape;have h1 : ZI t d = true := by
  unfold ZI;rw [if_neg (by omega), if_neg hk.1, if_neg hk.2.1, if_neg hk.2.2.1, h.xH]; rfl
 refine ⟨h1, ?_⟩;unfold prt;rw [if_pos h1, h.xH]; rfl
theorem wO {t : Int} {d : Bs} (h : ZI t d = true) : d.length ≤ 1000 := by
 unfold ZI at h;split at h
 ·cases h
 ·omega
theorem Kh {t : Int} {d : Bs} (h : ZI t d = true) {x : Nat × Nat × Nat} (hs : ZW t = some x) : ∃ P xs Z, Form t d P xs Z ∧ (prt t d).map (U7 d) = xs := by
 have hk := Ui hs;have h0 := h;have hlen := wO h;unfold ZI at h;rw [if_neg (by omega), if_neg hk.1, if_neg hk.2.1, if_neg hk.2.2.1] at h;have hprt : ∀ l, xH t d = some l → prt t d = l := fun l hl => by unfold prt; rw [if_pos h0, hl]; rfl
 obtain ⟨a, k, b⟩ := x;unfold xH at h hprt;rw [hs] at h hprt;simp only at h hprt;split at h
 ·cases h
 ·next ha =>
  rw [if_neg ha] at hprt;split at h
  ·next l e hp =>
   rw [hp] at hprt;split at h
   ·next he =>
    obtain ⟨xs, i1, i2, i3, i4, i5, i6⟩ := XU hp (by omega);have hpe := hprt l (by simp only; rw [if_pos he]);refine ⟨d.take a, xs, d.drop e, ⟨?_, ?_, i2⟩, by rw [hpe]; exact i5⟩
    ·rw [hs, i1, List.length_take, List.length_drop];congr 2
     ·omega
     ·congr 1; omega
    ·rw [List.append_assoc, ← i4, List.take_append_drop]
   ·cases h
  ·cases h
theorem uJ {t : Int} {d : Bs} (hs : ZW t = none) : prt t d = [] := by
 unfold prt xH;rw [hs];split <;> rfl
theorem Yn : ∀ (xs zs : List Bs) (P Z : Bs), zs.length = xs.length → splice (P ++ xs.flatten ++ Z) P.length (X8 P.length xs) zs = zs.flatten ++ Z
 | [], zs, P, Z, h => by
  have : zs = [] := List.length_eq_zero_iff.1 h;subst this;show (P ++ [] ++ Z).drop P.length = [] ++ Z;rw [List.append_nil, List.drop_left]; rfl
 | x :: xs, [], P, Z, h => by simp at h
 | x :: xs, y :: zs, P, Z, h => by
  have ih := Yn xs zs (P ++ x) Z (by simpa using h);have e : P ++ (x :: xs).flatten ++ Z = P ++ x ++ xs.flatten ++ Z := by rw [List.flatten_cons, List.append_assoc P x]
  rw [List.length_append] at ih;rw [e];show ((P ++ x ++ xs.flatten ++ Z).drop P.length).take (P.length - P.length) ++ y ++ splice (P ++ x ++ xs.flatten ++ Z) (P.length + x.length) (X8 (P.length + x.length) xs) zs = _;rw [ih, Nat.sub_self, List.take_zero, List.nil_append, List.flatten_cons, List.append_assoc]
theorem Form.splice {t : Int} {d P : Bs} {xs : List Bs} {Z : Bs} (h : Form t d P xs Z) {zs : List Bs} (hy : zs.length = xs.length) : splice d 0 (X8 P.length xs) zs = P ++ zs.flatten ++ Z := by
 have hk := (Ui h.shape).2.2.2;have := Yn xs zs P Z hy;rw [← h.eq] at this;cases xs with
 | nil => simp at hk
 | cons x xs =>
  cases zs with
  | nil => simp at hy
  | cons y zs =>
   have e1 : Proofs.YtejmbmenbailmaaGreat.splice d P.length (X8 P.length (x :: xs)) (y :: zs) = y ++ Proofs.YtejmbmenbailmaaGreat.splice d (P.length + x.length) (X8 (P.length + x.length) xs) zs := by
    show (d.drop P.length).take (P.length - P.length) ++ y ++ _ = _;rw [Nat.sub_self, List.take_zero]; rfl
   rw [e1] at this;show (d.drop 0).take (P.length - 0) ++ y ++ Proofs.YtejmbmenbailmaaGreat.splice d (P.length + x.length) (X8 (P.length + x.length) xs) zs = _;rw [List.append_assoc, this, List.drop_zero, Nat.sub_zero, List.append_assoc];congr 1;rw [h.eq, List.append_assoc, List.take_left]
/-- folded -/
theorem Form.fold {t : Int} {d P : Bs} {xs : List Bs} {Z : Bs} (h : Form t d P xs Z) : Form t (P ++ (xs.map zx).flatten ++ Z) P (xs.map zx) Z := by
 refine ⟨by rw [List.length_map]; exact h.shape, rfl, fun x hx => ?_⟩;obtain ⟨y, hy, rfl⟩ := List.mem_map.1 hx;rw [VE]; exact h.vF y hy
theorem YE (xs : List Bs) : (xs.map zx).map List.length = xs.map List.length := by
 rw [List.map_map]; exact List.map_congr_left fun x _ => wV x
theorem fT (xs zs : List Bs) (h : xs.map List.length = zs.map List.length) : xs.flatten.length = zs.flatten.length := by
 rw [List.length_flatten, List.length_flatten, h]
theorem Form.cut {t : Int} {d P : Bs} {xs : List Bs} {Z : Bs} (h : Form t d P xs Z) (hd : d.length ≤ 1000) : (prt t d).map (U7 d) = xs := by
 rw [(h.ok hd).2];have := kX xs P Z h.vF;rw [← h.eq] at this;obtain ⟨zs, _, _, i3, i4, i5, i6⟩ := XU this (by rw [h.eq, List.length_append, List.length_append]; omega);rw [i5];have hm : X8 P.length xs = X8 P.length zs := i3
 -- the same lengths, the same bytes
 have key : ∀ (a : Nat) (xs zs : List Bs) (Z Z' : Bs), X8 a xs = X8 a zs → xs.flatten ++ Z = zs.flatten ++ Z' → xs = zs := by
  intro a xs
  induction xs generalizing a with
  | nil =>
   intro zs Z Z' h1 _;cases zs with
   | nil => rfl
   | cons y zs => cases h1
  | cons x xs ih =>
   intro zs Z Z' h1 h2;cases zs with
   | nil => cases h1
   | cons y zs =>
    have h3 : (⟨a, x.length⟩ : Pl) :: X8 (a + x.length) xs = ⟨a, y.length⟩ :: X8 (a + y.length) zs := h1;obtain ⟨h4, h5⟩ := List.cons.inj h3;have hl : x.length = y.length := congrArg Pl.n h4;rw [List.flatten_cons, List.flatten_cons, List.append_assoc, List.append_assoc] at h2;obtain ⟨h6, h7⟩ := List.append_inj h2 hl;rw [h6, ih _ _ _ _ (by rw [hl] at h5; rw [← hl] at h5; rw [h5, hl]) h7]
 refine (key P.length xs zs Z (d.drop (P.length + xs.flatten.length)) hm ?_).symm;rw [← i4, h.eq, List.append_assoc, List.drop_left]
theorem Form.jE {t : Int} {d P : Bs} {xs : List Bs} {Z : Bs} (h : Form t d P xs Z) : (P ++ (xs.map zx).flatten ++ Z).length = d.length := by
 rw [h.eq, List.length_append, List.length_append, List.length_append, List.length_append, fT _ _ (YE xs)]
theorem yx {t : Int} {d P : Bs} {xs : List Bs} {Z : Bs} (h : Form t d P xs Z) (hd : d.length ≤ 1000) : WI t d = P ++ (xs.map zx).flatten ++ Z := by
 have h1 := h.cut hd;unfold WI;have : ((prt t d).map fun p => zx (U7 d p)) = xs.map zx := by rw [← h1, List.map_map]; rfl
 rw [this, (h.ok hd).2];exact h.splice (by rw [List.length_map])
theorem yw {t : Int} {d : Bs} (hs : ZW t = none) : WI t d = d := by
 unfold WI;rw [uJ hs]; rfl
/-- data folded is as good -/
theorem yu {t : Int} {d : Bs} (h : ZI t d = true) : ZI t (WI t d) = true ∧ prt t (WI t d) = prt t d ∧ (WI t d).length = d.length := by
 cases hs : ZW t with
 | none => rw [yw hs]; exact ⟨h, rfl, rfl⟩
 | some x =>
  have hd := wO h;obtain ⟨P, xs, Z, hf, _⟩ := Kh h hs;rw [yx hf hd];have hl := hf.jE;obtain ⟨h1, h2⟩ := hf.fold.ok (by omega);exact ⟨h1, by rw [h2, (hf.ok hd).2, jq (YE xs)], hl⟩
theorem YN {r : RR} {P : Bs} {xs : List Bs} {Z : Bs} (h : Form r.t r.d P xs Z) (hd : r.d.length ≤ 1000) {ids : List Int} (hi : ids.length = xs.length) : WO r ids = P ++ (ids.map U6).flatten ++ Z := by
 unfold WO;rw [(h.ok hd).2];exact h.splice (by rw [List.length_map, hi])
theorem YM {r : RR} (hs : ZW r.t = none) (ids : List Int) : WO r ids = r.d := by
 unfold WO;rw [uJ hs];cases ids <;> rfl
theorem Qh : ∀ (ids : List Int), (ids.map U6).flatten.length = 4 * ids.length
 | [] => rfl
 | i :: l => by rw [List.map_cons, List.flatten_cons, List.length_append, Qh l, List.length_cons, U6, Zw]; omega
theorem qF : ∀ (a : Nat) (xs : List Bs), wW ((X8 a xs).map fun p => 4 - (p.n : Int)) = 4 * (xs.length : Int) - (xs.flatten.length : Int)
 | _, [] => rfl
 | a, x :: xs => by
  show wW ((4 - (x.length : Int)) :: (X8 (a + x.length) xs).map fun p => 4 - (p.n : Int)) = _;rw [V3, qF, List.flatten_cons, List.length_append, List.length_cons]
  push_cast
  omega
theorem jN {r : RR} (h : ZI r.t r.d = true) {ids : List Int} (hi : ids.length = (prt r.t r.d).length) : ((WO r ids).length : Int) = WY r - 2 := by
 unfold WY;cases hs : ZW r.t with
 | none => rw [YM hs, uJ hs]; show (r.d.length : Int) = 2 + r.d.length + 0 - 2; omega
 | some x =>
  have hd := wO h;obtain ⟨P, xs, Z, hf, _⟩ := Kh h hs;have hp := (hf.ok hd).2;rw [hp, Q8] at hi;rw [YN hf hd hi, hp, qF, hf.eq];rw [List.length_append, List.length_append, List.length_append, List.length_append, Qh, hi]
  push_cast
  omega
theorem iZ {r : RR} (h : ZI r.t r.d = true) : 2 ≤ WY r := by
 have := jN h (ids := List.replicate (prt r.t r.d).length 0) (by simp);omega
theorem je : ∀ {l : List RR} {ids : List Int}, (∀ r ∈ l, ZI r.t r.d = true) → ids.length = ((l.map Zr).flatten).length → ((Uk l ids).length : Int) = wW (l.map WY)
 | [], _, _, _ => rfl
 | r :: l, ids, h, hi => by
  rw [List.map_cons, List.flatten_cons, List.length_append, Zr, List.length_map] at hi;have hd : WO r ids = WO r (ids.take (prt r.t r.d).length) := by
   unfold WO;have key : ∀ (d : Bs) (l : List Pl) (a : Nat) (xs : List Bs), splice d a l xs = splice d a l (xs.take l.length) := by
    intro d l
    induction l with
    | nil => intro a xs; cases xs <;> rfl
    | cons p l ih =>
     intro a xs;cases xs with
     | nil => rfl
     | cons x xs =>
      show _ = splice d a (p :: l) (x :: xs.take l.length);show (d.drop a).take (p.at_ - a) ++ x ++ splice d (p.at_ + p.n) l xs = (d.drop a).take (p.at_ - a) ++ x ++ splice d (p.at_ + p.n) l (xs.take l.length);rw [← ih]
   rw [key, List.map_take]
  have h1 := jN (h r (by simp)) (ids := ids.take (prt r.t r.d).length) (by rw [List.length_take]; omega);have ih := je (l := l) (ids := ids.drop (prt r.t r.d).length) (fun x hx => h x (List.mem_cons_of_mem _ hx)) (by rw [List.length_drop]; omega);show ((U5 2 (WO r ids).length ++ WO r ids ++ Uk l (ids.drop (prt r.t r.d).length)).length : Int) = _;rw [List.length_append, List.length_append, Zw, List.map_cons, V3, ← ih];rw [← hd] at h1
  push_cast
  omega
theorem xg {s : St} {ids : List Int} (h : ∀ r ∈ s.rrs, ZI r.t r.d = true) (hi : ids.length = (Z6 s).length) : ((Wd s ids).length : Int) = Zn s := by
 have h1 : ids.length = ((s.rrs.map Zr).flatten).length + 2 := by rw [hi]; rfl
 have := je (l := s.rrs) (ids := ids.drop 2) h (by rw [List.length_drop]; omega);unfold Wd Zn U6;simp only [List.length_append, Zw];rw [← this]
 push_cast
 omega
theorem Wn {s : St} (h : vM s = true) : ∀ r ∈ s.rrs, ZI r.t r.d = true ∧ r.t = s.typ := fun r hr => by
 unfold vM at h;simp only [Bool.and_eq_true] at h;have := List.all_eq_true.1 h.2 r hr;unfold Xe at this;simp only [Bool.and_eq_true, decide_eq_true_eq] at this;exact ⟨this.2, this.1.1.2⟩
theorem VL {s : St} (h : vM s = true) : vF s.name = true ∧ vF s.zone = true ∧ 1 ≤ s.typ ∧ s.typ ≤ 65535 ∧ 0 ≤ s.kind ∧ s.kind ≤ 2 ∧ s.rrs.length ≤ 32 ∧ (0 < s.rrs.length ↔ s.kind = 0) := by
 unfold vM at h;simp only [Bool.and_eq_true, decide_eq_true_eq, beq_iff_eq] at h;obtain ⟨⟨⟨⟨⟨h1, h2⟩, h3⟩, h4⟩, h5⟩, _⟩ := h;exact ⟨h1, h2, h3.1, h3.2.1, h3.2.2.1, h3.2.2.2, h4, decide_eq_decide.1 h5⟩
theorem fP {s : St} (h : vM s = true) : vM (ZE s) = true ∧ Zn (ZE s) = Zn s := by
 have hn := VL h;have hd := Wn h;constructor
 ·unfold vM ZE;simp only [Bool.and_eq_true, decide_eq_true_eq, beq_iff_eq, List.length_map];refine ⟨⟨⟨⟨⟨by rw [VE]; exact hn.1, by rw [VE]; exact hn.2.1⟩, ⟨hn.2.2.1, hn.2.2.2.1, hn.2.2.2.2.1, hn.2.2.2.2.2.1⟩⟩, hn.2.2.2.2.2.2.1⟩, decide_eq_decide.2 hn.2.2.2.2.2.2.2⟩, List.all_eq_true.2 fun r hr => ?_⟩;obtain ⟨x, hx, rfl⟩ := List.mem_map.1 hr;obtain ⟨h1, h2⟩ := hd x hx;unfold Xe Yq;simp only [Bool.and_eq_true, decide_eq_true_eq, beq_self_eq_true, VE, hn.1, and_self, true_and];exact ⟨⟨h2, trivial⟩, (yu h1).1⟩
 ·unfold Zn ZE;simp only [List.map_map];congr 2;refine List.map_congr_left fun r hr => ?_
  obtain ⟨h2, h3, h4⟩ := yu (hd r hr).1;show WY ⟨zx s.name, r.t, 1, 0, WI r.t r.d⟩ = WY r;unfold WY;simp only;rw [h3, h4]
end Go.Proofs.YtejmbmenbailmaaGreat
namespace Go.Proofs.YtejmbmenbailmaaGreat
open Go.Xs
open Enc (enc)
theorem JM (Y : Bs) (j k : Nat) : (⟨Y.toArray⟩ : ByteArray).extract j k = ⟨((Y.drop j).take (k - j)).toArray⟩ := by
 apply ByteArray.ext;rw [ByteArray.data_extract];apply Array.toList_inj.1;simp
theorem sV (Y Z : Bs) : (⟨Y.toArray⟩ : ByteArray) ++ (⟨Z.toArray⟩ : ByteArray) = ⟨(Y ++ Z).toArray⟩ := by
 apply ByteArray.ext;rw [ByteArray.data_append];simp
theorem K3 {E : Env} {x i : Operand} {Y : Bs} {j : Nat} {q : IntKind} (h1 : ev E x = sv Y) (h2 : ev E i = .int q (j : Int)) (h : j ≤ Y.length) : zl (ev E) (.sslc x (some i) none) = some (sv (Y.drop j)) := by
 rw [lM (s := ⟨Y.toArray⟩) h1 h2 h, qD, JM, List.take_of_length_le (by rw [List.length_drop]; omega)]
theorem nR {E : Env} {x i i' : Operand} {Y : Bs} {j k : Nat} {q q' : IntKind} (h1 : ev E x = sv Y) (h2 : ev E i = .int q (j : Int)) (h2' : ev E i' = .int q' (k : Int)) (h : j ≤ k ∧ k ≤ Y.length) : zl (ev E) (.sslc x (some i) (some i')) = some (sv ((Y.drop j).take (k - j))) := by
 rw [BK (s := ⟨Y.toArray⟩) h1 h2 h2' h, JM]
theorem lS {E : Env} {x y : Operand} {Y Z : Bs} (h1 : ev E x = sv Y) (h2 : ev E y = sv Z) (h : Y.length + Z.length ≤ 9223372036854775807) : zl (ev E) (.bin .add x y) = some (sv (Y ++ Z)) := by
 simp only [zl, h1, h2, Ws, QC, qD];rw [if_pos h, sV]
theorem Jj {Y Z : Bs} : (⟨Y.toArray⟩ : ByteArray) = ⟨Z.toArray⟩ ↔ Y = Z := ⟨fun h => by have := congrArg (fun b : ByteArray => b.data.toList) h; simpa using this, fun h => by rw [h]⟩
theorem Js {E : Env} {S : zo} {t u s q : Tmp} {v v' v'' v3 : Value} (hv : E t = v) (hv' : E u = v') (hv'' : E s = v'') (hv3 : E q = v3) : Xd Tryz.prog #[.tmp t, .tmp u, .tmp s, .tmp q] E S (.tuple #[v, v', v'', v3]) := fun fn F w tmps h _ he => by
 rw [← hv, ← hv', ← hv'', ← hv3, ← he];simp [results, h, Sem.run_bind, Sem.run, Result.andThen, pure]
/-- append(b, s...) -/
theorem nD {r : Option Nat} {n : Nat} {K : Env → zo → Prop} {E : Env} {S G : zo} {d : Option Tmp} {e bytes : Nat} {z : List Value} {s x : Operand} {v : Value} {L Y : Bs} {H : List Chunk} [hp : Pick S H G] (hs : ev E s = v) (hx : ev E x = sv Y) (hL : Zb e v L H)
 (hz : enc (0 : UInt8) = z) (hb : (L.length + Y.length) * bytes ≤ 140737488355328) (hl : L.length + Y.length ≤ 9223372036854775807)
 (h : ∀ v' H', Zb e v' (L ++ Y) H' → K (Zd d v' E) (H' :: G)) : YO Tryz.prog r n d (.app e 1 bytes z s x) K E S := by
 refine nC (α := UInt8) hs hx hL (fun F w _ => ⟨?_, ?_⟩) rfl (0 : UInt8) hz hb hl h
 ·show (pure (⟨Y.toArray⟩ : ByteArray).size : Sem Nat).run Tryz.prog w = _;simp [pure, qD]
 ·show (pure (((⟨Y.toArray⟩ : ByteArray).extract 0 Y.length).data.map fun b => Value.int .u8 b.toNat) : Sem (Array Value)).run Tryz.prog w = _;rw [JM, List.drop_zero, Nat.sub_zero, List.take_length];have : (Y.toArray.map fun b => Value.int .u8 b.toNat) = (cells Y).toArray := by
   apply Array.toList_inj.1;rw [uO]; simp
  rw [this]; rfl
end Go.Proofs.YtejmbmenbailmaaGreat
namespace Go.Proofs.YtejmbmenbailmaaGreat
open Go.Xs
open Enc (enc)
def l7 (t : Int) : Value := match ZW t with
 | some (a, k, b) => .tuple #[.int .i64 (a : Int), .int .i64 (k : Int), .int .i64 (b : Int), .bool true]
 | none => .tuple #[.int .i64 0, .int .i64 0, .int .i64 0, .bool false]
theorem qM (t : Int) : zQ Tryz.prog 139 #[.int .i64 t] [] (fun r S => r = l7 t ∧ S = []) := by
 refine zQ.forget (zm Tryz.DC (Nat.le_of_ble_eq_true rfl) ?_);unfold Tryz.Aw;unfold l7 ZW;refine ze (z8 (yp pC (yp pC (yp pC (yp pC (zf (za (ze (ze (z8 (yp (pI rfl) (zf (za (zw (ze (ze (z8 (yp (WG rfl rfl) (yp (pB rfl) (zf (za ?_)))))))))))))))))))));by_cases h1 : t = 2
 ·rw [decide_eq_true h1, if_pos (.inl h1)];refine zJ rfl (zu (za (zJ rfl (ze (z8 (yp pC (yp pC (yp pC (yp pC (zf (za (zI (bret (zV ?_))))))))))))));exact zH (Js rfl rfl rfl rfl) ⟨_, .of, rfl, rfl⟩
 rw [decide_eq_false h1];refine zA rfl (ze (z8 (yp (WG rfl rfl) (yp (pB rfl) (zf (za ?_))))));by_cases h2 : t = 5
 ·rw [decide_eq_true h2, if_pos (.inr (.inl h2))];refine zJ rfl (zu (za (zJ rfl (ze (z8 (yp pC (yp pC (yp pC (yp pC (zf (za (zI (bret (zV ?_))))))))))))));exact zH (Js rfl rfl rfl rfl) ⟨_, .of, rfl, rfl⟩
 rw [decide_eq_false h2];refine zA rfl (z8 (yp (WG rfl rfl) (yp (pB rfl) (zf (za ?_)))));by_cases h3 : t = 12
 ·rw [decide_eq_true h3, if_pos (.inr (.inr h3))];refine zJ rfl (ze (z8 (yp pC (yp pC (yp pC (yp pC (zf (za (zI (bret (zV ?_)))))))))));exact zH (Js rfl rfl rfl rfl) ⟨_, .of, rfl, rfl⟩
 rw [decide_eq_false h3, if_neg (show ¬ (t = 2 ∨ t = 5 ∨ t = 12) from by omega)];refine zA rfl (ze (z8 (yp (WG rfl rfl) (yp (pB rfl) (zf (za ?_))))));by_cases h4 : t = 15
 ·rw [decide_eq_true h4, if_pos h4];refine zJ rfl (ze (z8 (yp pC (yp pC (yp pC (yp pC (zf (za (zI (bret (zV ?_)))))))))));exact zH (Js rfl rfl rfl rfl) ⟨_, .of, rfl, rfl⟩
 rw [decide_eq_false h4, if_neg h4];refine zA rfl (ze (z8 (yp (WG rfl rfl) (yp (pB rfl) (zf (za ?_))))));by_cases h5 : t = 33
 ·rw [decide_eq_true h5, if_pos h5];refine zJ rfl (ze (z8 (yp pC (yp pC (yp pC (yp pC (zf (za (zI (bret (zV ?_)))))))))));exact zH (Js rfl rfl rfl rfl) ⟨_, .of, rfl, rfl⟩
 rw [decide_eq_false h5, if_neg h5];refine zA rfl (ze (z8 (yp (WG rfl rfl) (yp (pB rfl) (zf (za ?_))))));by_cases h6 : t = 6
 ·rw [decide_eq_true h6, if_pos h6];refine zJ rfl (ze (z8 (yp pC (yp pC (yp pC (yp pC (zf (za (zI (bret (zV ?_)))))))))));exact zH (Js rfl rfl rfl rfl) ⟨_, .of, rfl, rfl⟩
 rw [decide_eq_false h6, if_neg h6];refine zA rfl (zu (zS (za (ze (z8 (yp pC (yp pC (yp pC (yp pC (zf (za (zI ?_))))))))))));exact zH (Js rfl rfl rfl rfl) ⟨_, .of, rfl, rfl⟩
theorem jh (t : Int) (d : Bs) (hd : d.length < 2 ^ 40) : zQ Tryz.prog 97 #[.int .i64 t, sv d] [] (fun r S => ∃ v L H, r = .tuple #[v, .bool (xH t d).isSome] ∧ Zb 161 v (L : List Pl) H ∧ (∀ l, xH t d = some l → L = l) ∧ S = [H]) := by
 refine zQ.forget (zm Tryz.FR (Nat.le_of_ble_eq_true rfl) ?_);unfold Tryz.Hz;refine ze (z8 (yp pC (yp pC (zf (za (ze (z8 (yp (pI rfl) ?_))))))));refine zh (zk (qM t) rfl rfl fun r S' h => ?_);obtain ⟨rfl, rfl⟩ := h;have hno : ∀ {v : Value}, (xH t d) = none → v = .tuple #[.slice none 0 0, .bool false] → ∀ S, ∃ S'', zD S S'' ∧ ∃ w L H, v = .tuple #[w, .bool (xH t d).isSome] ∧ Zb 161 w (L : List Pl) H ∧ (∀ l, xH t d = some l → L = l) ∧ S'' = [H] := fun h hv S => ⟨[[]], ⟨S.flatten, by simp⟩, _, [], [], by rw [h]; exact hv, .nil, fun l hl => by (rw [h] at hl; cases hl), rfl⟩
 unfold l7;cases hs : ZW t with
 | none =>
  have hp : xH t d = some [] := by unfold xH; rw [hs]
  simp only;refine yp (pU rfl) (yp (pExt rfl rfl) (yp (pExt rfl rfl) (yp (pExt rfl rfl) (yp (pExt rfl rfl) (yp (pI rfl) (yp (pI rfl) (yp (pI rfl) (yp (pB rfl) (zf (za (ze (ze (z8 (yp (pB rfl) (yp (Zi rfl) (zf (za (zJ rfl (ze (z8 (yp pC (yp pC (zf (za (zI (zV ?_))))))))))))))))))))))))));exact zH (pG rfl rfl) ⟨[[]], ⟨[], by simp⟩, _, [], [], by rw [hp]; rfl, .nil, fun l hl => by rw [hp] at hl; exact Option.some.inj hl, rfl⟩
 | some x =>
  obtain ⟨a, k, b⟩ := x;have hp : xH t d = if d.length < a then none else match yZ d k a with
   | some (l, e) => if d.length = e + b then some l else none
   | none => none := by unfold xH; rw [hs]; try rfl
  have hab : a ≤ 6 ∧ k ≤ 2 ∧ b ≤ 20 := xF hs;simp only;refine yp (pU rfl) (yp (pExt rfl rfl) (yp (pExt rfl rfl) (yp (pExt rfl rfl) (yp (pExt rfl rfl) (yp (pI rfl) (yp (pI rfl) (yp (pI rfl) (yp (pB rfl) (zf (za (ze (ze (z8 (yp (pB rfl) (yp (Zi rfl) (zf (za (zA rfl (zu (za (ze (ze (z8 (yp (pT rfl) (yp (uK rfl) (yp (pI rfl) (yp (ZT rfl rfl) (zf (za ?_)))))))))))))))))))))))))))));rw [qD];by_cases h1 : d.length < a
  ·rw [decide_eq_true (show (d.length : Int) < (a : Int) from by omega)];rw [if_pos h1] at hp;refine zJ rfl (ze (z8 (yp pC (yp pC (zf (za (zI (zV ?_))))))));exact zH (pG rfl rfl) (hno hp rfl _)
  rw [decide_eq_false (show ¬ (d.length : Int) < (a : Int) from by omega)];rw [if_neg h1] at hp;refine zA rfl (zu (za (ze (z8 (yp (pI rfl) (yp (pI rfl) (zf (za (ze (ze (z8 (yp (pI rfl) (yp pC (zf (za (zw ?_))))))))))))))));refine Z8 (σ := Nat) (fun i E S => ∃ (v : Value) (L : List Pl) (H : List Chunk) (e : Nat), Has E [(1, sv d), (8, .int .i64 (b : Int)), (10, .int .i64 (e : Int)), (27, .int .i64 (k : Int)), (28, .int .i64 (i : Int))] ∧ E 4 = v ∧ Zb 161 v L H ∧ L.length = i ∧ i ≤ k ∧ e ≤ d.length ∧ yZ d k a = (yZ d (k - i) e).map (fun x => (L ++ x.1, x.2)) ∧ zD S [H]) (fun i => k - i) 0
   ⟨_, [], [], a, ⟨rfl, rfl, rfl, rfl, rfl, trivial⟩, rfl, .nil, rfl, Nat.zero_le _, by omega, by cases yZ d (k - 0) a <;> rfl, ⟨[], by simp⟩⟩ fun i E S ⟨v, L, H, e, hE, hE4, hL, hLl, hi, he, hx, hJ⟩ => ?_
  obtain ⟨la, lc, rfl⟩ := hL.isSlice;have hE2 : Has E [(1, sv d), (4, .slice la L.length lc), (8, .int .i64 (b : Int)), (10, .int .i64 (e : Int)), (27, .int .i64 (k : Int)), (28, .int .i64 (i : Int))] := ⟨hE.1, hE4, hE.2⟩
  clear hE hE4;obtain ⟨E0, e0⟩ := zy hE2; subst e0; clear hE2;refine zq hJ (ze (z8 (yp (ZT rfl rfl) (zf (za (ze ?_))))));refine zR rfl (fun h2 => ?_) (fun h2 => ?_)
  ·obtain ⟨m, hm⟩ : ∃ m, k - i = m + 1 := ⟨k - i - 1, by omega⟩
   rw [hm, yZ] at hx;refine zu (za (ze (zw (ze (z8 (yp (pT rfl) (yp (pI rfl) (yp (K3 (Y := d) rfl rfl he) ?_))))))))
   skip
   refine zh (zk (eB (d.drop e) (by rw [List.length_drop]; omega)) rfl rfl fun r S' h => ?_);obtain ⟨rfl, rfl⟩ := h;cases hb : (lead (d.drop e)).2 with
   | false =>
    rw [hb, if_neg (by decide)] at hx;rw [hx] at hp;refine yp (pU rfl) (yp (pExt rfl rfl) (yp (pExt rfl rfl) (yp (pI rfl) (yp (pB rfl) (zf (za (ze (ze (z8 (yp (pB rfl) (yp (Zi rfl) (zf (za (zJ rfl (ze (z8 (yp pC (yp pC (zf (za (zI (zV (bret (zV (zV (bret (zV ?_)))))))))))))))))))))))))));exact zH (pG rfl rfl) (hno hp rfl _)
   | true =>
    rw [hb, if_pos rfl] at hx;have hl := vg (show lead (d.drop e) = ((lead (d.drop e)).1, true) from by rw [← hb]);rw [List.length_drop] at hl;generalize (lead (d.drop e)).1 = n at hx hl;refine yp (pU rfl) (yp (pExt rfl rfl) (yp (pExt rfl rfl) (yp (pI rfl) (yp (pB rfl) (zf (za (ze (ze (z8 (yp (pB rfl) (yp (Zi rfl) (zf (za (zA rfl (zu (za (ze (z8 (yp (pS rfl) (yp (pI rfl) (yp (pI rfl) (yp (uZ (Ud rfl) (Ud rfl)) ?_))))))))))))))))))))));refine zh (WW (⟨e, n⟩ : Pl) rfl rfl (by decide) (by decide) rfl fun p43 => ?_);refine zh (VB (Y := [(⟨e, n⟩ : Pl)]) rfl rfl hL (.lit (by repeat (first | exact List.mem_cons_self | apply List.mem_cons_of_mem)) rfl) rfl (⟨0, 0⟩ : Pl) rfl (by simp; omega) (by simp; omega) fun v2 H2 hL2 => ?_);obtain ⟨la2, lc2, rfl⟩ := hL2.isSlice;refine yp (pS rfl) (zf (za (z8 (yp (pI rfl) (yp (pI rfl) (yp (Zl rfl rfl (by omega)) (yp (pI rfl) (zf (zS (za (z8 (yp (Zh rfl rfl (by omega)) (yp (pI rfl) (zf (za ?_)))))))))))))));refine ⟨i + 1, ⟨.slice la2 (L ++ [(⟨e, n⟩ : Pl)]).length lc2, L ++ [⟨e, n⟩], H2, e + n, ⟨rfl, rfl, rfl, rfl, rfl, trivial⟩, rfl, hL2, by simp [hLl], by omega, by omega, ?_, .of⟩, by omega⟩;rw [hx, Option.map_map, show k - (i + 1) = m from by omega];congr 1;funext x;simp
  ·obtain rfl : i = k := by omega
   rw [Nat.sub_self, yZ] at hx;rw [hx] at hp;simp only [Option.map_some, List.append_nil] at hp;refine zZ (zF (zF (Z0 (za (ze (z8 (yp (pS rfl) (yp (pT rfl) (yp (uK rfl) (yp (pI rfl) ?_))))))))));rw [qD];refine yp (ZJ rfl rfl (by omega)) (yp (pI rfl) (yp (WG rfl rfl) (yp (pS rfl) (yp (pB rfl) (zf (za (zI ?_)))))));by_cases h3 : d.length = e + b
   ·rw [if_pos h3] at hp;rw [decide_eq_true (show (d.length : Int) - (e : Int) = (b : Int) from by omega)];exact zH (pG rfl rfl) ⟨_, .of, _, L, H, by rw [hp]; rfl, hL, fun l hl => by rw [hp] at hl; exact Option.some.inj hl, rfl⟩
   ·rw [if_neg h3] at hp;rw [decide_eq_false (show ¬ (d.length : Int) - (e : Int) = (b : Int) from by omega)];exact zH (pG rfl rfl) ⟨_, .of, _, L, H, by rw [hp]; rfl, hL, fun l hl => by (rw [hp] at hl; cases hl), rfl⟩
theorem bM {f : Nat} {d : Bs} {a : Nat} {b : UInt8} (h : d[a]? = some b) : iP (f + 1) d a = iP f d (a + 1 + b.toNat) := by rw [iP, h]
theorem qC {f : Nat} {d : Bs} {a : Nat} (h : d.length ≤ a) : iP (f + 1) d a = (a == d.length) := by rw [iP, List.getElem?_eq_none h]
theorem IZ (Y : Bs) : decide ((⟨Y.toArray⟩ : ByteArray) = ⟨#[]⟩) = decide (Y = []) := by
 refine decide_eq_decide.2 ?_;exact Jj (Z := [])
theorem lF (d : Bs) (hd : d.length < 2 ^ 40) : zQ Tryz.prog 138 #[sv d] [] (fun r S => r = .bool (txt d) ∧ S = []) := by
 refine zQ.forget (zm Tryz.DF (Nat.le_of_ble_eq_true rfl) ?_);unfold Tryz.Ay;refine ze (z8 (yp pC (zf (za (ze (ze (z8 (yp (pT rfl) (yp (BX rfl rfl) (zf (za ?_)))))))))));rw [IZ];by_cases h0 : d = []
 ·rw [decide_eq_true h0];subst h0;refine zJ rfl (ze (z8 (yp pC (zf (za (zI (zV ?_)))))));exact zH (rB rfl) ⟨_, .of, rfl, rfl⟩
 rw [decide_eq_false h0];have ht : txt d = iP (d.length + 1) d 0 := by unfold txt; rw [show (d != []) = true from by simpa using h0]; rfl
 refine zA rfl (zu (za (ze (zw ?_))));refine Z8 (σ := Nat) (fun a E S => Has E [(0, sv (d.drop a))] ∧ a ≤ d.length ∧ (∃ f, txt d = iP f d a ∧ d.length + 1 ≤ f + a) ∧ zD S []) (fun a => d.length - a) 0 ⟨⟨rfl, trivial⟩, Nat.zero_le _, ⟨_, ht, Nat.le_refl _⟩, .of⟩ fun a E S ⟨hE, ha, ⟨f, hf, hfl⟩, hJ⟩ => ?_
 obtain ⟨f, rfl⟩ : ∃ g, f = g + 1 := ⟨f - 1, by omega⟩
 obtain ⟨E0, e0⟩ := zy hE; subst e0; clear hE;refine zq hJ ?_;have hdl : (d.drop a).length = d.length - a := List.length_drop;refine ze (ze (z8 (yp (pT rfl) (yp (FL rfl rfl) (zf (za ?_))))));rw [IZ];by_cases h1 : a < d.length
 ·have hy : d[a]? = some d[a] := List.getElem?_eq_getElem h1;have hy0 : (d.drop a)[0]? = some d[a] := by rw [List.getElem?_drop]; exact hy
  generalize d[a] = b at hy hy0;have hb := b.toNat_lt;rw [decide_eq_false (show ¬ d.drop a = [] from fun h => by rw [h] at hdl; simp at hdl; omega)];rw [bM hy] at hf;refine zJ rfl (zu (za (zw (ze (z8 (yp (pT rfl) (yp (BP (k := 0) rfl rfl hy0) (yp (lQ rfl) (yp (Vb rfl rfl (by omega)) (yp (pI rfl) (zf (za (ze (ze (z8 (yp (pI rfl) (yp (pT rfl) (yp (uK rfl) (yp (uz rfl rfl) (zf (za ?_)))))))))))))))))))));rw [qD];by_cases h2 : a + 1 + b.toNat ≤ d.length
  ·rw [decide_eq_false (show ¬ ((d.drop a).length : Int) < 1 + (b.toNat : Int) from by omega)];refine zA rfl (zu (za (z8 (yp (pT rfl) (yp (pI rfl) (yp (K3 (Y := d.drop a) (j := 1 + b.toNat) rfl rfl (by omega)) ?_))))));rw [List.drop_drop, show a + (1 + b.toNat) = a + 1 + b.toNat from by omega];refine yp (pT rfl) (zf (zS (za ?_)));exact ⟨a + 1 + b.toNat, ⟨⟨rfl, trivial⟩, h2, ⟨f, hf, by omega⟩, .of⟩, by omega⟩
  ·rw [decide_eq_true (show ((d.drop a).length : Int) < 1 + (b.toNat : Int) from by omega)];obtain ⟨f, rfl⟩ : ∃ g, f = g + 1 := ⟨f - 1, by omega⟩
   rw [qC (by omega)] at hf;refine zJ rfl (ze (z8 (yp pC (zf (za (zI (zV (bret (zV (bret (zV ?_)))))))))));exact zH (rB rfl) ⟨_, .of, by rw [hf, beq_eq_false_iff_ne.2 (by omega)], rfl⟩
 ·have hda : d.drop a = [] := List.drop_eq_nil_of_le (by omega);rw [decide_eq_true hda];rw [qC (by omega)] at hf;refine zA rfl (zZ (zF (zF (Z0 (za (ze (z8 (yp pC (zf (za (zI ?_)))))))))));exact zH (rB rfl) ⟨_, .of, by rw [hf, beq_iff_eq.2 (by omega)], rfl⟩
theorem Ey (n : Nat) : decide ((n : Int) = 4) = (n == 4) := by
 by_cases h : n = 4
 ·rw [decide_eq_true (by omega), beq_iff_eq.2 h]
 ·rw [decide_eq_false (by omega), beq_eq_false_iff_ne.2 h]
theorem sP (n : Nat) : decide ((n : Int) = 16) = (n == 16) := by
 by_cases h : n = 16
 ·rw [decide_eq_true (by omega), beq_iff_eq.2 h]
 ·rw [decide_eq_false (by omega), beq_eq_false_iff_ne.2 h]
theorem dz (t : Int) (d : Bs) (hd : d.length < 2 ^ 40) : zQ Tryz.prog 95 #[.int .i64 t, sv d] [] (fun r S => r = .bool (ZI t d) ∧ S = []) := by
 refine zQ.forget (zm Tryz.FU (Nat.le_of_ble_eq_true rfl) ?_);unfold Tryz.x95;refine ze (z8 (yp pC (zf (za (ze (z8 (yp (pI rfl) (yp (pT rfl) ?_))))))));refine zh (zk (jh t d hd) rfl rfl fun r S' h => ?_);obtain ⟨v, L, H, rfl, hL, _, rfl⟩ := h;obtain ⟨la, lc, rfl⟩ := hL.isSlice;unfold ZI;refine yp (pU rfl) (yp (pExt rfl rfl) (yp (pExt rfl rfl) (yp (pS rfl) (yp (pB rfl) (zf (za (ze (zw (ze (z8 (yp (pT rfl) (yp (uK rfl) (yp (uz rfl rfl) (yp (pB rfl) (zf (za ?_))))))))))))))));rw [qD];by_cases h1 : 1000 < d.length
 ·rw [decide_eq_true (show (1000 : Int) < (d.length : Int) from by omega), if_pos h1];refine zJ rfl (ze (z8 (yp pC (zf (za (zI (bret (zV ?_))))))));exact zH (rB rfl) ⟨[], ⟨H, by simp⟩, rfl, rfl⟩
 rw [decide_eq_false (show ¬ (1000 : Int) < (d.length : Int) from by omega), if_neg h1];refine zA rfl (ze (z8 (yp (pI rfl) (yp (WG rfl rfl) (yp (pB rfl) (zf (za ?_)))))));by_cases h2 : t = 1
 ·rw [decide_eq_true h2, if_pos h2];refine zJ rfl (ze (z8 (yp (pT rfl) (yp (uK rfl) (yp (WG rfl rfl) (yp (pB rfl) (zf (za (zI (bret (zV ?_)))))))))));rw [qD]
  skip
  exact zH (rB rfl) ⟨[], ⟨H, by simp⟩, by rw [Ey], rfl⟩
 rw [decide_eq_false h2, if_neg h2];refine zA rfl (ze (z8 (yp (pI rfl) (yp (WG rfl rfl) (yp (pB rfl) (zf (za ?_)))))));by_cases h3 : t = 28
 ·rw [decide_eq_true h3, if_pos h3];refine zJ rfl (ze (z8 (yp (pT rfl) (yp (uK rfl) (yp (WG rfl rfl) (yp (pB rfl) (zf (za (zI (bret (zV ?_)))))))))));rw [qD]
  skip
  exact zH (rB rfl) ⟨[], ⟨H, by simp⟩, by rw [sP], rfl⟩
 rw [decide_eq_false h3, if_neg h3];refine zA rfl (ze (z8 (yp (pI rfl) (yp (WG rfl rfl) (yp (pB rfl) (zf (za ?_)))))));by_cases h4 : t = 16
 ·rw [decide_eq_true h4, if_pos h4];refine zJ rfl (ze (z8 (yp (pT rfl) ?_)));refine zh (zk (lF d hd) rfl rfl fun r S' h => ?_);obtain ⟨rfl, rfl⟩ := h;refine yp (pB rfl) (zf (za (zI (bret (zV ?_)))));exact zH (rB rfl) ⟨[], ⟨H, by simp⟩, rfl, rfl⟩
 rw [decide_eq_false h4, if_neg h4];refine zA rfl (zu (zS (za (ze (z8 (yp (pB rfl) (yp (pB rfl) (zf (za (zI ?_))))))))));exact zH (rB rfl) ⟨[], ⟨H, by simp⟩, rfl, rfl⟩
/-! ### the walk over the names in data -/
def pv (p : Pl) : Array Value := #[.int .i64 (p.at_ : Int), .int .i64 (p.n : Int)]
abbrev JB (bt bd : Nat) (t : Int) (d : Bs) : zo := [[(bt, .cells #[.int .i64 t] 3)], [(bd, .cells #[sv d] 9)]]
theorem kT (t : Int) (d : Bs) : zQ Tryz.prog 48 #[.int .i64 t, sv d] [] (fun r S => ∃ bt bd, r = .func (.func 96) #[] #[.pointer (some ⟨bt, 0, none⟩), .pointer (some ⟨bd, 0, none⟩)] ∧ S = JB bt bd t d) := by
 refine zQ.forget (zm Tryz.Gw (Nat.le_of_ble_eq_true rfl) ?_);unfold Tryz.Iz;refine ze (z8 ?_);refine zh (iD (Ud rfl) fun p2 => ?_);refine zh (iD (oV rfl) fun p3 => ?_);refine yp pC (zf (za (ze (z8 (yp (BU (J7 rfl) (J7 rfl)) (yp (pF rfl) (zf (za (zI ?_)))))))));exact zH (rF rfl) ⟨JB p2 p3 t d, ⟨[], by simp; exact List.Perm.swap _ _ _⟩, p2, p3, rfl, rfl⟩
theorem mJ {bt bd : Nat} {t : Int} {d : Bs} {S0 : zo} (hd : d.length < 2 ^ 40) :
 yX Tryz.prog 96 #[] #[.pointer (some ⟨bt, 0, none⟩), .pointer (some ⟨bd, 0, none⟩)] (JB bt bd t d) S0
  (fun pre x => pre ++ [x] <+: (prt t d).map pv) (fun xs => xs = (prt t d).map pv) := by
 intro l c J Jx hJ0 hround;have e0 : (#[] ++ #[.func (.yield l) #[] #[]] ++ #[.pointer (some ⟨bt, 0, none⟩), .pointer (some ⟨bd, 0, none⟩)] : Array Value) = #[.func (.yield l) #[] #[], .pointer (some ⟨bt, 0, none⟩), .pointer (some ⟨bd, 0, none⟩)] := rfl;rw [e0];refine zQ.forget (zm Tryz.FT (Nat.le_of_ble_eq_true rfl) ?_);unfold Tryz.x96;refine ze (ze (z8 ?_));refine zh (zC rfl rfl ?_);refine zh (zC rfl rfl ?_);refine zh (zk (dz t d hd) rfl rfl fun r S' h => ?_);obtain ⟨rfl, rfl⟩ := h;cases hok : ZI t d with
 | false =>
  have hp : prt t d = [] := by unfold prt; rw [if_neg (by rw [hok]; decide)]
  refine yp (Zi rfl) (zf (za (zJ rfl (zI (zV ?_)))));exact zH wu ⟨[c] :: S0, ⟨(JB bt bd t d).flatten, by simp; exact List.perm_append_comm (l₁ := [_, _])⟩, .inl ⟨[], by rw [hp]; rfl, hJ0⟩⟩
 | true =>
  have hsome : ∃ l, xH t d = some l := by
   have h0 := hok;unfold ZI at h0;cases hs : ZW t with
   | none => exact ⟨[], by unfold xH; rw [hs]⟩
   | some x =>
    have hk := j4 hs;split at h0
    ·cases h0
    ·rw [if_neg hk.1, if_neg hk.2.1, if_neg hk.2.2] at h0;exact Option.isSome_iff_exists.1 h0
  obtain ⟨L0, hp0⟩ := hsome;have hp : prt t d = L0 := by unfold prt; rw [if_pos hok, hp0]; rfl
  refine yp (Zi rfl) (zf (za (zA rfl (zu (za (ze (z8 ?_)))))));refine zh (zC rfl rfl ?_);refine zh (zC rfl rfl ?_);refine zh (zk (jh t d hd) rfl rfl fun r S' h => ?_);obtain ⟨v, L, H, rfl, hL, hLe, rfl⟩ := h;obtain rfl := hLe L0 hp0;have hL2 := kV hp0;obtain ⟨la, lc, rfl⟩ := hL.isSlice;rw [hp];refine yp (pU rfl) (yp (pExt rfl rfl) (yp (pExt rfl rfl) (yp (pS rfl) (yp (pB rfl) (zf (za (ze (z8 (yp (pS rfl) (yp (ZK rfl) (yp pC (zf (za (zw ?_))))))))))))));refine Z8 (σ := Nat) (fun i E S => Has E [(0, .func (.yield l) #[] #[]), (18, .slice la L.length lc), (19, .int .i64 (L.length : Int)), (20, .int .i64 i)] ∧ i ≤ L.length ∧ ∃ T', J ((L.take i).map pv) T' ∧ zD S (H :: T')) (fun i => L.length - i) 0
   ⟨⟨rfl, rfl, rfl, rfl, trivial⟩, Nat.zero_le _, [c] :: S0, hJ0, ⟨(JB bt bd t d).flatten, ?_⟩⟩ fun i E S ⟨hE, hi, T', hJ, hk⟩ => ?_
  ·simp;exact List.Perm.append_left H ((List.perm_append_comm (l₁ := [_, _])).cons _)
  obtain ⟨E0, e0⟩ := zy hE; subst e0; clear hE;refine zq hk (ze (z8 (yp (ZT rfl rfl) (zf (za (ze ?_))))));refine zR rfl (fun h => ?_) (fun h => ?_)
  ·have hlt : i < L.length := by omega
   obtain ⟨bb2, sp, fz, hz, rfl, hm, hc, rfl⟩ := hL.at' (by intro h; simp [h] at hlt);refine zu (za (ze (zw (ze (z8 (yp (zT rfl rfl (by omega)) ?_))))));refine zh (w9 (l := enc L[i]) rfl (wo hlt rfl) rfl ?_);refine zh (Zf fun p7 => ?_);refine zh (vH (c' := [.int .i64 (L[i].at_ : Int), .int .i64 (L[i].n : Int)]) rfl rfl rfl rfl rfl ?_);refine zf (za (ze (z8 (yp (pF rfl) (yp (zn rfl) ?_)))));refine zh (zC rfl rfl ?_);refine yp (zn rfl) ?_;refine zh (zC rfl rfl ?_);have ht : L.take (i + 1) = L.take i ++ [L[i]] := List.take_succ_eq_append_getElem hlt;have hV : (L.take i).map pv ++ [pv L[i]] <+: L.map pv := by
    rw [show (L.take i).map pv ++ [pv L[i]] = (L.take (i + 1)).map pv from by rw [ht, List.map_append]; rfl];exact (List.take_prefix _ _).map _
   refine zh (Xl (hround _ (pv L[i]) T' (by rw [hp]; exact hV) hJ) rfl rfl fun bl T2 h => ?_);rcases h with ⟨rfl, hJ'⟩ | ⟨rfl, hJx⟩
   ·refine yp (Zi rfl) (zf (za (zA rfl (zu (zS (za (z8 (yp (Zh rfl rfl (by omega)) (yp (pI rfl) (zf (za ?_)))))))))));refine ⟨i + 1, ⟨⟨rfl, rfl, rfl, rfl, trivial⟩, by omega, T2, ?_, .of⟩, by omega⟩;rw [ht, List.map_append]; exact hJ'
   ·refine yp (Zi rfl) (zf (za (zJ rfl (zI (bret (zV (zV (bret ?_))))))));exact zH wu ⟨T2, .of, .inr ⟨_, hJx⟩⟩
  ·refine zZ (zF (zF (Z0 ?_)));refine ZY wu ⟨T', .of, .inl ⟨_, ?_, hJ⟩⟩;rw [List.take_of_length_le (by omega)]
end Go.Proofs.YtejmbmenbailmaaGreat
namespace Go.Proofs.YtejmbmenbailmaaGreat
open Go.Xs
open Enc (enc)
theorem kg {n : Nat} {Q : Exit → Env → zo → Prop} {E : Env} {g : Operand} {p q : Tmp} {xa xb : zB} {bt bd : Nat} {t : Int} {d : Bs} {S S0 G0 : zo} [hsub : Sub S0 (JB bt bd t d ++ S) G0] (J : Nat → zo → Prop)
 (hg : ev E g = .func (.func 96) #[] #[.pointer (some ⟨bt, 0, none⟩), .pointer (some ⟨bd, 0, none⟩)]) (hps : [p, q].all (fun t => Nat.blt t n) = true) (hd : d.length < 2 ^ 40) (hJ0 : J 0 S)
 (hround : ∀ (l k : Nat) (x : Pl) (T : zo), (prt t d)[k]? = some x → J k T → Y Tryz.prog (some l) n xa (VF (fun E1 S1 => Y Tryz.prog (some l) n xb (kR (fun _ S' => J (k + 1) S') (fun _ _ _ => False) []) E1 S1) (fun _ _ _ => False)) (UF [p, q] [.int .i64 (x.at_ : Int), .int .i64 (x.n : Int)] E) T)
 (hdone : ∀ S', J (prt t d).length S' → Q .normal E S') : Y Tryz.prog none n (.range g [p, q] xa xb) Q E S0 := by
 refine XD (S := S) (own := JB bt bd t d) (G0 := G0) (fun pre T => pre <+: (prt t d).map pv ∧ J pre.length T) (fun _ _ _ => False) hg hps (mJ (bt := bt) (bd := bd) (S0 := S) hd) ⟨List.nil_prefix, hJ0⟩ ?_ ?_ ?_ ?_
 ·intro pre x hx;have : x ∈ (prt t d).map pv := hx.subset (by simp);obtain ⟨e, _, rfl⟩ := List.mem_map.1 this;rfl
 ·rintro l pre x T hx ⟨_, hJ⟩;have hxl : ((prt t d).map pv)[pre.length]? = some x := by
   obtain ⟨u, hu⟩ := hx;rw [← hu, List.append_assoc, List.getElem?_append_right (Nat.le_refl _), Nat.sub_self]; rfl
  rw [List.getElem?_map] at hxl;cases he : (prt t d)[pre.length]? with
  | none => rw [he] at hxl; cases hxl
  | some e =>
   rw [he] at hxl;obtain rfl := (Option.some.inj hxl).symm;have h := hround l pre.length e T he hJ;have hx2 : pre ++ [pv e] <+: (prt t d).map pv := hx;refine Y.mono h ?_;rintro ex E1 S1 h1;cases ex with
   | normal =>
    refine Y.mono h1 ?_;rintro ex2 E2 S2 h2;cases ex2 with
    | normal => exact ⟨hx2, by rw [List.length_append]; exact h2⟩
    | _ => exact h2
   | _ => exact h1
 ·rintro xs S' hx ⟨_, hJ⟩;rw [hx, List.length_map] at hJ;exact hdone S' hJ
 ·rintro e pre S' _ h;exact h.elim
end Go.Proofs.YtejmbmenbailmaaGreat
