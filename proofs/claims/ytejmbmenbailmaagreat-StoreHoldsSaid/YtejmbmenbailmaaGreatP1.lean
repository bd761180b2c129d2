/- Records (chapter 3), plainly: where names stand in data, and what data may be. Names added and dropped, one behind the other: how often each is used, and what they cost. Sets (chapter 8), plainly: what may be, its names, its size, its block's bytes. Names that live: each is used as often as numbers of it are held; arenas that are alike. A set's block (chapter 8), plainly: data with names in other letters, or with numbers in their places. Parts of strings, strings put together, as lists of bytes. Records (chapter 3): what data may be, and its names. A range over the names in data. -/
import Derived.Test.YtejmbmenbailmaaGreatN1
import Derived.Test.YtejmbmenbailmaaGreatI1
import Derived.Test.YtejmbmenbailmaaGreatFPack
namespace Go.Proofs.YtejmbmenbailmaaGreat
open Go.Xs
open Enc (enc)
/-! ### what a text begins with -/
theorem yK : ∀ (f : Nat) (Y : Bs) (a n : Nat), XA f Y a = (n, true) → a < n ∧ n ≤ Y.length
 | 0, _, _, _, h => by simp [XA] at h
 | f + 1, Y, a, n, h => by
  unfold XA at h;cases hy : Y[a]? with
  | none => rw [hy] at h; simp at h
  | some b =>
   have hlt := (List.getElem?_eq_some_iff.1 hy).1;rw [hy] at h;simp only at h;split at h
   ·simp at h
   ·split at h
    ·obtain rfl : a + 1 = n := (Prod.mk.inj h).1;omega
    ·split at h
     ·simp at h
     ·have := yK f Y _ n h;omega
theorem jX : ∀ (f : Nat) (Y : Bs) (a n m : Nat), XA f Y a = (n, true) → n ≤ m → XA f (Y.take m) a = (n, true)
 | 0, _, _, _, _, h, _ => by simp [XA] at h
 | f + 1, Y, a, n, m, h, hm => by
  have hb := yK (f + 1) Y a n h;have hg : (Y.take m)[a]? = Y[a]? := List.getElem?_take_of_lt (by omega);unfold XA at h ⊢;rw [hg];cases hy : Y[a]? with
  | none => rw [hy] at h; simp at h
  | some b =>
   rw [hy] at h;simp only at h ⊢;split at h
   ·simp at h
   ·next h0 =>
    rw [if_neg h0];split at h
    ·next h1 => rw [if_pos h1]; exact h
    ·next h1 =>
     rw [if_neg h1];split at h
     ·simp at h
     ·next h2 => rw [if_neg h2]; exact jX f Y _ n m h hm
theorem yJ : ∀ (f : Nat) (Y : Bs) (a n m : Nat), XA f (Y.take m) a = (n, true) → XA f Y a = (n, true)
 | 0, _, _, _, _, h => by simp [XA] at h
 | f + 1, Y, a, n, m, h => by
  have hb := yK (f + 1) _ a n h;have hg : (Y.take m)[a]? = Y[a]? := List.getElem?_take_of_lt (by have := List.length_take_le m Y; omega);unfold XA at h ⊢;rw [hg] at h;cases hy : Y[a]? with
  | none => rw [hy] at h; simp at h
  | some b =>
   rw [hy] at h;simp only at h ⊢;split at h
   ·simp at h
   ·next h0 =>
    rw [if_neg h0];split at h
    ·next h1 => rw [if_pos h1]; exact h
    ·next h1 =>
     rw [if_neg h1];split at h
     ·simp at h
     ·next h2 => rw [if_neg h2]; exact yJ f Y _ n m h
/-- a text begins with a name of n bytes: its first n bytes are one -/
theorem yI {Y : Bs} {n : Nat} : lead Y = (n, true) ↔ n ≤ Y.length ∧ vG (Y.take n) = true := by
 unfold vG lead;constructor
 ·intro h;have hb := yK _ _ _ _ h;rw [jX _ _ _ _ n h (Nat.le_refl _), List.length_take, Nat.min_eq_left hb.2];exact ⟨hb.2, by simp⟩
 ·rintro ⟨h1, h2⟩;rw [Bool.and_eq_true] at h2;have hlen : (Y.take n).length = n := by rw [List.length_take]; omega
  have h3 : (XA 256 (Y.take n) 0).1 = n := by have := h2.2; rw [hlen] at this; simpa using this
  exact yJ 256 Y 0 n n (Prod.ext h3 h2.1)
theorem vJ {Y : Bs} {n : Nat} (h : lead Y = (n, true)) : 1 ≤ n ∧ n ≤ 255 ∧ n ≤ Y.length := by
 have hb := yK _ _ _ _ h;have := qj 256 Y 0;unfold lead at h;rw [h] at this;exact ⟨by omega, this, hb.2⟩
/-- ahead of anything -/
theorem gZ {Y Z : Bs} (h : vG Y = true) : lead (Y ++ Z) = (Y.length, true) := yI.2 ⟨by simp, by rw [List.take_left]; exact h⟩
/-! ### where names stand -/
structure Pl where
 at_ : Nat
 n : Nat
instance : Enc Pl := ⟨fun x => [.int .i64 (x.at_ : Int), .int .i64 (x.n : Int)], 2, fun _ => rfl, fun _ => rfl⟩
def ZY (t : Int) : Option (Nat × Nat × Nat) := if t = 2 ∨ t = 5 ∨ t = 12 then some (0, 1, 0) else if t = 15 then some (2, 1, 0) else if t = 33 then some (6, 1, 0) else if t = 6 then some (0, 2, 20) else none
/-- names, one behind the other -/
def Yk (d : Bs) : Nat → Nat → Option (List Pl × Nat)
 | 0, a => some ([], a)
 | k + 1, a => if (lead (d.drop a)).2 = true then (Yk d k (a + (lead (d.drop a)).1)).map fun x => (⟨a, (lead (d.drop a)).1⟩ :: x.1, x.2) else none
def X0 (t : Int) (d : Bs) : Option (List Pl) := match ZY t with
 | none => some []
 | some (a, k, b) => if d.length < a then none else match Yk d k a with
  | some (l, e) => if d.length = e + b then some l else none
  | none => none
/-- texts -/
def mJ : Nat → Bs → Nat → Bool
 | 0, _, _ => false
 | f + 1, d, a => match d[a]? with
  | some b => mJ f d (a + 1 + b.toNat)
  | none => a == d.length
def txt (d : Bs) : Bool := d != [] && mJ (d.length + 1) d 0
def ZH (t : Int) (d : Bs) : Bool := if 1000 < d.length then false else if t = 1 then d.length == 4 else if t = 28 then d.length == 16 else if t = 16 then txt d else (X0 t d).isSome
def prt (t : Int) (d : Bs) : List Pl := if ZH t d = true then (X0 t d).getD [] else []
theorem fC {d : Bs} : ∀ {k a : Nat} {l : List Pl} {e : Nat}, Yk d k a = some (l, e) → a ≤ d.length → e ≤ d.length ∧ a ≤ e ∧ l.length = k
 | 0, a, l, e, h, ha => by
  obtain ⟨rfl, rfl⟩ := Prod.mk.inj (Option.some.inj h);exact ⟨ha, Nat.le_refl _, rfl⟩
 | k + 1, a, l, e, h, ha => by
  unfold Yk at h;split at h
  ·next h2 =>
   have hl : lead (d.drop a) = ((lead (d.drop a)).1, true) := by rw [← h2]
   have hp := vJ hl;rw [List.length_drop] at hp;cases hx : Yk d k (a + (lead (d.drop a)).1) with
   | none => rw [hx] at h; cases h
   | some x =>
    obtain ⟨l2, e2⟩ := x;rw [hx] at h;obtain ⟨rfl, rfl⟩ := Prod.mk.inj (Option.some.inj h);have := fC hx (by omega);exact ⟨this.1, by omega, by simp [this.2.2]⟩
  ·cases h
/-- places, one behind the other, from a on -/
def Row (d : Bs) : Nat → List Pl → Prop
 | a, [] => a ≤ d.length
 | a, p :: l => p.at_ = a ∧ lead (d.drop a) = (p.n, true) ∧ Row d (a + p.n) l
theorem Ko {d : Bs} : ∀ {k a : Nat} {l : List Pl} {e : Nat}, Yk d k a = some (l, e) → a ≤ d.length → Row d a l
 | 0, a, l, e, h, ha => by
  obtain ⟨rfl, rfl⟩ := Prod.mk.inj (Option.some.inj h);exact ha
 | k + 1, a, l, e, h, ha => by
  unfold Yk at h;split at h
  ·next h2 =>
   have hl : lead (d.drop a) = ((lead (d.drop a)).1, true) := by rw [← h2]
   have hp := vJ hl;rw [List.length_drop] at hp;cases hx : Yk d k (a + (lead (d.drop a)).1) with
   | none => rw [hx] at h; cases h
   | some x =>
    obtain ⟨l2, e2⟩ := x;rw [hx] at h;obtain ⟨rfl, rfl⟩ := Prod.mk.inj (Option.some.inj h);exact ⟨rfl, hl, Ko hx (show a + (lead (d.drop a)).1 ≤ d.length from by omega)⟩
  ·cases h
theorem Qn {t : Int} {d : Bs} {l : List Pl} (h : X0 t d = some l) : l = [] ∨ ∃ a k b e, ZY t = some (a, k, b) ∧ a ≤ d.length ∧ Yk d k a = some (l, e) ∧ d.length = e + b := by
 unfold X0 at h;split at h
 ·exact .inl (Option.some.inj h).symm
 ·next a k b hs =>
  split at h
  ·cases h
  ·split at h
   ·next l2 e hp =>
    split at h
    ·next he =>
     obtain rfl := Option.some.inj h;exact .inr ⟨a, k, b, e, hs, by omega, hp, he⟩
    ·cases h
   ·cases h
theorem jE {t : Int} {x : Nat × Nat × Nat} (h : ZY t = some x) : t ≠ 1 ∧ t ≠ 28 ∧ t ≠ 16 := by
 unfold ZY at h;refine ⟨fun e => ?_, fun e => ?_, fun e => ?_⟩ <;> (subst e; simp at h)
theorem xZ {t : Int} {x : Nat × Nat × Nat} (h : ZY t = some x) : x.1 ≤ 6 ∧ x.2.1 ≤ 2 ∧ x.2.2 ≤ 20 := by
 unfold ZY at h;split at h
 ·obtain rfl := Option.some.inj h; decide
 ·split at h
  ·obtain rfl := Option.some.inj h; decide
  ·split at h
   ·obtain rfl := Option.some.inj h; decide
   ·split at h
    ·obtain rfl := Option.some.inj h; decide
    ·cases h
theorem Kn {t : Int} {d : Bs} {l : List Pl} (h : X0 t d = some l) : l.length ≤ 2 := by
 rcases Qn h with rfl | ⟨a, k, b, e, hs, ha, hp, _⟩
 ·exact Nat.zero_le _
 ·have h1 := (xZ hs).2.1;have h2 := (fC hp ha).2.2;simp only at h1;omega
end Go.Proofs.YtejmbmenbailmaaGreat
namespace Go.Proofs.YtejmbmenbailmaaGreat
open Go.Xs
open Enc (enc)
/-! ### Drop, and one use more, step by step -/
def Aq : List Nm → Int → List Nm
 | [], _ => []
 | e :: l, i => if e.id = i then (if e.u = 1 then l else ⟨e.id, e.n, e.u - 1⟩ :: l) else e :: Aq l i
def inc : List Nm → Int → List Nm
 | [], _ => []
 | e :: l, i => if e.id = i then ⟨e.id, e.n, e.u + 1⟩ :: l else e :: inc l i
theorem kE : ∀ (L : List Nm) (i : Int), vN L i = Aq L i
 | [], _ => rfl
 | e :: l, i => by
  have ih := kE l i;unfold vN at ih ⊢;unfold Aq VR;by_cases h : e.id = i
  ·rw [if_pos h, if_pos h];simp only [List.getElem?_cons_zero, List.eraseIdx_cons_zero];unfold reuse;rw [List.set_cons_zero]
  ·rw [if_neg h, if_neg h, ← ih];cases hx : VR i l with
   | none => rfl
   | some k =>
    obtain ⟨x, h1, _⟩ := Uc hx;simp only [Option.map_some, List.getElem?_cons_succ, h1, List.eraseIdx_cons_succ];unfold reuse;rw [List.set_cons_succ];split <;> rfl
theorem YK : ∀ {L : List Nm} {j : Nat} {e : Nm}, (L.map (·.id)).Nodup → L[j]? = some e → reuse L j e (e.u + 1) = inc L e.id
 | [], _, _, _, h => by simp at h
 | x :: l, 0, e, _, h => by
  obtain rfl : x = e := by simpa using h
  unfold inc reuse;rw [if_pos rfl, List.set_cons_zero]
 | x :: l, j + 1, e, hd, h => by
  rw [List.map_cons, List.nodup_cons] at hd;have hl : l[j]? = some e := by simpa using h
  have hne : x.id ≠ e.id := fun h2 => hd.1 (h2 ▸ List.mem_map.2 ⟨e, List.mem_of_getElem? hl, rfl⟩)
  have ih := YK hd.2 hl;unfold reuse at ih ⊢;unfold inc;rw [if_neg hne, List.set_cons_succ, ih]
/-! ### a list of names, each used so often more -/
def Wi : List Nm → (Int → Nat) → List Nm
 | [], _ => []
 | e :: l, c => if e.u + c e.id = 0 then Wi l c else ⟨e.id, e.n, e.u + c e.id⟩ :: Wi l c
theorem Yb (e : Nm) (l : List Nm) (c : Int → Nat) : Wi (e :: l) c = if e.u + c e.id = 0 then Wi l c else ⟨e.id, e.n, e.u + c e.id⟩ :: Wi l c := rfl
theorem WY : ∀ {L : List Nm} {c c' : Int → Nat}, (∀ e ∈ L, c e.id = c' e.id) → Wi L c = Wi L c'
 | [], _, _, _ => rfl
 | e :: l, c, c', h => by
  unfold Wi;rw [h e (by simp), WY fun x hx => h x (List.mem_cons_of_mem _ hx)]
theorem UJ (c : Int → Nat) : ∀ (L M : List Nm), Wi (L ++ M) c = Wi L c ++ Wi M c
 | [], _ => rfl
 | e :: l, M => by
  rw [List.cons_append, Yb, Yb, UJ c l M];split
  ·rfl
  ·rfl
theorem au : ∀ {L : List Nm}, Pos L → Wi L (fun _ => 0) = L
 | [], _ => rfl
 | e :: l, h => by
  unfold Wi;have := h e (by simp);rw [if_neg (by omega), au fun x hx => h x (List.mem_cons_of_mem _ hx)];rfl
theorem Ji : ∀ {L : List Nm} {c : Int → Nat}, (∀ e ∈ L, e.u + c e.id = 0) → Wi L c = []
 | [], _, _ => rfl
 | e :: l, c, h => by
  unfold Wi;rw [if_pos (h e (by simp))];exact Ji fun x hx => h x (List.mem_cons_of_mem _ hx)
theorem Vy : ∀ {L : List Nm} {c : Int → Nat} {x : Nm}, x ∈ Wi L c ↔ ∃ e ∈ L, x = ⟨e.id, e.n, e.u + c e.id⟩ ∧ x.u ≠ 0
 | [], c, x => by unfold Wi; simp
 | e :: l, c, x => by
  unfold Wi;split
  ·next h0 =>
   rw [Vy];constructor
   ·rintro ⟨y, hy, h1, h2⟩; exact ⟨y, List.mem_cons_of_mem _ hy, h1, h2⟩
   ·rintro ⟨y, hy, h1, h2⟩;rcases List.mem_cons.1 hy with rfl | hy
    ·rw [h1] at h2; exact absurd h0 h2
    ·exact ⟨y, hy, h1, h2⟩
  ·next h0 =>
   rw [List.mem_cons, Vy];constructor
   ·rintro (rfl | ⟨y, hy, h1, h2⟩)
    ·exact ⟨e, by simp, rfl, h0⟩
    ·exact ⟨y, List.mem_cons_of_mem _ hy, h1, h2⟩
   ·rintro ⟨y, hy, h1, h2⟩;rcases List.mem_cons.1 hy with rfl | hy
    ·exact .inl h1
    ·exact .inr ⟨y, hy, h1, h2⟩
theorem KT (c : Int → Nat) : ∀ (L : List Nm), List.Sublist ((Wi L c).map (·.id)) (L.map (·.id)) ∧ List.Sublist ((Wi L c).map (·.n)) (L.map (·.n))
 | [] => ⟨.slnil, .slnil⟩
 | e :: l => by
  have ih := KT c l;unfold Wi;split
  ·exact ⟨.cons _ ih.1, .cons _ ih.2⟩
  ·exact ⟨.cons_cons _ ih.1, .cons_cons _ ih.2⟩
theorem ay {L : List Nm} (c : Int → Nat) (h : xS L) : xS (Wi L c) := ⟨(KT c L).1.nodup h.ids, (KT c L).2.nodup h.ns⟩
theorem Jj {c : Int → Nat} {i : Int} : ∀ {L : List Nm}, (L.map (·.id)).Nodup → (∃ e ∈ L, e.id = i) → 1 ≤ c i → Aq (Wi L c) i = Wi L (fun k => if k = i then c k - 1 else c k)
 | [], _, h, _ => by simp at h
 | e :: l, hd, h, hc => by
  rw [List.map_cons, List.nodup_cons] at hd;unfold Wi;by_cases he : e.id = i
  ·have htl : Wi l c = Wi l (fun k => if k = i then c k - 1 else c k) := WY fun x hx => by
    have hne : x.id ≠ i := fun h2 => hd.1 (he ▸ h2 ▸ List.mem_map.2 ⟨x, hx, rfl⟩)
    show c x.id = if x.id = i then c x.id - 1 else c x.id
    rw [if_neg hne]
   rw [if_neg (by rw [he]; omega)];unfold Aq;rw [if_pos he];simp only [he, if_true];by_cases h1 : e.u + c i = 1
   ·rw [if_pos h1, if_pos (by omega), htl]
   ·rw [if_neg h1, if_neg (by omega), ← htl, show e.u + c i - 1 = e.u + (c i - 1) from by omega]
  ·have h2 : ∃ e ∈ l, e.id = i := by
    obtain ⟨x, hx, hxi⟩ := h;rcases List.mem_cons.1 hx with rfl | hx
    ·exact absurd hxi he
    ·exact ⟨x, hx, hxi⟩
   have ih := Jj hd.2 h2 hc;simp only [if_neg he];by_cases h0 : e.u + c e.id = 0
   ·rw [if_pos h0, if_pos h0]; exact ih
   ·rw [if_neg h0, if_neg h0];show Aq (_ :: _) i = _;unfold Aq;rw [if_neg (show ¬ (⟨e.id, e.n, e.u + c e.id⟩ : Nm).id = i from he), ih]
theorem av {c : Int → Nat} {i : Int} : ∀ {L : List Nm}, (L.map (·.id)).Nodup → (∀ e ∈ L, 1 ≤ e.u + c e.id) → inc (Wi L c) i = Wi L (fun k => if k = i then c k + 1 else c k)
 | [], _, _ => rfl
 | e :: l, hd, h => by
  rw [List.map_cons, List.nodup_cons] at hd;have h1 := h e (by simp);unfold Wi;rw [if_neg (by omega)];show inc (_ :: _) i = _;unfold inc;by_cases he : e.id = i
  ·have htl : Wi l c = Wi l (fun k => if k = i then c k + 1 else c k) := WY fun x hx => by
    have hne : x.id ≠ i := fun h2 => hd.1 (he ▸ h2 ▸ List.mem_map.2 ⟨x, hx, rfl⟩)
    show c x.id = if x.id = i then c x.id + 1 else c x.id
    rw [if_neg hne]
   rw [if_pos (show (⟨e.id, e.n, e.u + c e.id⟩ : Nm).id = i from he)];simp only [he, if_true];rw [if_neg (by omega), ← htl]; rfl
  ·have ih := av (c := c) (i := i) hd.2 fun x hx => h x (List.mem_cons_of_mem _ hx)
   rw [if_neg (show ¬ (⟨e.id, e.n, e.u + c e.id⟩ : Nm).id = i from he)];simp only [if_neg he];rw [if_neg (by omega), ih]
/-! ### drops -/
def drops (L : List Nm) (ids : List Int) : List Nm := ids.foldl vN L
theorem Xe : ∀ {ids : List Int} {L : List Nm} {c : Int → Nat}, (L.map (·.id)).Nodup → (∀ i ∈ ids, ∃ e ∈ L, e.id = i) → drops (Wi L fun k => c k + ids.count k) ids = Wi L c
 | [], L, c, _, _ => by unfold drops; simp
 | i :: ids, L, c, hd, h => by
  have h1 := Jj (c := fun k => c k + (i :: ids).count k) (i := i) hd (h i (by simp)) (by simp; omega);have h2 : (Wi L fun k => if k = i then c k + (i :: ids).count k - 1 else c k + (i :: ids).count k) = Wi L fun k => c k + ids.count k := WY fun e _ => by
   show (if e.id = i then c e.id + (i :: ids).count e.id - 1 else c e.id + (i :: ids).count e.id) = c e.id + ids.count e.id;rw [List.count_cons];by_cases he : e.id = i
   ·subst he; simp
   ·have : (i == e.id) = false := by simpa using fun h3 : i = e.id => he h3.symm
    rw [if_neg he, this]; simp
  show (ids.foldl vN (vN (Wi L fun k => c k + (i :: ids).count k) i)) = _;rw [kE, h1, h2];exact Xe hd fun j hj => h j (List.mem_cons_of_mem _ hj)
/-! ### adds -/
structure Ad where
 D : List (Option Bt)
 L : List Nm
 ids : List Int
 e : Int
def wK (N : Nat) : List (Option Bt) → List Nm → List Bs → Ad
 | D, L, [] => ⟨D, L, [], 0⟩
 | D, L, n :: l => if WH N D L n = 0 then ⟨(wK N (WI D L (zA n)) (ZG D L (zA n)) l).D, (wK N (WI D L (zA n)) (ZG D L (zA n)) l).L, U3 D L (zA n) :: (wK N (WI D L (zA n)) (ZG D L (zA n)) l).ids, (wK N (WI D L (zA n)) (ZG D L (zA n)) l).e⟩ else ⟨D, L, [], WH N D L n⟩
theorem KR {L : List Nm} {m : Bs} : (Vq L m).isSome = true ↔ ∃ e ∈ L, e.n = m := by
 constructor
 ·intro h;obtain ⟨e, he⟩ := Option.isSome_iff_exists.1 h;obtain ⟨j, _, h2, h3⟩ := vP he;exact ⟨e, List.mem_of_getElem? h2, h3⟩
 ·rintro ⟨e, he, rfl⟩;exact qF he
theorem lS {D : List (Option Bt)} {L : List Nm} {n m : Bs} : (Vq (ZG D L n) m).isSome = true ↔ m = n ∨ (Vq L m).isSome = true := by
 rw [KR, KR];cases hb : Vq L n with
 | some x =>
  obtain ⟨j, h1, h2, rfl⟩ := vP hb;have : ZG D L x.n = reuse L j x (x.u + 1) := by unfold ZG; rw [h1]; simp only [h2]
  rw [this];constructor
  ·rintro ⟨e, he, rfl⟩;obtain ⟨y, hy, _, h4⟩ := VT h2 he;exact .inr ⟨y, hy, h4⟩
  ·rintro (rfl | ⟨y, hy, rfl⟩)
   ·obtain ⟨z, hz, _, h4⟩ := WT (u := x.u + 1) h2 (List.mem_of_getElem? h2);exact ⟨z, hz, h4⟩
   ·obtain ⟨z, hz, _, h4⟩ := WT (u := x.u + 1) h2 hy;exact ⟨z, hz, h4⟩
 | none =>
  have : ZG D L n = L ++ [⟨((hnd D : Nat) : Int), n, 1⟩] := by unfold ZG; rw [WG hb]
  rw [this];constructor
  ·rintro ⟨e, he, rfl⟩;rcases List.mem_append.1 he with he | he
   ·exact .inr ⟨e, he, rfl⟩
   ·rw [List.mem_singleton.1 he]; exact .inl rfl
  ·rintro (rfl | ⟨y, hy, rfl⟩)
   ·exact ⟨⟨((hnd D : Nat) : Int), m, 1⟩, by simp, rfl⟩
   ·exact ⟨y, List.mem_append.2 (.inl hy), rfl⟩
theorem yP (D : List (Option Bt)) : Zi D ((hnd D : Nat) : Int) = none := by
 have := vL D;have hp := wO D;rw [show ((hnd D : Nat) : Int) = ((hnd D - 1 : Nat) : Int) + 1 from by omega, Zz]; exact this
/-- what adds leave: the elder names, new ones behind them, each used as often as its number was told -/
theorem XV (N : Nat) : ∀ (l : List Bs) (D : List (Option Bt)) (L : List Nm) (c : Int → Nat), xS L → (∀ e ∈ L, (Zi D e.id).isSome = true) → (∀ e ∈ L, 1 ≤ e.u + c e.id) → (∀ i, (∀ e ∈ L, e.id ≠ i) → c i = 0) →
 ∃ M : List Nm, (∀ e ∈ M, e.u = 0) ∧ xS (L ++ M) ∧ (wK N D (Wi L c) l).L = Wi (L ++ M) (fun k => c k + (wK N D (Wi L c) l).ids.count k) ∧ (∀ i ∈ (wK N D (Wi L c) l).ids, ∃ e ∈ L ++ M, e.id = i) ∧
  (∀ e ∈ L ++ M, (Zi (wK N D (Wi L c) l).D e.id).isSome = true) ∧ (∀ e ∈ M, Zi D e.id = none)
 | [], D, L, c, hd, hD, _, _ => ⟨[], fun e he => by simp at he, by rw [List.append_nil]; exact hd, by unfold wK; simp, fun i hi => by unfold wK at hi; simp at hi, by rw [List.append_nil]; exact hD, fun e he => by simp at he⟩
 | n :: l, D, L, c, hd, hD, hu, hc => by
  unfold wK;by_cases hE : WH N D (Wi L c) n = 0
  ·rw [if_pos hE];have hcount : ∀ (i k : Int) (ids : List Int), (i :: ids).count k = ids.count k + if k = i then 1 else 0 := fun i k ids => by
    rw [List.count_cons];by_cases h : k = i
    ·subst h; simp
    ·have : (i == k) = false := by simpa using fun h3 : i = k => h h3.symm
     rw [if_neg h, this]; simp
   cases hb : Vq (Wi L c) (zA n) with
   | some x =>
    obtain ⟨j, h1, h2, h3⟩ := vP hb;have hxm := List.mem_of_getElem? h2;obtain ⟨e, heL, hxe, _⟩ := Vy.1 hxm;have hL : ZG D (Wi L c) (zA n) = Wi L (fun k => if k = x.id then c k + 1 else c k) := by
     unfold ZG; rw [h1]; simp only [h2];rw [YK (ay c hd).ids h2, av hd.ids hu]
    have hDD : WI D (Wi L c) (zA n) = D := by unfold WI; rw [hb]; rfl
    have hI : U3 D (Wi L c) (zA n) = x.id := by unfold U3; rw [hb]; rfl
    rw [hL, hDD, hI];have hxid : x.id = e.id := by rw [hxe]
    obtain ⟨M, i1, i2, i3, i4, i5, i6⟩ := XV N l D L (fun k => if k = x.id then c k + 1 else c k) hd hD (fun y hy => by
     have := hu y hy;show 1 ≤ y.u + if y.id = x.id then c y.id + 1 else c y.id
     split <;> omega) (fun i hi => by
     show (if i = x.id then c i + 1 else c i) = 0;rw [if_neg fun h4 => hi e heL (by rw [h4, hxid])]; exact hc i hi)
    refine ⟨M, i1, i2, ?_, fun i hi => ?_, i5, i6⟩
    ·rw [i3];refine WY fun y _ => ?_
     show (if y.id = x.id then c y.id + 1 else c y.id) + _ = c y.id + _;rw [hcount];split <;> omega
    ·rcases List.mem_cons.1 hi with rfl | hi
     ·exact ⟨e, List.mem_append.2 (.inl heL), hxid.symm⟩
     ·exact i4 i hi
   | none =>
    have hL0 : ZG D (Wi L c) (zA n) = Wi L c ++ [⟨((hnd D : Nat) : Int), zA n, 1⟩] := by unfold ZG; rw [WG hb]
    have hDD : WI D (Wi L c) (zA n) = ZC D (8 + (zA n).length) := by unfold WI; rw [hb]; rfl
    have hI : U3 D (Wi L c) (zA n) = ((hnd D : Nat) : Int) := by unfold U3; rw [hb]; rfl
    have hno := yP D;have hidn : ∀ y ∈ L, y.id ≠ ((hnd D : Nat) : Int) := fun y hy h => by
     have := hD y hy;rw [h, hno] at this; cases this
    have hnn : ∀ y ∈ L, y.n ≠ zA n := fun y hy h => by
     have hm : (⟨y.id, y.n, y.u + c y.id⟩ : Nm) ∈ Wi L c := Vy.2 ⟨y, hy, rfl, by have := hu y hy; show y.u + c y.id ≠ 0; omega⟩;exact Vg (WG hb) _ hm h
    have hL : ZG D (Wi L c) (zA n) = Wi (L ++ [⟨((hnd D : Nat) : Int), zA n, 0⟩]) (fun k => if k = ((hnd D : Nat) : Int) then 1 else c k) := by
     rw [hL0, UJ];congr 1
     ·refine WY fun y hy => ?_
      show c y.id = if y.id = ((hnd D : Nat) : Int) then 1 else c y.id
      rw [if_neg (hidn y hy)]
     ·unfold Wi;simp [Wi]
    rw [hL, hDD, hI];have hd2 : xS (L ++ [⟨((hnd D : Nat) : Int), zA n, 0⟩]) := hd.add hidn hnn;obtain ⟨M, i1, i2, i3, i4, i5, i6⟩ := XV N l (ZC D (8 + (zA n).length)) (L ++ [⟨((hnd D : Nat) : Int), zA n, 0⟩]) (fun k => if k = ((hnd D : Nat) : Int) then 1 else c k) hd2 (fun y hy => by
     rcases List.mem_append.1 hy with hy | hy
     ·rw [Zt (hidn y hy)]; exact hD y hy
     ·rw [List.mem_singleton.1 hy]; show (Zi _ ((hnd D : Nat) : Int)).isSome = true; rw [wU]; rfl) (fun y hy => by
     show 1 ≤ y.u + if y.id = ((hnd D : Nat) : Int) then 1 else c y.id
     rcases List.mem_append.1 hy with hy | hy
     ·rw [if_neg (hidn y hy)]; exact hu y hy
     ·rw [List.mem_singleton.1 hy]; simp) (fun i hi => by
     show (if i = ((hnd D : Nat) : Int) then 1 else c i) = 0;have h5 : ¬ i = ((hnd D : Nat) : Int) := fun h => hi ⟨((hnd D : Nat) : Int), zA n, 0⟩ (by simp) h.symm
     rw [if_neg h5];exact hc i fun y hy => hi y (List.mem_append.2 (.inl hy)))
    rw [List.append_assoc] at i2 i3 i4 i5;refine ⟨[⟨((hnd D : Nat) : Int), zA n, 0⟩] ++ M, fun y hy => ?_, i2, ?_, fun i hi => ?_, i5, fun y hy => ?_⟩
    ·rcases List.mem_append.1 hy with hy | hy
     ·rw [List.mem_singleton.1 hy]
     ·exact i1 y hy
    ·rw [i3];refine WY fun y _ => ?_
     show (if y.id = ((hnd D : Nat) : Int) then 1 else c y.id) + _ = c y.id + _;rw [hcount];by_cases h6 : y.id = ((hnd D : Nat) : Int)
     ·rw [if_pos h6, if_pos h6, h6, hc _ hidn]; omega
     ·rw [if_neg h6, if_neg h6]; omega
    ·rcases List.mem_cons.1 hi with rfl | hi
     ·exact ⟨⟨((hnd D : Nat) : Int), zA n, 0⟩, by simp, rfl⟩
     ·exact i4 i hi
    ·rcases List.mem_append.1 hy with hy | hy
     ·rw [List.mem_singleton.1 hy]; exact hno
     ·have h7 := i6 y hy;have hne : y.id ≠ ((hnd D : Nat) : Int) := fun h => by rw [h, wU] at h7; cases h7
      rw [Zt hne] at h7; exact h7
  ·rw [if_neg hE];exact ⟨[], fun e he => by simp at he, by rw [List.append_nil]; exact hd, by simp, fun i hi => by simp at hi, by rw [List.append_nil]; exact hD, fun e he => by simp at he⟩
/-- all adds undone -/
theorem bT {N : Nat} {l : List Bs} {D : List (Option Bt)} {L : List Nm} (hd : xS L) (hp : Pos L) (hD : ∀ e ∈ L, (Zi D e.id).isSome = true) : drops (wK N D L l).L (wK N D L l).ids = L := by
 have h0 := au hp;obtain ⟨M, i1, i2, i3, i4, _, _⟩ := XV N l D L (fun _ => 0) hd hD (fun e he => by have := hp e he; omega) (fun _ _ => rfl);rw [h0] at i3 i4;rw [i3, Xe i2.ids i4, UJ, h0, Ji (fun e he => by rw [i1 e he]), List.append_nil]
/-! ### what they cost -/
def wJ (L : List Nm) : List Bs → List Bs → Nat
 | _, [] => 0
 | seen, n :: l => (if zA n ∈ seen ∨ (Vq L (zA n)).isSome = true then 0 else Z0 (8 + n.length)) + wJ L (zA n :: seen) l
theorem uY {L : List Nm} : ∀ {l : List Bs} {s s' : List Bs}, (∀ m, m ∈ s ↔ m ∈ s') → wJ L s l = wJ L s' l
 | [], _, _, _ => rfl
 | n :: l, s, s', h => by
  unfold wJ;rw [uY (s := zA n :: s) (s' := zA n :: s') fun m => by rw [List.mem_cons, List.mem_cons, h m]];simp only [h (zA n)]
theorem kJ {L L' : List Nm} {x : Bs} (hL : ∀ m, (Vq L' m).isSome = true ↔ m = x ∨ (Vq L m).isSome = true) : ∀ {l : List Bs} {s : List Bs}, wJ L' s l = wJ L (x :: s) l
 | [], _ => rfl
 | n :: l, s => by
  unfold wJ;rw [kJ hL (l := l) (s := zA n :: s), uY (s := x :: zA n :: s) (s' := zA n :: x :: s) fun m => by simp only [List.mem_cons]; exact ⟨fun h => by rcases h with h | h | h <;> simp [h], fun h => by rcases h with h | h | h <;> simp [h]⟩];congr 1;have hiff : (zA n ∈ s ∨ (Vq L' (zA n)).isSome = true) ↔ (zA n ∈ x :: s ∨ (Vq L (zA n)).isSome = true) := by
   rw [hL, List.mem_cons];exact ⟨fun h => by rcases h with h | h | h <;> simp [h], fun h => by rcases h with (h | h) | h <;> simp [h]⟩
  simp only [hiff]
theorem Y4 (k : Nat) : 16 ≤ Z0 k := by
 unfold Z0
 (repeat' split) <;> omega
theorem Yg {N : Nat} : ∀ {l : List Bs} {D : List (Option Bt)} {L : List Nm}, (∀ n ∈ l, vG n = true) → Zd D ≤ N →
 (Zd D + wJ L [] l ≤ N → (wK N D L l).e = 0 ∧ Zd (wK N D L l).D = Zd D + wJ L [] l) ∧ (N < Zd D + wJ L [] l → (wK N D L l).e = 4)
 | [], D, L, _, hN => ⟨fun _ => ⟨rfl, rfl⟩, fun h => absurd h (Nat.not_lt.2 hN)⟩
 | n :: l, D, L, hv, hN => by
  have hvn := hv n (by simp);have h255 := WA hvn;have hfl := wY n;have hstep : wJ L [zA n] l = wJ (ZG D L (zA n)) [] l := (kJ fun m => lS).symm;have hcc : cost (8 + (n.length : Int)) = (Z0 (8 + n.length) : Nat) := by
   unfold cost; rw [if_neg (by omega)]; congr 1
  have h16 := Y4 (8 + n.length);unfold wK wJ;rw [hstep];have hnil : ¬ zA n ∈ ([] : List Bs) := by simp
  cases hb : (Vq L (zA n)).isSome with
  | true =>
   have hE : WH N D L n = 0 := by unfold WH; rw [if_neg (by rw [hvn]; decide), hb]; rfl
   have hDD : WI D L (zA n) = D := by unfold WI; rw [hb]; rfl
   rw [if_pos hE, if_pos (.inr rfl), Nat.zero_add, hDD];exact Yg (fun m hm => hv m (List.mem_cons_of_mem _ hm)) hN
  | false =>
   have hEa : WH N D L n = if (N : Int) - Zd D < (Z0 (8 + n.length) : Nat) then 4 else 0 := by
    unfold WH ZB;rw [if_neg (by rw [hvn]; decide), hb, if_neg (by decide), hcc, if_neg (by omega)]
   have hDD : WI D L (zA n) = ZC D (8 + n.length) := by unfold WI; rw [hb, hfl]; rfl
   rw [if_neg (show ¬ (zA n ∈ ([] : List Bs) ∨ false = true) from by simp)];by_cases hroom : Zd D + Z0 (8 + n.length) ≤ N
   ·have hE : WH N D L n = 0 := by rw [hEa, if_neg (by omega)]
    rw [if_pos hE];have hu := qM D (8 + n.length);rw [← hDD] at hu;have ih := Yg (N := N) (l := l) (D := WI D L (zA n)) (L := ZG D L (zA n)) (fun m hm => hv m (List.mem_cons_of_mem _ hm)) (by omega);rw [hu] at ih;refine ⟨fun h => ?_, fun h => ih.2 (by omega)⟩;obtain ⟨h1, h2⟩ := ih.1 (by omega);exact ⟨h1, by rw [← Nat.add_assoc]; exact h2⟩
   ·have hE : WH N D L n = 4 := by rw [hEa, if_pos (by omega)]
    rw [if_neg (by rw [hE]; decide)];exact ⟨fun h => by omega, fun _ => hE⟩
end Go.Proofs.YtejmbmenbailmaaGreat
namespace Go.Proofs.YtejmbmenbailmaaGreat
open Go.Xs
open Enc (enc)
structure RR where
 n : Bs
 t : Int
 c : Int
 ttl : Int
 d : Bs
instance : Enc RR := ⟨fun x => [sv x.n, .int .i64 x.t, .int .i64 x.c, .int .i64 x.ttl, sv x.d], 5, fun _ => rfl, fun _ => rfl⟩
structure St where
 name : Bs
 typ : Int
 kind : Int
 zone : Bs
 rrs : List RR
def St.v (s : St) (w : Value) : Value := .agg #[sv s.name, .int .i64 s.typ, w, .int .i64 s.kind, sv s.zone]
def YJ (a b : Bs) : Bool := vG a && vG b && (a.map low == b.map low)
def Xx (s : St) (r : RR) : Bool := YJ r.n s.name && decide (r.t = s.typ) && decide (r.c = 1) && ZH r.t r.d
def vU (s : St) : Bool := vG s.name && vG s.zone && decide (1 ≤ s.typ ∧ s.typ ≤ 65535 ∧ 0 ≤ s.kind ∧ s.kind ≤ 2) && decide (s.rrs.length ≤ 32) && (decide (0 < s.rrs.length) == decide (s.kind = 0)) && s.rrs.all (Xx s)
def Uk (d : Bs) (p : Pl) : Bs := (d.drop p.at_).take p.n
def Zr (r : RR) : List Bs := (prt r.t r.d).map (Uk r.d)
def Z7 (s : St) : List Bs := s.name :: s.zone :: (s.rrs.map Zr).flatten
def wZ (l : List Int) : Int := l.foldr (· + ·) 0
def vH (r : RR) : Int := 2 + (r.d.length : Int) + wZ ((prt r.t r.d).map fun p => 4 - (p.n : Int))
def Zn (s : St) : Int := 16 + wZ (s.rrs.map vH)
def wF (s : St) : Int := if vU s = false then 1 else if 4096 < Zn s then 3 else 0
def xY (s : St) : Int := if wF s = 0 then Zn s else 0
/-- data with other bytes in the names' places -/
def splice (d : Bs) : Nat → List Pl → List Bs → Bs
 | a, p :: l, x :: xs => (d.drop a).take (p.at_ - a) ++ x ++ splice d (p.at_ + p.n) l xs
 | a, _, _ => d.drop a
def WO (t : Int) (d : Bs) : Bs := splice d 0 (prt t d) ((prt t d).map fun p => zA (Uk d p))
def ZA (s : St) : St := ⟨zA s.name, s.typ, s.kind, zA s.zone, s.rrs.map fun r => ⟨zA s.name, r.t, 1, 0, WO r.t r.d⟩⟩
/-- a number's bytes, the least first -/
def Ui : Nat → Nat → Bs
 | 0, _ => []
 | k + 1, n => UInt8.ofNat (n % 256) :: Ui k (n / 256)
theorem Zu : ∀ (k n : Nat), (Ui k n).length = k
 | 0, _ => rfl
 | k + 1, n => by show (Ui k (n / 256)).length + 1 = k + 1; rw [Zu k]
def Uj (i : Int) : Bs := Ui 4 i.toNat
def WW (r : RR) (ids : List Int) : Bs := splice r.d 0 (prt r.t r.d) (ids.map Uj)
def Ux : List RR → List Int → Bs
 | [], _ => []
 | r :: l, ids => Ui 2 (WW r ids).length ++ WW r ids ++ Ux l (ids.drop (prt r.t r.d).length)
def Wj (s : St) (ids : List Int) : Bs := Uj (ids.getD 0 0) ++ Ui 2 s.typ.toNat ++ Ui 2 s.kind.toNat ++ Uj (ids.getD 1 0) ++ Ui 4 0x5e7b10c5 ++ Ux s.rrs (ids.drop 2)
theorem Vd (a : Int) (l : List Int) : wZ (a :: l) = a + wZ l := rfl
theorem Xm (l m : List Int) : wZ (l ++ m) = wZ l + wZ m := by
 induction l with
 | nil => show wZ m = 0 + wZ m; omega
 | cons a l ih => rw [List.cons_append, Vd, Vd, ih]; omega
theorem Qk (t : Int) (d : Bs) : prt t d = [] ∨ ∃ a k b e, ZY t = some (a, k, b) ∧ a ≤ d.length ∧ Yk d k a = some (prt t d, e) ∧ d.length = e + b := by
 unfold prt;split
 ·next h =>
  cases hp : X0 t d with
  | none => exact .inl rfl
  | some l => exact Qn hp
 ·exact .inl rfl
/-- names are names -/
theorem Qh {d : Bs} : ∀ {a : Nat} {l : List Pl}, Row d a l → ∀ p ∈ l, vG (Uk d p) = true ∧ (Uk d p).length = p.n ∧ p.at_ + p.n ≤ d.length
 | _, [], _, p, hp => by simp at hp
 | a, q :: l, ⟨h1, h2, h3⟩, p, hp => by
  rcases List.mem_cons.1 hp with rfl | hp
  ·subst h1;have hb := vJ h2;rw [List.length_drop] at hb;exact ⟨(yI.1 h2).2, by unfold Uk; rw [List.length_take, List.length_drop]; omega, by omega⟩
  ·exact Qh h3 p hp
theorem XK {t : Int} {d : Bs} {p : Pl} (hp : p ∈ prt t d) : vG (Uk d p) = true ∧ (Uk d p).length = p.n ∧ p.at_ + p.n ≤ d.length := by
 rcases Qk t d with h | ⟨a, k, b, e, _, ha, hc, _⟩
 ·rw [h] at hp; simp at hp
 ·exact Qh (Ko hc ha) p hp
theorem yG {s : St} (h : vU s = true) : ∀ n ∈ Z7 s, vG n = true := fun n hn => by
 unfold vU at h;simp only [Bool.and_eq_true] at h;obtain ⟨⟨⟨⟨⟨h1, h2⟩, _⟩, _⟩, _⟩, _⟩ := h;unfold Z7 at hn;rcases List.mem_cons.1 hn with rfl | hn
 ·exact h1
 rcases List.mem_cons.1 hn with rfl | hn
 ·exact h2
 obtain ⟨l, hl, hn⟩ := List.mem_flatten.1 hn;obtain ⟨r, _, rfl⟩ := List.mem_map.1 hl;unfold Zr at hn;obtain ⟨p, hp, rfl⟩ := List.mem_map.1 hn;exact (XK hp).1
end Go.Proofs.YtejmbmenbailmaaGreat
namespace Go.Proofs.YtejmbmenbailmaaGreat
open Go.Xs
open Enc (enc)
/-! ### numbers beside names -/
inductive Al (L : List Nm) : List Int → List Bs → Prop
 | nil : Al L [] []
 | cons {i : Int} {n : Bs} {ids : List Int} {ns : List Bs} (h : ∃ e ∈ L, e.id = i ∧ e.n = n) (t : Al L ids ns) : Al L (i :: ids) (n :: ns)
theorem Al.mono {L L' : List Nm} (h : ∀ e ∈ L, ∃ e' ∈ L', e'.id = e.id ∧ e'.n = e.n) : ∀ {ids : List Int} {ns : List Bs}, Al L ids ns → Al L' ids ns
 | _, _, .nil => .nil
 | _, _, .cons ⟨e, he, h1, h2⟩ t => by
  obtain ⟨e', he', h3, h4⟩ := h e he;exact .cons ⟨e', he', h3.trans h1, h4.trans h2⟩ (Al.mono h t)
theorem bV {D : List (Option Bt)} {L : List Nm} {n : Bs} {e : Nm} (he : e ∈ L) : ∃ e' ∈ ZG D L n, e'.id = e.id ∧ e'.n = e.n := by
 cases hb : Vq L n with
 | some x =>
  obtain ⟨j, h1, h2, rfl⟩ := vP hb;have : ZG D L x.n = reuse L j x (x.u + 1) := by unfold ZG; rw [h1]; simp only [h2]
  rw [this];exact WT h2 he
 | none =>
  have : ZG D L n = L ++ [⟨((hnd D : Nat) : Int), n, 1⟩] := by unfold ZG; rw [WG hb]
  rw [this];exact ⟨e, List.mem_append.2 (.inl he), rfl, rfl⟩
theorem bU {D : List (Option Bt)} {L : List Nm} {n : Bs} : ∃ e ∈ ZG D L n, e.id = U3 D L n ∧ e.n = n := by
 cases hb : Vq L n with
 | some x =>
  obtain ⟨j, h1, h2, rfl⟩ := vP hb;have : ZG D L x.n = reuse L j x (x.u + 1) := by unfold ZG; rw [h1]; simp only [h2]
  rw [this];obtain ⟨e, he, h3, h4⟩ := WT (u := x.u + 1) h2 (List.mem_of_getElem? h2);exact ⟨e, he, by rw [h3]; unfold U3; rw [hb]; rfl, h4⟩
 | none =>
  have : ZG D L n = L ++ [⟨((hnd D : Nat) : Int), n, 1⟩] := by unfold ZG; rw [WG hb]
  rw [this];exact ⟨⟨((hnd D : Nat) : Int), n, 1⟩, by simp, by unfold U3; rw [hb]; rfl, rfl⟩
theorem U2 {N : Nat} {D : List (Option Bt)} {L : List Nm} {n : Bs} {l : List Bs} (h : WH N D L n = 0) : wK N D L (n :: l) = ⟨(wK N (WI D L (zA n)) (ZG D L (zA n)) l).D, (wK N (WI D L (zA n)) (ZG D L (zA n)) l).L, U3 D L (zA n) :: (wK N (WI D L (zA n)) (ZG D L (zA n)) l).ids, (wK N (WI D L (zA n)) (ZG D L (zA n)) l).e⟩ := by
 rw [wK, if_pos h]
theorem Ye {N : Nat} {D : List (Option Bt)} {L : List Nm} {n : Bs} {l : List Bs} (h : WH N D L n ≠ 0) : wK N D L (n :: l) = ⟨D, L, [], WH N D L n⟩ := by
 rw [wK, if_neg h]
theorem Yf {N : Nat} : ∀ {l : List Bs} {D : List (Option Bt)} {L : List Nm} {e : Nm}, e ∈ L → ∃ e' ∈ (wK N D L l).L, e'.id = e.id ∧ e'.n = e.n
 | [], _, _, e, he => ⟨e, he, rfl, rfl⟩
 | n :: l, D, L, e, he => by
  by_cases hE : WH N D L n = 0
  ·rw [U2 hE];obtain ⟨e1, h1, h2, h3⟩ := bV (D := D) (n := zA n) he;obtain ⟨e2, h4, h5, h6⟩ := Yf (N := N) (l := l) (D := WI D L (zA n)) h1;exact ⟨e2, h4, h5.trans h2, h6.trans h3⟩
  ·rw [Ye hE]; exact ⟨e, he, rfl, rfl⟩
theorem qO {N : Nat} : ∀ {l : List Bs} {D : List (Option Bt)} {L : List Nm}, (wK N D L l).e = 0 → Al (wK N D L l).L (wK N D L l).ids (l.map zA)
 | [], _, _, _ => .nil
 | n :: l, D, L, h => by
  by_cases hE : WH N D L n = 0
  ·rw [U2 hE] at h ⊢;obtain ⟨e1, h1, h2, h3⟩ := bU (D := D) (L := L) (n := zA n);obtain ⟨e2, h4, h5, h6⟩ := Yf (N := N) (l := l) (D := WI D L (zA n)) h1;exact .cons ⟨e2, h4, h5.trans h2, h6.trans h3⟩ (qO h)
  ·rw [Ye hE] at h; exact absurd h hE
/-! ### names that live by the numbers that are held -/
structure j3 (L : List Nm) (A : List Int) : Prop where
 dis : xS L
 us : ∀ e ∈ L, e.u = A.count e.id
 pos : Pos L
 ids : ∀ i ∈ A, ∃ e ∈ L, e.id = i
theorem j3.nil : j3 [] [] := ⟨⟨List.nodup_nil, List.nodup_nil⟩, fun e he => by simp at he, Pos.nil, fun i hi => by simp at hi⟩
def qR (L : List Nm) : List Nm := L.map fun e => ⟨e.id, e.n, 0⟩
theorem mg (L : List Nm) : (qR L).map (·.id) = L.map (·.id) := by unfold qR; rw [List.map_map]; rfl
theorem rH (L : List Nm) : (qR L).map (·.n) = L.map (·.n) := by unfold qR; rw [List.map_map]; rfl
theorem XC {L : List Nm} {e : Nm} (h : e ∈ qR L) : e.u = 0 ∧ ∃ x ∈ L, x.id = e.id ∧ x.n = e.n := by
 unfold qR at h;obtain ⟨x, hx, rfl⟩ := List.mem_map.1 h;exact ⟨rfl, x, hx, rfl, rfl⟩
theorem xE {L : List Nm} {e : Nm} (h : e ∈ L) : (⟨e.id, e.n, 0⟩ : Nm) ∈ qR L := List.mem_map.2 ⟨e, h, rfl⟩
theorem kR {L : List Nm} (h : xS L) : xS (qR L) := ⟨by rw [mg]; exact h.ids, by rw [rH]; exact h.ns⟩
theorem ak {c : Int → Nat} : ∀ {L : List Nm}, (∀ e ∈ L, e.u = c e.id) → Pos L → Wi (qR L) c = L
 | [], _, _ => rfl
 | e :: l, h, hp => by
  have h1 := h e (by simp);have h2 := hp e (by simp);show Wi (⟨e.id, e.n, 0⟩ :: qR l) c = _;rw [Yb, ak (fun x hx => h x (List.mem_cons_of_mem _ hx)) fun x hx => hp x (List.mem_cons_of_mem _ hx)];simp only;rw [if_neg (by omega), Nat.zero_add, ← h1]
theorem j3.Wi {L : List Nm} {A : List Int} (h : j3 L A) : Wi (qR L) (fun k => A.count k) = L := ak h.us h.pos
theorem j3.of {M : List Nm} {A : List Int} (hd : xS M) (h0 : ∀ e ∈ M, e.u = 0) (hi : ∀ i ∈ A, ∃ e ∈ M, e.id = i) : j3 (Proofs.YtejmbmenbailmaaGreat.Wi M fun k => A.count k) A := by
 refine ⟨ay _ hd, fun e he => ?_, fun e he => ?_, fun i hA => ?_⟩
 ·obtain ⟨x, hx, rfl, _⟩ := Vy.1 he;show x.u + A.count x.id = A.count x.id;rw [h0 x hx, Nat.zero_add]
 ·obtain ⟨x, hx, rfl, h1⟩ := Vy.1 he;exact Nat.pos_of_ne_zero h1
 ·obtain ⟨e, he, rfl⟩ := hi i hA;refine ⟨_, Vy.2 ⟨e, he, rfl, ?_⟩, rfl⟩;have := List.count_pos_iff.2 hA;show e.u + A.count e.id ≠ 0;omega
theorem j3.adds {N : Nat} {l : List Bs} {D : List (Option Bt)} {L : List Nm} {A : List Int} (h : j3 L A) (hD : ∀ e ∈ L, (Zi D e.id).isSome = true) : j3 (wK N D L l).L (A ++ (wK N D L l).ids) := by
 obtain ⟨M, i1, i2, i3, i4, _, _⟩ := XV N l D (qR L) (fun k => A.count k) (kR h.dis) (fun e he => by
  obtain ⟨_, x, hx, h1, _⟩ := XC he;rw [← h1]; exact hD x hx) (fun e he => by
  obtain ⟨_, x, hx, h1, _⟩ := XC he;have := h.us x hx;have := h.pos x hx;show 1 ≤ e.u + A.count e.id;rw [← h1]; omega) (fun i hi => by
  refine List.count_eq_zero.2 fun hA => ?_
  obtain ⟨e, he, rfl⟩ := h.ids i hA;exact hi _ (xE he) rfl)
 rw [h.Wi] at i3 i4;rw [i3];have hc : (fun k => A.count k + (wK N D L l).ids.count k) = fun k => (A ++ (wK N D L l).ids).count k := by
  funext k; rw [List.count_append]
 rw [hc];refine j3.of i2 (fun e he => ?_) (fun i hi => ?_)
 ·rcases List.mem_append.1 he with he | he
  ·exact (XC he).1
  ·exact i1 e he
 ·rcases List.mem_append.1 hi with hi | hi
  ·obtain ⟨e, he, h1⟩ := h.ids i hi;exact ⟨_, List.mem_append.2 (.inl (xE he)), h1⟩
  ·exact i4 i hi
/-- numbers are given back -/
theorem j3.drops {L : List Nm} {A ids R : List Int} (h : j3 L A) (hA : ∀ k, A.count k = R.count k + ids.count k) : j3 (drops L ids) R ∧ ∀ e ∈ L, e.id ∈ R → ∃ e' ∈ Proofs.YtejmbmenbailmaaGreat.drops L ids, e'.id = e.id ∧ e'.n = e.n := by
 have hb := h.Wi;have hmem : ∀ i, i ∈ R ∨ i ∈ ids → i ∈ A := fun i hi => by
  rw [← List.count_pos_iff, hA];rcases hi with hi | hi
  ·have := List.count_pos_iff.2 hi; omega
  ·have := List.count_pos_iff.2 hi; omega
 have hfun : (fun k => A.count k) = fun k => R.count k + ids.count k := funext hA
 have hd : Proofs.YtejmbmenbailmaaGreat.drops L ids = Proofs.YtejmbmenbailmaaGreat.Wi (qR L) (fun k => R.count k) := by
  rw [← hb, hfun];have := Xe (ids := ids) (L := qR L) (c := fun k => R.count k) (kR h.dis).ids (fun i hi => by
   obtain ⟨e, he, h1⟩ := h.ids i (hmem i (.inr hi));exact ⟨_, xE he, h1⟩)
  rw [hfun] at hb;rw [hb] at this ⊢;exact this
 rw [hd];refine ⟨j3.of (kR h.dis) (fun e he => (XC he).1) (fun i hi => ?_), fun e he hR => ?_⟩
 ·obtain ⟨e, he, h1⟩ := h.ids i (hmem i (.inl hi));exact ⟨_, xE he, h1⟩
 ·refine ⟨_, Vy.2 ⟨_, xE he, rfl, ?_⟩, rfl, rfl⟩;have := List.count_pos_iff.2 hR;show 0 + R.count e.id ≠ 0;omega
theorem j3.empty {L : List Nm} (h : j3 L []) : L = [] := by
 cases L with
 | nil => rfl
 | cons e l =>
  have h1 := h.us e (by simp);have h2 := h.pos e (by simp);simp at h1; omega
/-! ### arenas that are alike -/
def UL (D D' : List (Option Bt)) : Prop := ∀ i, (Zi D i).map List.length = (Zi D' i).map List.length
theorem UL.symm {D D' : List (Option Bt)} (h : UL D D') : UL D' D := fun i => (h i).symm
theorem UL.trans {D D' D'' : List (Option Bt)} (h : UL D D') (k : UL D' D'') : UL D D'' := fun i => (h i).trans (k i)
theorem UL.refl (D : List (Option Bt)) : UL D D := fun _ => rfl
theorem UL.stand {D D' : List (Option Bt)} (h : UL D D') (i : Int) : (Zi D i).isSome = (Zi D' i).isSome := by
 have := congrArg Option.isSome (h i);simpa using this
theorem JM {D D' : List (Option Bt)} (h : UL D D') (i : Nat) : ((D[i]?).join).map List.length = ((D'[i]?).join).map List.length := by
 have := h ((i : Int) + 1)
 rwa [Zz, Zz] at this
theorem Kh {D D' : List (Option Bt)} (h : bW D = bW D') : UL D D' := fun i => by
 unfold Zi;split
 ·have h1 := congrArg (fun l => (l[(i - 1).toNat]?).join) h;simp only [bW, List.getElem?_map] at h1;cases h2 : D[(i - 1).toNat]? with
  | none =>
   rw [h2] at h1;cases h3 : D'[(i - 1).toNat]? with
   | none => rfl
   | some y => rw [h3] at h1; simpa using h1
  | some x =>
   rw [h2] at h1;cases h3 : D'[(i - 1).toNat]? with
   | none => rw [h3] at h1; simpa using h1
   | some y => rw [h3] at h1; simpa using h1
 ·rfl
theorem U7 {D D' : List (Option Bt)} (h : UL D D') : hnd D = hnd D' := by
 refine J2 (wO D) (fun i hi => ?_) ?_
 ·obtain ⟨b, hb⟩ := xI D i hi;have := JM h i;rw [hb] at this;cases h2 : D'[i]? with
  | none => rw [h2] at this; simp at this
  | some x =>
   cases x with
   | none => rw [h2] at this; simp at this
   | some c => exact ⟨c, rfl⟩
 ·have := JM h (hnd D - 1);rw [vL D] at this;cases h2 : (D'[hnd D - 1]?).join with
  | none => rfl
  | some c => rw [h2] at this; simp at this
theorem U5 : ∀ {D : List (Option Bt)}, (∀ i : Nat, (D[i]?).join = none) → Zd D = 0
 | [], _ => rfl
 | a :: l, h => by
  have h0 := h 0;simp only [List.getElem?_cons_zero, Option.join_some] at h0;subst h0;have ih := U5 (D := l) fun i => by simpa using h (i + 1)
  unfold Zd at ih ⊢;rw [List.map_cons, List.sum_cons, ih]; rfl
theorem Q6 : ∀ {D D' : List (Option Bt)}, (∀ i : Nat, ((D[i]?).join).map List.length = ((D'[i]?).join).map List.length) → Zd D = Zd D'
 | [], D', h => (U5 (D := D') fun i => by
  have := h i;cases h2 : (D'[i]?).join with
  | none => rfl
  | some c => rw [h2] at this; simp at this).symm
 | a :: l, [], h => U5 (D := a :: l) fun i => by
  have := h i;cases h2 : ((a :: l)[i]?).join with
  | none => rfl
  | some c => rw [h2] at this; simp at this
 | a :: l, b :: m, h => by
  have h0 := h 0;have ih := Q6 (D := l) (D' := m) fun i => by simpa using h (i + 1)
  simp only [List.getElem?_cons_zero, Option.join_some] at h0;unfold Zd at ih ⊢;rw [List.map_cons, List.sum_cons, List.map_cons, List.sum_cons, ih];congr 1;cases a with
  | none =>
   cases b with
   | none => rfl
   | some y => simp at h0
  | some x =>
   cases b with
   | none => simp at h0
   | some y =>
    have : x.length = y.length := by simpa using h0
    show Z0 x.length = Z0 y.length;rw [this]
theorem eD {D D' : List (Option Bt)} (h : UL D D') : Zd D = Zd D' := Q6 (JM h)
theorem yw {D D' : List (Option Bt)} (h : UL D D') (N : Nat) (n : Int) : ZB N D n = ZB N D' n := by unfold ZB; rw [eD h]
theorem YH {D D' : List (Option Bt)} (h : UL D D') (m : Nat) : UL (ZC D m) (ZC D' m) := fun i => by
 by_cases hi : i = ((hnd D : Nat) : Int)
 ·have h2 := wU D' m;rw [← U7 h] at h2;rw [hi, wU, h2]
 ·rw [Zt hi, Zt (by rw [← U7 h]; exact hi)]; exact h i
theorem X8 (D : List (Option Bt)) (i : Int) : Zi (WM D i) i = none := by
 cases hb : Zi D i with
 | some b => exact YZ hb
 | none => unfold WM; rw [hb, if_neg (by decide)]; exact hb
theorem jD {D D' : List (Option Bt)} (h : UL D D') (i : Int) : UL (WM D i) (WM D' i) := fun k => by
 by_cases hk : k = i
 ·rw [hk, X8, X8]
 ·rw [ZX hk, ZX hk]; exact h k
theorem mX {D : List (Option Bt)} {h : Int} {b Y : Bt} (hg : Zi D h = some b) (hl : Y.length = b.length) : UL (D.set (h - 1).toNat (some Y)) D := Kh (XJ hg hl)
theorem WZ.stand {D : List (Option Bt)} {L : List Nm} {B : List (Int × Bs)} (h : WZ D L B) : ∀ e ∈ L, (Zi D e.id).isSome = true := fun e he => by rw [h.blk e he]; rfl
theorem WZ.empty {D : List (Option Bt)} (h : WZ D [] []) : Zd D = 0 := by
 refine U5 fun i => ?_
 cases hb : (D[i]?).join with
 | none => rfl
 | some b =>
  rw [← Zz] at hb;rcases h.all _ b hb with ⟨e, he, _⟩ | ⟨x, hx, _⟩
  ·simp at he
  ·simp at hx
/-- a block more, of others -/
theorem WZ.alloc {D : List (Option Bt)} {L : List Nm} {B : List (Int × Bs)} (h : WZ D L B) (m : Nat) : WZ (ZC D m) L ((((hnd D : Nat) : Int), zeros m) :: B) := by
 have hno := yP D;have hid : ∀ e ∈ L, e.id ≠ ((hnd D : Nat) : Int) := fun x hx e => by
  have := h.blk x hx;rw [e, hno] at this; cases this
 refine ⟨h.dis, fun e he => by rw [Zt (hid e he)]; exact h.blk e he, fun x hx => ?_, fun i b hib => ?_, h.us, h.fold⟩
 ·rcases List.mem_cons.1 hx with rfl | hx
  ·exact ⟨wU D m, hid⟩
  ·obtain ⟨h1, h2⟩ := h.oth x hx;have hne : x.1 ≠ ((hnd D : Nat) : Int) := fun e => by rw [e, hno] at h1; cases h1
   exact ⟨by rw [Zt hne]; exact h1, h2⟩
 ·by_cases hi : i = ((hnd D : Nat) : Int)
  ·exact .inr ⟨_, List.mem_cons_self, hi.symm⟩
  ·rw [Zt hi] at hib;rcases h.all i b hib with hx | ⟨x, hx, hxi⟩
   ·exact .inl hx
   ·exact .inr ⟨x, List.mem_cons_of_mem _ hx, hxi⟩
/-- handles of others are told once -/
def Hs (B : List (Int × Bs)) : Prop := (B.map (·.1)).Nodup
theorem WZ.write {D : List (Option Bt)} {L : List Nm} {B : List (Int × Bs)} {k : Int} {b Y : Bs} (h : WZ D L ((k, b) :: B)) (hh : Hs ((k, b) :: B)) : WZ (D.set (k - 1).toNat (some Y)) L ((k, Y) :: B) := by
 obtain ⟨h1, h2⟩ := h.oth (k, b) (by simp);have hg : Zi D k = some b := h1;have hne : ∀ x ∈ B, x.1 ≠ k := fun x hx e => (List.nodup_cons.1 hh).1 (List.mem_map.2 ⟨x, hx, e⟩)
 refine ⟨h.dis, fun e he => by rw [WB hg, if_neg (h2 e he)]; exact h.blk e he, fun x hx => ?_, fun i c hib => ?_, h.us, h.fold⟩
 ·rcases List.mem_cons.1 hx with rfl | hx
  ·exact ⟨by rw [WB hg, if_pos rfl], h2⟩
  ·obtain ⟨h3, h4⟩ := h.oth x (List.mem_cons_of_mem _ hx);exact ⟨by rw [WB hg, if_neg (hne x hx)]; exact h3, h4⟩
 ·rw [WB hg] at hib;by_cases hi : i = k
  ·exact .inr ⟨_, List.mem_cons_self, hi.symm⟩
  ·rw [if_neg hi] at hib;rcases h.all i c hib with hx | ⟨x, hx, hxi⟩
   ·exact .inl hx
   ·rcases List.mem_cons.1 hx with rfl | hx
    ·exact absurd hxi.symm hi
    ·exact .inr ⟨x, List.mem_cons_of_mem _ hx, hxi⟩
/-- a block of others goes -/
theorem WZ.free {D : List (Option Bt)} {L : List Nm} {B B' : List (Int × Bs)} {k : Int} {b : Bs} (h : WZ D L B) (hm : (k, b) ∈ B) (hB : ∀ x, x ∈ B' ↔ x ∈ B ∧ x.1 ≠ k) : WZ (WM D k) L B' := by
 obtain ⟨h1, h2⟩ := h.oth (k, b) hm;refine ⟨h.dis, fun e he => by rw [ZX (h2 e he)]; exact h.blk e he, fun x hx => ?_, fun i c hib => ?_, h.us, h.fold⟩
 ·obtain ⟨h3, h4⟩ := (hB x).1 hx;obtain ⟨h5, h6⟩ := h.oth x h3;exact ⟨by rw [ZX h4]; exact h5, h6⟩
 ·by_cases hi : i = k
  ·rw [hi, X8] at hib; cases hib
  ·rw [ZX hi] at hib;rcases h.all i c hib with hx | ⟨x, hx, hxi⟩
   ·exact .inl hx
   ·exact .inr ⟨x, (hB x).2 ⟨hx, by rw [hxi]; exact hi⟩, hxi⟩
end Go.Proofs.YtejmbmenbailmaaGreat
namespace Go.Proofs.YtejmbmenbailmaaGreat
open Go.Xs
open Enc (enc)
def Xq : Nat → List Bs → List Pl
 | _, [] => []
 | a, x :: xs => ⟨a, x.length⟩ :: Xq (a + x.length) xs
theorem QB : ∀ (a : Nat) (xs : List Bs), (Xq a xs).length = xs.length
 | _, [] => rfl
 | a, x :: xs => by show (Xq _ xs).length + 1 = xs.length + 1; rw [QB]
theorem jT : ∀ {a : Nat} {xs zs : List Bs}, xs.map List.length = zs.map List.length → Xq a xs = Xq a zs
 | _, [], [], _ => rfl
 | _, [], _ :: _, h => by simp at h
 | _, _ :: _, [], h => by simp at h
 | a, x :: xs, y :: zs, h => by
  rw [List.map_cons, List.map_cons, List.cons.injEq] at h;show (⟨a, x.length⟩ : Pl) :: Xq (a + x.length) xs = ⟨a, y.length⟩ :: Xq (a + y.length) zs;rw [h.1, jT h.2]
theorem Kq : ∀ (xs : List Bs) (P Z : Bs), (∀ x ∈ xs, vG x = true) → Yk (P ++ xs.flatten ++ Z) xs.length P.length = some (Xq P.length xs, P.length + xs.flatten.length)
 | [], P, Z, _ => rfl
 | x :: xs, P, Z, h => by
  have hx := h x (by simp);have hd : (P ++ (x :: xs).flatten ++ Z).drop P.length = x ++ (xs.flatten ++ Z) := by
   rw [List.flatten_cons, List.append_assoc, List.append_assoc, List.drop_left]
  have hl := gZ (Z := xs.flatten ++ Z) hx;have ih := Kq xs (P ++ x) Z (fun y hy => h y (List.mem_cons_of_mem _ hy));have e : P ++ (x :: xs).flatten ++ Z = P ++ x ++ xs.flatten ++ Z := by rw [List.flatten_cons, List.append_assoc P x]
  rw [List.length_append] at ih;show Yk _ (xs.length + 1) P.length = _;unfold Yk;rw [hd, hl, e];simp only [if_true, ih, Option.map_some];show some (_, _) = some (_, _);rw [List.flatten_cons, List.length_append, Nat.add_assoc]; rfl
theorem yC {d : Bs} : ∀ {k a : Nat} {l : List Pl} {e : Nat}, Yk d k a = some (l, e) → a ≤ d.length → ∃ xs : List Bs, xs.length = k ∧ (∀ x ∈ xs, vG x = true) ∧ l = Xq a xs ∧ d.drop a = xs.flatten ++ d.drop e ∧ l.map (Uk d) = xs ∧ e = a + xs.flatten.length
 | 0, a, l, e, h, ha => by
  obtain ⟨rfl, rfl⟩ := Prod.mk.inj (Option.some.inj h);exact ⟨[], rfl, fun x hx => by simp at hx, rfl, rfl, rfl, rfl⟩
 | k + 1, a, l, e, h, ha => by
  unfold Yk at h;split at h
  ·next h2 =>
   have hl : lead (d.drop a) = ((lead (d.drop a)).1, true) := by rw [← h2]
   have hp := vJ hl;have hv := (yI.1 hl).2;rw [List.length_drop] at hp;cases hx : Yk d k (a + (lead (d.drop a)).1) with
   | none => rw [hx] at h; cases h
   | some x =>
    obtain ⟨l2, e2⟩ := x;rw [hx] at h;obtain ⟨rfl, rfl⟩ := Prod.mk.inj (Option.some.inj h);obtain ⟨xs, i1, i2, i3, i4, i5, i6⟩ := yC hx (by omega);have hlen : ((d.drop a).take (lead (d.drop a)).1).length = (lead (d.drop a)).1 := by rw [List.length_take, List.length_drop]; omega
    refine ⟨(d.drop a).take (lead (d.drop a)).1 :: xs, by rw [List.length_cons, i1], fun y hy => ?_, ?_, ?_, ?_, ?_⟩
    ·rcases List.mem_cons.1 hy with rfl | hy
     ·exact hv
     ·exact i2 y hy
    ·show _ = (⟨a, _⟩ : Pl) :: Xq _ xs;rw [hlen, i3]
    ·rw [List.flatten_cons, List.append_assoc, ← i4, ← List.drop_drop, List.take_append_drop]
    ·rw [List.map_cons, i5]; rfl
    ·rw [List.flatten_cons, List.length_append, hlen, i6, Nat.add_assoc]
  ·cases h
theorem Uv {t : Int} {x : Nat × Nat × Nat} (h : ZY t = some x) : t ≠ 1 ∧ t ≠ 28 ∧ t ≠ 16 ∧ 1 ≤ x.2.1 := by
 unfold ZY at h;split at h
 ·obtain rfl := Option.some.inj h; exact ⟨by omega, by omega, by omega, Nat.le_refl _⟩
 ·split at h
  ·obtain rfl := Option.some.inj h; exact ⟨by omega, by omega, by omega, Nat.le_refl _⟩
  ·split at h
   ·obtain rfl := Option.some.inj h; exact ⟨by omega, by omega, by omega, Nat.le_refl _⟩
   ·split at h
    ·obtain rfl := Option.some.inj h; exact ⟨by omega, by omega, by omega, by decide⟩
    ·cases h
/-- data in three parts: bytes, names, bytes -/
structure Form (t : Int) (d : Bs) (P : Bs) (xs : List Bs) (Z : Bs) : Prop where
 shape : ZY t = some (P.length, xs.length, Z.length)
 eq : d = P ++ xs.flatten ++ Z
 vG : ∀ x ∈ xs, vG x = true
theorem Form.X0 {t : Int} {d P : Bs} {xs : List Bs} {Z : Bs} (h : Form t d P xs Z) : X0 t d = some (Xq P.length xs) := by
 unfold Proofs.YtejmbmenbailmaaGreat.X0;rw [h.shape];have := Kq xs P Z h.vG;rw [← h.eq] at this;have hl : d.length = P.length + xs.flatten.length + Z.length := by rw [h.eq, List.length_append, List.length_append]
 simp only;rw [if_neg (by omega), this];simp only;rw [if_pos hl]
theorem Form.ok {t : Int} {d P : Bs} {xs : List Bs} {Z : Bs} (h : Form t d P xs Z) (hd : d.length ≤ 1000) : ZH t d = true ∧ prt t d = Xq P.length xs := by
 have hk := Uv h.shape;have h1 : ZH t d = true := by
  unfold ZH;rw [if_neg (by omega), if_neg hk.1, if_neg hk.2.1, if_neg hk.2.2.1, h.X0]; rfl
 refine ⟨h1, ?_⟩;unfold prt;rw [if_pos h1, h.X0]; rfl
theorem wS {t : Int} {d : Bs} (h : ZH t d = true) : d.length ≤ 1000 := by
 unfold ZH at h;split at h
 ·cases h
 ·omega
theorem KL {t : Int} {d : Bs} (h : ZH t d = true) {x : Nat × Nat × Nat} (hs : ZY t = some x) : ∃ P xs Z, Form t d P xs Z ∧ (prt t d).map (Uk d) = xs := by
 have hk := Uv hs;have h0 := h;have hlen := wS h;unfold ZH at h;rw [if_neg (by omega), if_neg hk.1, if_neg hk.2.1, if_neg hk.2.2.1] at h;have hprt : ∀ l, X0 t d = some l → prt t d = l := fun l hl => by unfold prt; rw [if_pos h0, hl]; rfl
 obtain ⟨a, k, b⟩ := x;unfold X0 at h hprt;rw [hs] at h hprt;simp only at h hprt;split at h
 ·cases h
 ·next ha =>
  rw [if_neg ha] at hprt;split at h
  ·next l e hp =>
   rw [hp] at hprt;split at h
   ·next he =>
    obtain ⟨xs, i1, i2, i3, i4, i5, i6⟩ := yC hp (by omega);have hpe := hprt l (by simp only; rw [if_pos he]);refine ⟨d.take a, xs, d.drop e, ⟨?_, ?_, i2⟩, by rw [hpe]; exact i5⟩
    ·rw [hs, i1, List.length_take, List.length_drop];congr 2
     ·omega
     ·congr 1; omega
    ·rw [List.append_assoc, ← i4, List.take_append_drop]
   ·cases h
  ·cases h
theorem uT {t : Int} {d : Bs} (hs : ZY t = none) : prt t d = [] := by
 unfold prt X0;rw [hs];split <;> rfl
theorem YG : ∀ (xs zs : List Bs) (P Z : Bs), zs.length = xs.length → splice (P ++ xs.flatten ++ Z) P.length (Xq P.length xs) zs = zs.flatten ++ Z
 | [], zs, P, Z, h => by
  have : zs = [] := List.length_eq_zero_iff.1 h;subst this;show (P ++ [] ++ Z).drop P.length = [] ++ Z;rw [List.append_nil, List.drop_left]; rfl
 | x :: xs, [], P, Z, h => by simp at h
 | x :: xs, y :: zs, P, Z, h => by
  have ih := YG xs zs (P ++ x) Z (by simpa using h);have e : P ++ (x :: xs).flatten ++ Z = P ++ x ++ xs.flatten ++ Z := by rw [List.flatten_cons, List.append_assoc P x]
  rw [List.length_append] at ih;rw [e];show ((P ++ x ++ xs.flatten ++ Z).drop P.length).take (P.length - P.length) ++ y ++ splice (P ++ x ++ xs.flatten ++ Z) (P.length + x.length) (Xq (P.length + x.length) xs) zs = _;rw [ih, Nat.sub_self, List.take_zero, List.nil_append, List.flatten_cons, List.append_assoc]
theorem Form.splice {t : Int} {d P : Bs} {xs : List Bs} {Z : Bs} (h : Form t d P xs Z) {zs : List Bs} (hy : zs.length = xs.length) : splice d 0 (Xq P.length xs) zs = P ++ zs.flatten ++ Z := by
 have hk := (Uv h.shape).2.2.2;have := YG xs zs P Z hy;rw [← h.eq] at this;cases xs with
 | nil => simp at hk
 | cons x xs =>
  cases zs with
  | nil => simp at hy
  | cons y zs =>
   have e1 : Proofs.YtejmbmenbailmaaGreat.splice d P.length (Xq P.length (x :: xs)) (y :: zs) = y ++ Proofs.YtejmbmenbailmaaGreat.splice d (P.length + x.length) (Xq (P.length + x.length) xs) zs := by
    show (d.drop P.length).take (P.length - P.length) ++ y ++ _ = _;rw [Nat.sub_self, List.take_zero]; rfl
   rw [e1] at this;show (d.drop 0).take (P.length - 0) ++ y ++ Proofs.YtejmbmenbailmaaGreat.splice d (P.length + x.length) (Xq (P.length + x.length) xs) zs = _;rw [List.append_assoc, this, List.drop_zero, Nat.sub_zero, List.append_assoc];congr 1;rw [h.eq, List.append_assoc, List.take_left]
/-- folded -/
theorem Form.fold {t : Int} {d P : Bs} {xs : List Bs} {Z : Bs} (h : Form t d P xs Z) : Form t (P ++ (xs.map zA).flatten ++ Z) P (xs.map zA) Z := by
 refine ⟨by rw [List.length_map]; exact h.shape, rfl, fun x hx => ?_⟩;obtain ⟨y, hy, rfl⟩ := List.mem_map.1 hx;rw [VL]; exact h.vG y hy
theorem ko (xs : List Bs) : (xs.map zA).map List.length = xs.map List.length := by
 rw [List.map_map]; exact List.map_congr_left fun x _ => wY x
theorem iO (xs zs : List Bs) (h : xs.map List.length = zs.map List.length) : xs.flatten.length = zs.flatten.length := by
 rw [List.length_flatten, List.length_flatten, h]
theorem Form.cut {t : Int} {d P : Bs} {xs : List Bs} {Z : Bs} (h : Form t d P xs Z) (hd : d.length ≤ 1000) : (prt t d).map (Uk d) = xs := by
 rw [(h.ok hd).2];have := Kq xs P Z h.vG;rw [← h.eq] at this;obtain ⟨zs, _, _, i3, i4, i5, i6⟩ := yC this (by rw [h.eq, List.length_append, List.length_append]; omega);rw [i5];have hm : Xq P.length xs = Xq P.length zs := i3
 -- the same lengths, the same bytes
 have key : ∀ (a : Nat) (xs zs : List Bs) (Z Z' : Bs), Xq a xs = Xq a zs → xs.flatten ++ Z = zs.flatten ++ Z' → xs = zs := by
  intro a xs
  induction xs generalizing a with
  | nil =>
   intro zs Z Z' h1 _;cases zs with
   | nil => rfl
   | cons y zs => cases h1
  | cons x xs ih =>
   intro zs Z Z' h1 h2;cases zs with
   | nil => cases h1
   | cons y zs =>
    have h3 : (⟨a, x.length⟩ : Pl) :: Xq (a + x.length) xs = ⟨a, y.length⟩ :: Xq (a + y.length) zs := h1;obtain ⟨h4, h5⟩ := List.cons.inj h3;have hl : x.length = y.length := congrArg Pl.n h4;rw [List.flatten_cons, List.flatten_cons, List.append_assoc, List.append_assoc] at h2;obtain ⟨h6, h7⟩ := List.append_inj h2 hl;rw [h6, ih _ _ _ _ (by rw [hl] at h5; rw [← hl] at h5; rw [h5, hl]) h7]
 refine (key P.length xs zs Z (d.drop (P.length + xs.flatten.length)) hm ?_).symm;rw [← i4, h.eq, List.append_assoc, List.drop_left]
theorem Form.J3 {t : Int} {d P : Bs} {xs : List Bs} {Z : Bs} (h : Form t d P xs Z) : (P ++ (xs.map zA).flatten ++ Z).length = d.length := by
 rw [h.eq, List.length_append, List.length_append, List.length_append, List.length_append, iO _ _ (ko xs)]
theorem yT {t : Int} {d P : Bs} {xs : List Bs} {Z : Bs} (h : Form t d P xs Z) (hd : d.length ≤ 1000) : WO t d = P ++ (xs.map zA).flatten ++ Z := by
 have h1 := h.cut hd;unfold WO;have : ((prt t d).map fun p => zA (Uk d p)) = xs.map zA := by rw [← h1, List.map_map]; rfl
 rw [this, (h.ok hd).2];exact h.splice (by rw [List.length_map])
theorem yS {t : Int} {d : Bs} (hs : ZY t = none) : WO t d = d := by
 unfold WO;rw [uT hs]; rfl
/-- data folded is as good -/
theorem yR {t : Int} {d : Bs} (h : ZH t d = true) : ZH t (WO t d) = true ∧ prt t (WO t d) = prt t d ∧ (WO t d).length = d.length := by
 cases hs : ZY t with
 | none => rw [yS hs]; exact ⟨h, rfl, rfl⟩
 | some x =>
  have hd := wS h;obtain ⟨P, xs, Z, hf, _⟩ := KL h hs;rw [yT hf hd];have hl := hf.J3;obtain ⟨h1, h2⟩ := hf.fold.ok (by omega);exact ⟨h1, by rw [h2, (hf.ok hd).2, jT (ko xs)], hl⟩
theorem kI {r : RR} {P : Bs} {xs : List Bs} {Z : Bs} (h : Form r.t r.d P xs Z) (hd : r.d.length ≤ 1000) {ids : List Int} (hi : ids.length = xs.length) : WW r ids = P ++ (ids.map Uj).flatten ++ Z := by
 unfold WW;rw [(h.ok hd).2];exact h.splice (by rw [List.length_map, hi])
theorem kH {r : RR} (hs : ZY r.t = none) (ids : List Int) : WW r ids = r.d := by
 unfold WW;rw [uT hs];cases ids <;> rfl
theorem QK : ∀ (ids : List Int), (ids.map Uj).flatten.length = 4 * ids.length
 | [] => rfl
 | i :: l => by rw [List.map_cons, List.flatten_cons, List.length_append, QK l, List.length_cons, Uj, Zu]; omega
theorem Qa : ∀ (a : Nat) (xs : List Bs), wZ ((Xq a xs).map fun p => 4 - (p.n : Int)) = 4 * (xs.length : Int) - (xs.flatten.length : Int)
 | _, [] => rfl
 | a, x :: xs => by
  show wZ ((4 - (x.length : Int)) :: (Xq (a + x.length) xs).map fun p => 4 - (p.n : Int)) = _;rw [Vd, Qa, List.flatten_cons, List.length_append, List.length_cons]
  push_cast
  omega
theorem Jc {r : RR} (h : ZH r.t r.d = true) {ids : List Int} (hi : ids.length = (prt r.t r.d).length) : ((WW r ids).length : Int) = vH r - 2 := by
 unfold vH;cases hs : ZY r.t with
 | none => rw [kH hs, uT hs]; show (r.d.length : Int) = 2 + r.d.length + 0 - 2; omega
 | some x =>
  have hd := wS h;obtain ⟨P, xs, Z, hf, _⟩ := KL h hs;have hp := (hf.ok hd).2;rw [hp, QB] at hi;rw [kI hf hd hi, hp, Qa, hf.eq];rw [List.length_append, List.length_append, List.length_append, List.length_append, QK, hi]
  push_cast
  omega
theorem mW {r : RR} (h : ZH r.t r.d = true) : 2 ≤ vH r := by
 have := Jc h (ids := List.replicate (prt r.t r.d).length 0) (by simp);omega
theorem jJ : ∀ {l : List RR} {ids : List Int}, (∀ r ∈ l, ZH r.t r.d = true) → ids.length = ((l.map Zr).flatten).length → ((Ux l ids).length : Int) = wZ (l.map vH)
 | [], _, _, _ => rfl
 | r :: l, ids, h, hi => by
  rw [List.map_cons, List.flatten_cons, List.length_append, Zr, List.length_map] at hi;have hd : WW r ids = WW r (ids.take (prt r.t r.d).length) := by
   unfold WW;have key : ∀ (d : Bs) (l : List Pl) (a : Nat) (xs : List Bs), splice d a l xs = splice d a l (xs.take l.length) := by
    intro d l
    induction l with
    | nil => intro a xs; cases xs <;> rfl
    | cons p l ih =>
     intro a xs;cases xs with
     | nil => rfl
     | cons x xs =>
      show _ = splice d a (p :: l) (x :: xs.take l.length);show (d.drop a).take (p.at_ - a) ++ x ++ splice d (p.at_ + p.n) l xs = (d.drop a).take (p.at_ - a) ++ x ++ splice d (p.at_ + p.n) l (xs.take l.length);rw [← ih]
   rw [key, List.map_take]
  have h1 := Jc (h r (by simp)) (ids := ids.take (prt r.t r.d).length) (by rw [List.length_take]; omega);have ih := jJ (l := l) (ids := ids.drop (prt r.t r.d).length) (fun x hx => h x (List.mem_cons_of_mem _ hx)) (by rw [List.length_drop]; omega);show ((Ui 2 (WW r ids).length ++ WW r ids ++ Ux l (ids.drop (prt r.t r.d).length)).length : Int) = _;rw [List.length_append, List.length_append, Zu, List.map_cons, Vd, ← ih];rw [← hd] at h1
  push_cast
  omega
theorem xP {s : St} {ids : List Int} (h : ∀ r ∈ s.rrs, ZH r.t r.d = true) (hi : ids.length = (Z7 s).length) : ((Wj s ids).length : Int) = Zn s := by
 have h1 : ids.length = ((s.rrs.map Zr).flatten).length + 2 := by rw [hi]; rfl
 have := jJ (l := s.rrs) (ids := ids.drop 2) h (by rw [List.length_drop]; omega);unfold Wj Zn Uj;simp only [List.length_append, Zu];rw [← this]
 push_cast
 omega
theorem Wt {s : St} (h : vU s = true) : ∀ r ∈ s.rrs, ZH r.t r.d = true ∧ r.t = s.typ := fun r hr => by
 unfold vU at h;simp only [Bool.and_eq_true] at h;have := List.all_eq_true.1 h.2 r hr;unfold Xx at this;simp only [Bool.and_eq_true, decide_eq_true_eq] at this;exact ⟨this.2, this.1.1.2⟩
theorem VU {s : St} (h : vU s = true) : vG s.name = true ∧ vG s.zone = true ∧ 1 ≤ s.typ ∧ s.typ ≤ 65535 ∧ 0 ≤ s.kind ∧ s.kind ≤ 2 ∧ s.rrs.length ≤ 32 ∧ (0 < s.rrs.length ↔ s.kind = 0) := by
 unfold vU at h;simp only [Bool.and_eq_true, decide_eq_true_eq, beq_iff_eq] at h;obtain ⟨⟨⟨⟨⟨h1, h2⟩, h3⟩, h4⟩, h5⟩, _⟩ := h;exact ⟨h1, h2, h3.1, h3.2.1, h3.2.2.1, h3.2.2.2, h4, decide_eq_decide.1 h5⟩
theorem iM {s : St} (h : vU s = true) : vU (ZA s) = true ∧ Zn (ZA s) = Zn s := by
 have hn := VU h;have hd := Wt h;constructor
 ·unfold vU ZA;simp only [Bool.and_eq_true, decide_eq_true_eq, beq_iff_eq, List.length_map];refine ⟨⟨⟨⟨⟨by rw [VL]; exact hn.1, by rw [VL]; exact hn.2.1⟩, ⟨hn.2.2.1, hn.2.2.2.1, hn.2.2.2.2.1, hn.2.2.2.2.2.1⟩⟩, hn.2.2.2.2.2.2.1⟩, decide_eq_decide.2 hn.2.2.2.2.2.2.2⟩, List.all_eq_true.2 fun r hr => ?_⟩;obtain ⟨x, hx, rfl⟩ := List.mem_map.1 hr;obtain ⟨h1, h2⟩ := hd x hx;unfold Xx YJ;simp only [Bool.and_eq_true, decide_eq_true_eq, beq_self_eq_true, VL, hn.1, and_self, true_and];exact ⟨⟨h2, trivial⟩, (yR h1).1⟩
 ·unfold Zn ZA;simp only [List.map_map];congr 2;refine List.map_congr_left fun r hr => ?_
  obtain ⟨h2, h3, h4⟩ := yR (hd r hr).1;show vH ⟨zA s.name, r.t, 1, 0, WO r.t r.d⟩ = vH r;unfold vH;simp only;rw [h3, h4]
end Go.Proofs.YtejmbmenbailmaaGreat
namespace Go.Proofs.YtejmbmenbailmaaGreat
open Go.Xs
open Enc (enc)
theorem qw (Y : Bs) (j k : Nat) : (⟨Y.toArray⟩ : ByteArray).extract j k = ⟨((Y.drop j).take (k - j)).toArray⟩ := by
 apply ByteArray.ext;rw [ByteArray.data_extract];apply Array.toList_inj.1;simp
theorem Az (Y Z : Bs) : (⟨Y.toArray⟩ : ByteArray) ++ (⟨Z.toArray⟩ : ByteArray) = ⟨(Y ++ Z).toArray⟩ := by
 apply ByteArray.ext;rw [ByteArray.data_append];simp
theorem Ku {E : Env} {x i : Operand} {Y : Bs} {j : Nat} {q : IntKind} (h1 : ev E x = sv Y) (h2 : ev E i = .int q (j : Int)) (h : j ≤ Y.length) : zl (ev E) (.sslc x (some i) none) = some (sv (Y.drop j)) := by
 rw [nK (s := ⟨Y.toArray⟩) h1 h2 h, Q8, qw, List.take_of_length_le (by rw [List.length_drop]; omega)]
theorem pQ {E : Env} {x i i' : Operand} {Y : Bs} {j k : Nat} {q q' : IntKind} (h1 : ev E x = sv Y) (h2 : ev E i = .int q (j : Int)) (h2' : ev E i' = .int q' (k : Int)) (h : j ≤ k ∧ k ≤ Y.length) : zl (ev E) (.sslc x (some i) (some i')) = some (sv ((Y.drop j).take (k - j))) := by
 rw [Cz (s := ⟨Y.toArray⟩) h1 h2 h2' h, qw]
theorem jQ {E : Env} {x y : Operand} {Y Z : Bs} (h1 : ev E x = sv Y) (h2 : ev E y = sv Z) (h : Y.length + Z.length ≤ 9223372036854775807) : zl (ev E) (.bin .add x y) = some (sv (Y ++ Z)) := by
 simp only [zl, h1, h2, Ww, aH, Q8];rw [if_pos h, Az]
theorem JH {Y Z : Bs} : (⟨Y.toArray⟩ : ByteArray) = ⟨Z.toArray⟩ ↔ Y = Z := ⟨fun h => by have := congrArg (fun b : ByteArray => b.data.toList) h; simpa using this, fun h => by rw [h]⟩
theorem JR {E : Env} {S : zx} {t u s q : Tmp} {v v' v'' v3 : Value} (hv : E t = v) (hv' : E u = v') (hv'' : E s = v'') (hv3 : E q = v3) : Xw Tryz.prog #[.tmp t, .tmp u, .tmp s, .tmp q] E S (.tuple #[v, v', v'', v3]) := fun fn F w tmps h _ he => by
 rw [← hv, ← hv', ← hv'', ← hv3, ← he];simp [results, h, Sem.run_bind, Sem.run, Result.andThen, pure]
/-- append(b, s...) -/
theorem oQ {r : Option Nat} {n : Nat} {K : Env → zx → Prop} {E : Env} {S G : zx} {d : Option Tmp} {e bytes : Nat} {z : List Value} {s x : Operand} {v : Value} {L Y : Bs} {H : List Chunk} [hp : Pick S H G] (hs : ev E s = v) (hx : ev E x = sv Y) (hL : Zb e v L H)
 (hz : enc (0 : UInt8) = z) (hb : (L.length + Y.length) * bytes ≤ 140737488355328) (hl : L.length + Y.length ≤ 9223372036854775807)
 (h : ∀ v' H', Zb e v' (L ++ Y) H' → K (Zf d v' E) (H' :: G)) : YO Tryz.prog r n d (.app e 1 bytes z s x) K E S := by
 refine oP (α := UInt8) hs hx hL (fun F w _ => ⟨?_, ?_⟩) rfl (0 : UInt8) hz hb hl h
 ·show (pure (⟨Y.toArray⟩ : ByteArray).size : Sem Nat).run Tryz.prog w = _;simp [pure, Q8]
 ·show (pure (((⟨Y.toArray⟩ : ByteArray).extract 0 Y.length).data.map fun b => Value.int .u8 b.toNat) : Sem (Array Value)).run Tryz.prog w = _;rw [qw, List.drop_zero, Nat.sub_zero, List.take_length];have : (Y.toArray.map fun b => Value.int .u8 b.toNat) = (cells Y).toArray := by
   apply Array.toList_inj.1;rw [uZ]; simp
  rw [this]; rfl
end Go.Proofs.YtejmbmenbailmaaGreat
namespace Go.Proofs.YtejmbmenbailmaaGreat
open Go.Xs
open Enc (enc)
def mZ (t : Int) : Value := match ZY t with
 | some (a, k, b) => .tuple #[.int .i64 (a : Int), .int .i64 (k : Int), .int .i64 (b : Int), .bool true]
 | none => .tuple #[.int .i64 0, .int .i64 0, .int .i64 0, .bool false]
theorem Qi (t : Int) : Tri Tryz.prog 139 #[.int .i64 t] [] (fun r S => r = mZ t ∧ S = []) := by
 refine Tri.forget (zq Tryz.Et (Nat.le_of_ble_eq_true rfl) ?_);unfold Tryz.Bz;unfold mZ ZY;refine ze (z8 (yp pC (yp pC (yp pC (yp pC (zf (za (ze (ze (z8 (yp (pI rfl) (zf (za (zo (ze (ze (z8 (yp (vB rfl rfl) (yp (pB rfl) (zf (za ?_)))))))))))))))))))));by_cases h1 : t = 2
 ·rw [decide_eq_true h1, if_pos (.inl h1)];refine zG rfl (zn (za (zG rfl (ze (z8 (yp pC (yp pC (yp pC (yp pC (zf (za (zI (bret (zU ?_))))))))))))));exact zH (JR rfl rfl rfl rfl) ⟨_, .of, rfl, rfl⟩
 rw [decide_eq_false h1];refine zy rfl (ze (z8 (yp (vB rfl rfl) (yp (pB rfl) (zf (za ?_))))));by_cases h2 : t = 5
 ·rw [decide_eq_true h2, if_pos (.inr (.inl h2))];refine zG rfl (zn (za (zG rfl (ze (z8 (yp pC (yp pC (yp pC (yp pC (zf (za (zI (bret (zU ?_))))))))))))));exact zH (JR rfl rfl rfl rfl) ⟨_, .of, rfl, rfl⟩
 rw [decide_eq_false h2];refine zy rfl (z8 (yp (vB rfl rfl) (yp (pB rfl) (zf (za ?_)))));by_cases h3 : t = 12
 ·rw [decide_eq_true h3, if_pos (.inr (.inr h3))];refine zG rfl (ze (z8 (yp pC (yp pC (yp pC (yp pC (zf (za (zI (bret (zU ?_)))))))))));exact zH (JR rfl rfl rfl rfl) ⟨_, .of, rfl, rfl⟩
 rw [decide_eq_false h3, if_neg (show ¬ (t = 2 ∨ t = 5 ∨ t = 12) from by omega)];refine zy rfl (ze (z8 (yp (vB rfl rfl) (yp (pB rfl) (zf (za ?_))))));by_cases h4 : t = 15
 ·rw [decide_eq_true h4, if_pos h4];refine zG rfl (ze (z8 (yp pC (yp pC (yp pC (yp pC (zf (za (zI (bret (zU ?_)))))))))));exact zH (JR rfl rfl rfl rfl) ⟨_, .of, rfl, rfl⟩
 rw [decide_eq_false h4, if_neg h4];refine zy rfl (ze (z8 (yp (vB rfl rfl) (yp (pB rfl) (zf (za ?_))))));by_cases h5 : t = 33
 ·rw [decide_eq_true h5, if_pos h5];refine zG rfl (ze (z8 (yp pC (yp pC (yp pC (yp pC (zf (za (zI (bret (zU ?_)))))))))));exact zH (JR rfl rfl rfl rfl) ⟨_, .of, rfl, rfl⟩
 rw [decide_eq_false h5, if_neg h5];refine zy rfl (ze (z8 (yp (vB rfl rfl) (yp (pB rfl) (zf (za ?_))))));by_cases h6 : t = 6
 ·rw [decide_eq_true h6, if_pos h6];refine zG rfl (ze (z8 (yp pC (yp pC (yp pC (yp pC (zf (za (zI (bret (zU ?_)))))))))));exact zH (JR rfl rfl rfl rfl) ⟨_, .of, rfl, rfl⟩
 rw [decide_eq_false h6, if_neg h6];refine zy rfl (zn (zS (za (ze (z8 (yp pC (yp pC (yp pC (yp pC (zf (za (zI ?_))))))))))));exact zH (JR rfl rfl rfl rfl) ⟨_, .of, rfl, rfl⟩
theorem jL (t : Int) (d : Bs) (hd : d.length < 2 ^ 40) : Tri Tryz.prog 97 #[.int .i64 t, sv d] [] (fun r S => ∃ v L H, r = .tuple #[v, .bool (X0 t d).isSome] ∧ Zb 161 v (L : List Pl) H ∧ (∀ l, X0 t d = some l → L = l) ∧ S = [H]) := by
 refine Tri.forget (zq Tryz.Gw (Nat.le_of_ble_eq_true rfl) ?_);unfold Tryz.IJ;refine ze (z8 (yp pC (yp pC (zf (za (ze (z8 (yp (pI rfl) ?_))))))));refine zh (zk (Qi t) rfl rfl fun r S' h => ?_);obtain ⟨rfl, rfl⟩ := h;have hno : ∀ {v : Value}, (X0 t d) = none → v = .tuple #[.slice none 0 0, .bool false] → ∀ S, ∃ S'', zB S S'' ∧ ∃ w L H, v = .tuple #[w, .bool (X0 t d).isSome] ∧ Zb 161 w (L : List Pl) H ∧ (∀ l, X0 t d = some l → L = l) ∧ S'' = [H] := fun h hv S => ⟨[[]], ⟨S.flatten, by simp⟩, _, [], [], by rw [h]; exact hv, .nil, fun l hl => by (rw [h] at hl; cases hl), rfl⟩
 unfold mZ;cases hs : ZY t with
 | none =>
  have hp : X0 t d = some [] := by unfold X0; rw [hs]
  simp only;refine yp (pU rfl) (yp (pExt rfl rfl) (yp (pExt rfl rfl) (yp (pExt rfl rfl) (yp (pExt rfl rfl) (yp (pI rfl) (yp (pI rfl) (yp (pI rfl) (yp (pB rfl) (zf (za (ze (ze (z8 (yp (pB rfl) (yp (Zg rfl) (zf (za (zG rfl (ze (z8 (yp pC (yp pC (zf (za (zI (zU ?_))))))))))))))))))))))))));exact zH (sO rfl rfl) ⟨[[]], ⟨[], by simp⟩, _, [], [], by rw [hp]; rfl, .nil, fun l hl => by rw [hp] at hl; exact Option.some.inj hl, rfl⟩
 | some x =>
  obtain ⟨a, k, b⟩ := x;have hp : X0 t d = if d.length < a then none else match Yk d k a with
   | some (l, e) => if d.length = e + b then some l else none
   | none => none := by unfold X0; rw [hs]; try rfl
  have hab : a ≤ 6 ∧ k ≤ 2 ∧ b ≤ 20 := xZ hs;simp only;refine yp (pU rfl) (yp (pExt rfl rfl) (yp (pExt rfl rfl) (yp (pExt rfl rfl) (yp (pExt rfl rfl) (yp (pI rfl) (yp (pI rfl) (yp (pI rfl) (yp (pB rfl) (zf (za (ze (ze (z8 (yp (pB rfl) (yp (Zg rfl) (zf (za (zy rfl (zn (za (ze (ze (z8 (yp (pT rfl) (yp (uU rfl) (yp (pI rfl) (yp (ZK rfl rfl) (zf (za ?_)))))))))))))))))))))))))))));rw [Q8];by_cases h1 : d.length < a
  ·rw [decide_eq_true (show (d.length : Int) < (a : Int) from by omega)];rw [if_pos h1] at hp;refine zG rfl (ze (z8 (yp pC (yp pC (zf (za (zI (zU ?_))))))));exact zH (sO rfl rfl) (hno hp rfl _)
  rw [decide_eq_false (show ¬ (d.length : Int) < (a : Int) from by omega)];rw [if_neg h1] at hp;refine zy rfl (zn (za (ze (z8 (yp (pI rfl) (yp (pI rfl) (zf (za (ze (ze (z8 (yp (pI rfl) (yp pC (zf (za (zo ?_))))))))))))))));refine Z5 (σ := Nat) (fun i E S => ∃ (v : Value) (L : List Pl) (H : List Chunk) (e : Nat), Has E [(1, sv d), (8, .int .i64 (b : Int)), (10, .int .i64 (e : Int)), (27, .int .i64 (k : Int)), (28, .int .i64 (i : Int))] ∧ E 4 = v ∧ Zb 161 v L H ∧ L.length = i ∧ i ≤ k ∧ e ≤ d.length ∧ Yk d k a = (Yk d (k - i) e).map (fun x => (L ++ x.1, x.2)) ∧ zB S [H]) (fun i => k - i) 0
   ⟨_, [], [], a, ⟨rfl, rfl, rfl, rfl, rfl, trivial⟩, rfl, .nil, rfl, Nat.zero_le _, by omega, by cases Yk d (k - 0) a <;> rfl, ⟨[], by simp⟩⟩ fun i E S ⟨v, L, H, e, hE, hE4, hL, hLl, hi, he, hx, hJ⟩ => ?_
  obtain ⟨la, lc, rfl⟩ := hL.isSlice;have hE2 : Has E [(1, sv d), (4, .slice la L.length lc), (8, .int .i64 (b : Int)), (10, .int .i64 (e : Int)), (27, .int .i64 (k : Int)), (28, .int .i64 (i : Int))] := ⟨hE.1, hE4, hE.2⟩
  clear hE hE4;obtain ⟨E0, e0⟩ := zw hE2; subst e0; clear hE2;refine zm hJ (ze (z8 (yp (ZK rfl rfl) (zf (za (ze ?_))))));refine zO rfl (fun h2 => ?_) (fun h2 => ?_)
  ·obtain ⟨m, hm⟩ : ∃ m, k - i = m + 1 := ⟨k - i - 1, by omega⟩
   rw [hm, Yk] at hx;refine zn (za (ze (zo (ze (z8 (yp (pT rfl) (yp (pI rfl) (yp (Ku (Y := d) rfl rfl he) ?_))))))))
   skip
   refine zh (zk (gL (d.drop e) (by rw [List.length_drop]; omega)) rfl rfl fun r S' h => ?_);obtain ⟨rfl, rfl⟩ := h;cases hb : (lead (d.drop e)).2 with
   | false =>
    rw [hb, if_neg (by decide)] at hx;rw [hx] at hp;refine yp (pU rfl) (yp (pExt rfl rfl) (yp (pExt rfl rfl) (yp (pI rfl) (yp (pB rfl) (zf (za (ze (ze (z8 (yp (pB rfl) (yp (Zg rfl) (zf (za (zG rfl (ze (z8 (yp pC (yp pC (zf (za (zI (zU (bret (zU (zU (bret (zU ?_)))))))))))))))))))))))))));exact zH (sO rfl rfl) (hno hp rfl _)
   | true =>
    rw [hb, if_pos rfl] at hx;have hl := vJ (show lead (d.drop e) = ((lead (d.drop e)).1, true) from by rw [← hb]);rw [List.length_drop] at hl;generalize (lead (d.drop e)).1 = n at hx hl;refine yp (pU rfl) (yp (pExt rfl rfl) (yp (pExt rfl rfl) (yp (pI rfl) (yp (pB rfl) (zf (za (ze (ze (z8 (yp (pB rfl) (yp (Zg rfl) (zf (za (zy rfl (zn (za (ze (z8 (yp (pS rfl) (yp (pI rfl) (yp (pI rfl) (yp (V4 (uR rfl) (uR rfl)) ?_))))))))))))))))))))));refine zh (vE (⟨e, n⟩ : Pl) rfl rfl (by decide) (by decide) rfl fun p43 => ?_);refine zh (VK (Y := [(⟨e, n⟩ : Pl)]) rfl rfl hL (.lit (by repeat (first | exact List.mem_cons_self | apply List.mem_cons_of_mem)) rfl) rfl (⟨0, 0⟩ : Pl) rfl (by simp; omega) (by simp; omega) fun v2 H2 hL2 => ?_);obtain ⟨la2, lc2, rfl⟩ := hL2.isSlice;refine yp (pS rfl) (zf (za (z8 (yp (pI rfl) (yp (pI rfl) (yp (Zk rfl rfl (by omega)) (yp (pI rfl) (zf (zS (za (z8 (yp (Zc rfl rfl (by omega)) (yp (pI rfl) (zf (za ?_)))))))))))))));refine ⟨i + 1, ⟨.slice la2 (L ++ [(⟨e, n⟩ : Pl)]).length lc2, L ++ [⟨e, n⟩], H2, e + n, ⟨rfl, rfl, rfl, rfl, rfl, trivial⟩, rfl, hL2, by simp [hLl], by omega, by omega, ?_, .of⟩, by omega⟩;rw [hx, Option.map_map, show k - (i + 1) = m from by omega];congr 1;funext x;simp
  ·obtain rfl : i = k := by omega
   rw [Nat.sub_self, Yk] at hx;rw [hx] at hp;simp only [Option.map_some, List.append_nil] at hp;refine zW (zF (zF (zX (za (ze (z8 (yp (pS rfl) (yp (pT rfl) (yp (uU rfl) (yp (pI rfl) ?_))))))))));rw [Q8];refine yp (ZI rfl rfl (by omega)) (yp (pI rfl) (yp (vB rfl rfl) (yp (pS rfl) (yp (pB rfl) (zf (za (zI ?_)))))));by_cases h3 : d.length = e + b
   ·rw [if_pos h3] at hp;rw [decide_eq_true (show (d.length : Int) - (e : Int) = (b : Int) from by omega)];exact zH (sO rfl rfl) ⟨_, .of, _, L, H, by rw [hp]; rfl, hL, fun l hl => by rw [hp] at hl; exact Option.some.inj hl, rfl⟩
   ·rw [if_neg h3] at hp;rw [decide_eq_false (show ¬ (d.length : Int) - (e : Int) = (b : Int) from by omega)];exact zH (sO rfl rfl) ⟨_, .of, _, L, H, by rw [hp]; rfl, hL, fun l hl => by (rw [hp] at hl; cases hl), rfl⟩
theorem dO {f : Nat} {d : Bs} {a : Nat} {b : UInt8} (h : d[a]? = some b) : mJ (f + 1) d a = mJ f d (a + 1 + b.toNat) := by rw [mJ, h]
theorem Q7 {f : Nat} {d : Bs} {a : Nat} (h : d.length ≤ a) : mJ (f + 1) d a = (a == d.length) := by rw [mJ, List.getElem?_eq_none h]
theorem M4 (Y : Bs) : decide ((⟨Y.toArray⟩ : ByteArray) = ⟨#[]⟩) = decide (Y = []) := by
 refine decide_eq_decide.2 ?_;exact JH (Z := [])
theorem nD (d : Bs) (hd : d.length < 2 ^ 40) : Tri Tryz.prog 138 #[sv d] [] (fun r S => r = .bool (txt d) ∧ S = []) := by
 refine Tri.forget (zq Tryz.Eu (Nat.le_of_ble_eq_true rfl) ?_);unfold Tryz.BA;refine ze (z8 (yp pC (zf (za (ze (ze (z8 (yp (pT rfl) (yp (CV rfl rfl) (zf (za ?_)))))))))));rw [M4];by_cases h0 : d = []
 ·rw [decide_eq_true h0];subst h0;refine zG rfl (ze (z8 (yp pC (zf (za (zI (zU ?_)))))));exact zH (rB rfl) ⟨_, .of, rfl, rfl⟩
 rw [decide_eq_false h0];have ht : txt d = mJ (d.length + 1) d 0 := by unfold txt; rw [show (d != []) = true from by simpa using h0]; rfl
 refine zy rfl (zn (za (ze (zo ?_))));refine Z5 (σ := Nat) (fun a E S => Has E [(0, sv (d.drop a))] ∧ a ≤ d.length ∧ (∃ f, txt d = mJ f d a ∧ d.length + 1 ≤ f + a) ∧ zB S []) (fun a => d.length - a) 0 ⟨⟨rfl, trivial⟩, Nat.zero_le _, ⟨_, ht, Nat.le_refl _⟩, .of⟩ fun a E S ⟨hE, ha, ⟨f, hf, hfl⟩, hJ⟩ => ?_
 obtain ⟨f, rfl⟩ : ∃ g, f = g + 1 := ⟨f - 1, by omega⟩
 obtain ⟨E0, e0⟩ := zw hE; subst e0; clear hE;refine zm hJ ?_;have hdl : (d.drop a).length = d.length - a := List.length_drop;refine ze (ze (z8 (yp (pT rfl) (yp (Gs rfl rfl) (zf (za ?_))))));rw [M4];by_cases h1 : a < d.length
 ·have hy : d[a]? = some d[a] := List.getElem?_eq_getElem h1;have hy0 : (d.drop a)[0]? = some d[a] := by rw [List.getElem?_drop]; exact hy
  generalize d[a] = b at hy hy0;have hb := b.toNat_lt;rw [decide_eq_false (show ¬ d.drop a = [] from fun h => by rw [h] at hdl; simp at hdl; omega)];rw [dO hy] at hf;refine zG rfl (zn (za (zo (ze (z8 (yp (pT rfl) (yp (CK (k := 0) rfl rfl hy0) (yp (nM rfl) (yp (WL rfl rfl (by omega)) (yp (pI rfl) (zf (za (ze (ze (z8 (yp (pI rfl) (yp (pT rfl) (yp (uU rfl) (yp (VE rfl rfl) (zf (za ?_)))))))))))))))))))));rw [Q8];by_cases h2 : a + 1 + b.toNat ≤ d.length
  ·rw [decide_eq_false (show ¬ ((d.drop a).length : Int) < 1 + (b.toNat : Int) from by omega)];refine zy rfl (zn (za (z8 (yp (pT rfl) (yp (pI rfl) (yp (Ku (Y := d.drop a) (j := 1 + b.toNat) rfl rfl (by omega)) ?_))))));rw [List.drop_drop, show a + (1 + b.toNat) = a + 1 + b.toNat from by omega];refine yp (pT rfl) (zf (zS (za ?_)));exact ⟨a + 1 + b.toNat, ⟨⟨rfl, trivial⟩, h2, ⟨f, hf, by omega⟩, .of⟩, by omega⟩
  ·rw [decide_eq_true (show ((d.drop a).length : Int) < 1 + (b.toNat : Int) from by omega)];obtain ⟨f, rfl⟩ : ∃ g, f = g + 1 := ⟨f - 1, by omega⟩
   rw [Q7 (by omega)] at hf;refine zG rfl (ze (z8 (yp pC (zf (za (zI (zU (bret (zU (bret (zU ?_)))))))))));exact zH (rB rfl) ⟨_, .of, by rw [hf, beq_eq_false_iff_ne.2 (by omega)], rfl⟩
 ·have hda : d.drop a = [] := List.drop_eq_nil_of_le (by omega);rw [decide_eq_true hda];rw [Q7 (by omega)] at hf;refine zy rfl (zW (zF (zF (zX (za (ze (z8 (yp pC (zf (za (zI ?_)))))))))));exact zH (rB rfl) ⟨_, .of, by rw [hf, beq_iff_eq.2 (by omega)], rfl⟩
theorem Fq (n : Nat) : decide ((n : Int) = 4) = (n == 4) := by
 by_cases h : n = 4
 ·rw [decide_eq_true (by omega), beq_iff_eq.2 h]
 ·rw [decide_eq_false (by omega), beq_eq_false_iff_ne.2 h]
theorem Au (n : Nat) : decide ((n : Int) = 16) = (n == 16) := by
 by_cases h : n = 16
 ·rw [decide_eq_true (by omega), beq_iff_eq.2 h]
 ·rw [decide_eq_false (by omega), beq_eq_false_iff_ne.2 h]
theorem fq (t : Int) (d : Bs) (hd : d.length < 2 ^ 40) : Tri Tryz.prog 95 #[.int .i64 t, sv d] [] (fun r S => r = .bool (ZH t d) ∧ S = []) := by
 refine Tri.forget (zq Tryz.Gy (Nat.le_of_ble_eq_true rfl) ?_);unfold Tryz.x95;refine ze (z8 (yp pC (zf (za (ze (z8 (yp (pI rfl) (yp (pT rfl) ?_))))))));refine zh (zk (jL t d hd) rfl rfl fun r S' h => ?_);obtain ⟨v, L, H, rfl, hL, _, rfl⟩ := h;obtain ⟨la, lc, rfl⟩ := hL.isSlice;unfold ZH;refine yp (pU rfl) (yp (pExt rfl rfl) (yp (pExt rfl rfl) (yp (pS rfl) (yp (pB rfl) (zf (za (ze (zo (ze (z8 (yp (pT rfl) (yp (uU rfl) (yp (VE rfl rfl) (yp (pB rfl) (zf (za ?_))))))))))))))));rw [Q8];by_cases h1 : 1000 < d.length
 ·rw [decide_eq_true (show (1000 : Int) < (d.length : Int) from by omega), if_pos h1];refine zG rfl (ze (z8 (yp pC (zf (za (zI (bret (zU ?_))))))));exact zH (rB rfl) ⟨[], ⟨H, by simp⟩, rfl, rfl⟩
 rw [decide_eq_false (show ¬ (1000 : Int) < (d.length : Int) from by omega), if_neg h1];refine zy rfl (ze (z8 (yp (pI rfl) (yp (vB rfl rfl) (yp (pB rfl) (zf (za ?_)))))));by_cases h2 : t = 1
 ·rw [decide_eq_true h2, if_pos h2];refine zG rfl (ze (z8 (yp (pT rfl) (yp (uU rfl) (yp (vB rfl rfl) (yp (pB rfl) (zf (za (zI (bret (zU ?_)))))))))));rw [Q8]
  skip
  exact zH (rB rfl) ⟨[], ⟨H, by simp⟩, by rw [Fq], rfl⟩
 rw [decide_eq_false h2, if_neg h2];refine zy rfl (ze (z8 (yp (pI rfl) (yp (vB rfl rfl) (yp (pB rfl) (zf (za ?_)))))));by_cases h3 : t = 28
 ·rw [decide_eq_true h3, if_pos h3];refine zG rfl (ze (z8 (yp (pT rfl) (yp (uU rfl) (yp (vB rfl rfl) (yp (pB rfl) (zf (za (zI (bret (zU ?_)))))))))));rw [Q8]
  skip
  exact zH (rB rfl) ⟨[], ⟨H, by simp⟩, by rw [Au], rfl⟩
 rw [decide_eq_false h3, if_neg h3];refine zy rfl (ze (z8 (yp (pI rfl) (yp (vB rfl rfl) (yp (pB rfl) (zf (za ?_)))))));by_cases h4 : t = 16
 ·rw [decide_eq_true h4, if_pos h4];refine zG rfl (ze (z8 (yp (pT rfl) ?_)));refine zh (zk (nD d hd) rfl rfl fun r S' h => ?_);obtain ⟨rfl, rfl⟩ := h;refine yp (pB rfl) (zf (za (zI (bret (zU ?_)))));exact zH (rB rfl) ⟨[], ⟨H, by simp⟩, rfl, rfl⟩
 rw [decide_eq_false h4, if_neg h4];refine zy rfl (zn (zS (za (ze (z8 (yp (pB rfl) (yp (pB rfl) (zf (za (zI ?_))))))))));exact zH (rB rfl) ⟨[], ⟨H, by simp⟩, rfl, rfl⟩
/-! ### the walk over the names in data -/
def pv (p : Pl) : Array Value := #[.int .i64 (p.at_ : Int), .int .i64 (p.n : Int)]
abbrev qb (bt bd : Nat) (t : Int) (d : Bs) : zx := [[(bt, .cells #[.int .i64 t] 3)], [(bd, .cells #[sv d] 9)]]
theorem Kl (t : Int) (d : Bs) : Tri Tryz.prog 48 #[.int .i64 t, sv d] [] (fun r S => ∃ bt bd, r = .func (.func 96) #[] #[.pointer (some ⟨bt, 0, none⟩), .pointer (some ⟨bd, 0, none⟩)] ∧ S = qb bt bd t d) := by
 refine Tri.forget (zq Tryz.I5 (Nat.le_of_ble_eq_true rfl) ?_);unfold Tryz.Lx;refine ze (z8 ?_);refine zh (lV (uR rfl) fun p2 => ?_);refine zh (lV (lX rfl) fun p3 => ?_);refine yp pC (zf (za (ze (z8 (yp (CU (Ju rfl) (Ju rfl)) (yp (pF rfl) (zf (za (zI ?_)))))))));exact zH (rF rfl) ⟨qb p2 p3 t d, ⟨[], by simp; exact List.Perm.swap _ _ _⟩, p2, p3, rfl, rfl⟩
theorem o8 {bt bd : Nat} {t : Int} {d : Bs} {S0 : zx} (hd : d.length < 2 ^ 40) :
 Yi Tryz.prog 96 #[] #[.pointer (some ⟨bt, 0, none⟩), .pointer (some ⟨bd, 0, none⟩)] (qb bt bd t d) S0
  (fun pre x => pre ++ [x] <+: (prt t d).map pv) (fun xs => xs = (prt t d).map pv) := by
 intro l c J Jx hJ0 hround;have e0 : (#[] ++ #[.func (.yield l) #[] #[]] ++ #[.pointer (some ⟨bt, 0, none⟩), .pointer (some ⟨bd, 0, none⟩)] : Array Value) = #[.func (.yield l) #[] #[], .pointer (some ⟨bt, 0, none⟩), .pointer (some ⟨bd, 0, none⟩)] := rfl;rw [e0];refine Tri.forget (zq Tryz.Gx (Nat.le_of_ble_eq_true rfl) ?_);unfold Tryz.x96;refine ze (ze (z8 ?_));refine zh (zC rfl rfl ?_);refine zh (zC rfl rfl ?_);refine zh (zk (fq t d hd) rfl rfl fun r S' h => ?_);obtain ⟨rfl, rfl⟩ := h;cases hok : ZH t d with
 | false =>
  have hp : prt t d = [] := by unfold prt; rw [if_neg (by rw [hok]; decide)]
  refine yp (Zg rfl) (zf (za (zG rfl (zI (zU ?_)))));exact zH wu ⟨[c] :: S0, ⟨(qb bt bd t d).flatten, by simp; exact List.perm_append_comm (l₁ := [_, _])⟩, .inl ⟨[], by rw [hp]; rfl, hJ0⟩⟩
 | true =>
  have hsome : ∃ l, X0 t d = some l := by
   have h0 := hok;unfold ZH at h0;cases hs : ZY t with
   | none => exact ⟨[], by unfold X0; rw [hs]⟩
   | some x =>
    have hk := jE hs;split at h0
    ·cases h0
    ·rw [if_neg hk.1, if_neg hk.2.1, if_neg hk.2.2] at h0;exact Option.isSome_iff_exists.1 h0
  obtain ⟨L0, hp0⟩ := hsome;have hp : prt t d = L0 := by unfold prt; rw [if_pos hok, hp0]; rfl
  refine yp (Zg rfl) (zf (za (zy rfl (zn (za (ze (z8 ?_)))))));refine zh (zC rfl rfl ?_);refine zh (zC rfl rfl ?_);refine zh (zk (jL t d hd) rfl rfl fun r S' h => ?_);obtain ⟨v, L, H, rfl, hL, hLe, rfl⟩ := h;obtain rfl := hLe L0 hp0;have hL2 := Kn hp0;obtain ⟨la, lc, rfl⟩ := hL.isSlice;rw [hp];refine yp (pU rfl) (yp (pExt rfl rfl) (yp (pExt rfl rfl) (yp (pS rfl) (yp (pB rfl) (zf (za (ze (z8 (yp (pS rfl) (yp (Zy rfl) (yp pC (zf (za (zo ?_))))))))))))));refine Z5 (σ := Nat) (fun i E S => Has E [(0, .func (.yield l) #[] #[]), (18, .slice la L.length lc), (19, .int .i64 (L.length : Int)), (20, .int .i64 i)] ∧ i ≤ L.length ∧ ∃ T', J ((L.take i).map pv) T' ∧ zB S (H :: T')) (fun i => L.length - i) 0
   ⟨⟨rfl, rfl, rfl, rfl, trivial⟩, Nat.zero_le _, [c] :: S0, hJ0, ⟨(qb bt bd t d).flatten, ?_⟩⟩ fun i E S ⟨hE, hi, T', hJ, hk⟩ => ?_
  ·simp;exact List.Perm.append_left H ((List.perm_append_comm (l₁ := [_, _])).cons _)
  obtain ⟨E0, e0⟩ := zw hE; subst e0; clear hE;refine zm hk (ze (z8 (yp (ZK rfl rfl) (zf (za (ze ?_))))));refine zO rfl (fun h => ?_) (fun h => ?_)
  ·have hlt : i < L.length := by omega
   obtain ⟨bb2, sp, fz, hz, rfl, hm, hc, rfl⟩ := hL.at' (by intro h; simp [h] at hlt);refine zn (za (ze (zo (ze (z8 (yp (zT rfl rfl (by omega)) ?_))))));refine zh (ZT (l := enc L[i]) rfl (ZW hlt rfl) rfl ?_);refine zh (Ze fun p7 => ?_);refine zh (vR (c' := [.int .i64 (L[i].at_ : Int), .int .i64 (L[i].n : Int)]) rfl rfl rfl rfl rfl ?_);refine zf (za (ze (z8 (yp (pF rfl) (yp (zu rfl) ?_)))));refine zh (zC rfl rfl ?_);refine yp (zu rfl) ?_;refine zh (zC rfl rfl ?_);have ht : L.take (i + 1) = L.take i ++ [L[i]] := List.take_succ_eq_append_getElem hlt;have hV : (L.take i).map pv ++ [pv L[i]] <+: L.map pv := by
    rw [show (L.take i).map pv ++ [pv L[i]] = (L.take (i + 1)).map pv from by rw [ht, List.map_append]; rfl];exact (List.take_prefix _ _).map _
   refine zh (XE (hround _ (pv L[i]) T' (by rw [hp]; exact hV) hJ) rfl rfl fun bl T2 h => ?_);rcases h with ⟨rfl, hJ'⟩ | ⟨rfl, hJx⟩
   ·refine yp (Zg rfl) (zf (za (zy rfl (zn (zS (za (z8 (yp (Zc rfl rfl (by omega)) (yp (pI rfl) (zf (za ?_)))))))))));refine ⟨i + 1, ⟨⟨rfl, rfl, rfl, rfl, trivial⟩, by omega, T2, ?_, .of⟩, by omega⟩;rw [ht, List.map_append]; exact hJ'
   ·refine yp (Zg rfl) (zf (za (zG rfl (zI (bret (zU (zU (bret ?_))))))));exact zH wu ⟨T2, .of, .inr ⟨_, hJx⟩⟩
  ·refine zW (zF (zF (zX ?_)));refine wh wu ⟨T', .of, .inl ⟨_, ?_, hJ⟩⟩;rw [List.take_of_length_le (by omega)]
end Go.Proofs.YtejmbmenbailmaaGreat
namespace Go.Proofs.YtejmbmenbailmaaGreat
open Go.Xs
open Enc (enc)
theorem kS {n : Nat} {Q : Exit → Env → zx → Prop} {E : Env} {g : Operand} {p q : Tmp} {xa xb : zD} {bt bd : Nat} {t : Int} {d : Bs} {S S0 G0 : zx} [hsub : Sub S0 (qb bt bd t d ++ S) G0] (J : Nat → zx → Prop)
 (hg : ev E g = .func (.func 96) #[] #[.pointer (some ⟨bt, 0, none⟩), .pointer (some ⟨bd, 0, none⟩)]) (hps : [p, q].all (fun t => Nat.blt t n) = true) (hd : d.length < 2 ^ 40) (hJ0 : J 0 S)
 (hround : ∀ (l k : Nat) (x : Pl) (T : zx), (prt t d)[k]? = some x → J k T → Y Tryz.prog (some l) n xa (VN (fun E1 S1 => Y Tryz.prog (some l) n xb (Kj (fun _ S' => J (k + 1) S') (fun _ _ _ => False) []) E1 S1) (fun _ _ _ => False)) (UZ [p, q] [.int .i64 (x.at_ : Int), .int .i64 (x.n : Int)] E) T)
 (hdone : ∀ S', J (prt t d).length S' → Q .normal E S') : Y Tryz.prog none n (.range g [p, q] xa xb) Q E S0 := by
 refine y5 (S := S) (own := qb bt bd t d) (G0 := G0) (fun pre T => pre <+: (prt t d).map pv ∧ J pre.length T) (fun _ _ _ => False) hg hps (o8 (bt := bt) (bd := bd) (S0 := S) hd) ⟨List.nil_prefix, hJ0⟩ ?_ ?_ ?_ ?_
 ·intro pre x hx;have : x ∈ (prt t d).map pv := hx.subset (by simp);obtain ⟨e, _, rfl⟩ := List.mem_map.1 this;rfl
 ·rintro l pre x T hx ⟨_, hJ⟩;have hxl : ((prt t d).map pv)[pre.length]? = some x := by
   obtain ⟨u, hu⟩ := hx;rw [← hu, List.append_assoc, List.getElem?_append_right (Nat.le_refl _), Nat.sub_self]; rfl
  rw [List.getElem?_map] at hxl;cases he : (prt t d)[pre.length]? with
  | none => rw [he] at hxl; cases hxl
  | some e =>
   rw [he] at hxl;obtain rfl := (Option.some.inj hxl).symm;have h := hround l pre.length e T he hJ;have hx2 : pre ++ [pv e] <+: (prt t d).map pv := hx;refine Y.mono h ?_;rintro ex E1 S1 h1;cases ex with
   | normal =>
    refine Y.mono h1 ?_;rintro ex2 E2 S2 h2;cases ex2 with
    | normal => exact ⟨hx2, by rw [List.length_append]; exact h2⟩
    | _ => exact h2
   | _ => exact h1
 ·rintro xs S' hx ⟨_, hJ⟩;rw [hx, List.length_map] at hJ;exact hdone S' hJ
 ·rintro e pre S' _ h;exact h.elim
end Go.Proofs.YtejmbmenbailmaaGreat
