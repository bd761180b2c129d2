/- Sets that live (chapter 8): what they take of the arena, told by the sets alone. -/
import Derived.Test.YtejmbmenbailmaaGreatPk
namespace Go.Proofs.YtejmbmenbailmaaGreat
open Go.Xs
open Enc (enc)
theorem KI {l l' : List Nat} (h : l.Perm l') : l.sum = l'.sum := by
 induction h with
 | nil => rfl
 | cons x _ ih => rw [List.sum_cons, List.sum_cons, ih]
 | swap x y l => rw [List.sum_cons, List.sum_cons, List.sum_cons, List.sum_cons]; omega
 | trans _ _ h1 h2 => exact h1.trans h2
theorem Ui {β : Type} [DecidableEq β] : ∀ {A B : List β}, A.Nodup → B.Nodup → (∀ x, x ∈ A ↔ x ∈ B) → A.Perm B
 | [], B, _, _, h => by
  cases B with
  | nil => exact .nil
  | cons b B => exact absurd ((h b).2 (by simp)) (by simp)
 | a :: A, B, hA, hB, h => by
  have ha : a ∈ B := (h a).1 (by simp);have h1 : (B.erase a).Nodup := (List.erase_sublist (a := a) (l := B)).nodup hB;have h2 := List.perm_cons_erase ha;refine .trans (.cons a (Ui (List.nodup_cons.1 hA).2 h1 fun x => ?_)) h2.symm;rw [hB.mem_erase_iff];constructor
  ·intro hx;exact ⟨fun e => (List.nodup_cons.1 hA).1 (e ▸ hx), (h x).1 (List.mem_cons_of_mem _ hx)⟩
  ·rintro ⟨hne, hx⟩;rcases List.mem_cons.1 ((h x).2 hx) with e | hx
   ·exact absurd e hne
   ·exact hx
theorem Qa {β : Type} (f : Int × β → Nat) : ∀ {K : List (Int × β)} {x : Int × β}, (K.map (·.1)).Nodup → x ∈ K → (K.map f).sum = f x + ((K.filter fun y => y.1 != x.1).map f).sum
 | y :: K, x, hn, hx => by
  have hn2 := List.nodup_cons.1 hn;rcases List.mem_cons.1 hx with rfl | hx
  ·rw [List.filter_cons, if_neg (by simp), List.map_cons, List.sum_cons, List.filter_eq_self.2];intro z hz;have : z.1 ≠ x.1 := fun e => hn2.1 (List.mem_map.2 ⟨z, hz, e⟩)
   simpa using this
  ·have hne : y.1 ≠ x.1 := fun e => hn2.1 (List.mem_map.2 ⟨x, hx, e.symm⟩)
   rw [List.filter_cons, if_pos (by simpa using hne), List.map_cons, List.map_cons, List.sum_cons, List.sum_cons, Qa f hn2.2 hx];omega
theorem xM (D : List (Option Bt)) (o : Option Bt) (i : Int) : Zh (D ++ [o]) i = if i = (D.length : Int) + 1 then o else Zh D i := by
 unfold Zh;by_cases h1 : 1 ≤ i
 ·rw [if_pos h1, if_pos h1];by_cases h2 : i = (D.length : Int) + 1
  ·rw [if_pos h2, show (i - 1).toNat = D.length from by omega, List.getElem?_append_right (Nat.le_refl _), Nat.sub_self];cases o <;> rfl
  ·rw [if_neg h2];by_cases h3 : (i - 1).toNat < D.length
   ·rw [List.getElem?_append_left h3]
   ·rw [List.getElem?_eq_none (by simp; omega), List.getElem?_eq_none (by omega)]
 ·rw [if_neg h1, if_neg h1, if_neg (by omega)]
theorem J7 (D : List (Option Bt)) (o : Option Bt) : Zd (D ++ [o]) = Zd D + yS o := by unfold Zd; simp
theorem yg {D : List (Option Bt)} {i : Int} {b : Bt} (h : Zh D i = some b) : i ≤ (D.length : Int) := by
 unfold Zh at h;split at h
 ·by_cases h3 : (i - 1).toNat < D.length
  ·omega
  ·rw [List.getElem?_eq_none (by omega)] at h; cases h
 ·cases h
theorem xC : ∀ (n : Nat) (D : List (Option Bt)) (K : List (Int × Bt)), D.length = n → (K.map (·.1)).Nodup → (∀ i b, Zh D i = some b ↔ (i, b) ∈ K) → Zd D = (K.map fun x => zY x.2.length).sum
 | 0, D, K, hl, _, h => by
  have : D = [] := List.eq_nil_of_length_eq_zero hl;subst this;cases K with
  | nil => rfl
  | cons x K =>
   have := (h x.1 x.2).2 (by simp);unfold Zh at this;split at this <;> simp at this
 | n + 1, D, K, hl, hn, h => by
  obtain ⟨D0, o, rfl⟩ : ∃ D0 o, D = D0 ++ [o] := by
   rcases kG D with rfl | ⟨A, y, rfl⟩
   ·simp at hl
   ·exact ⟨A, y, rfl⟩
  have hl0 : D0.length = n := by simpa using hl
  rw [J7];cases o with
  | none =>
   rw [xC n D0 K hl0 hn fun i b => ?_]
   ·rfl
   rw [← h i b, xM];split
   ·next e =>
    constructor
    ·intro hg;have := yg hg;omega
    ·intro hg; cases hg
   ·rfl
  | some c =>
   have hm : ((D0.length : Int) + 1, c) ∈ K := (h _ _).1 (by rw [xM, if_pos rfl]);rw [Qa (fun x => zY x.2.length) hn hm];rw [xC n D0 (K.filter fun y => y.1 != (D0.length : Int) + 1) hl0 ?_ fun i b => ?_]
   ·exact Nat.add_comm _ _
   ·exact ((List.filter_sublist (l := K)).map _).nodup hn
   ·rw [List.mem_filter, ← h i b, xM];constructor
    ·intro hg;have := yg hg;rw [if_neg (by omega)];refine ⟨hg, ?_⟩;have : i ≠ (D0.length : Int) + 1 := by omega
     simpa using this
    ·rintro ⟨hg, hne⟩;have : i ≠ (D0.length : Int) + 1 := by simpa using hne
     rw [if_neg this] at hg;exact hg
theorem WQ.used {D : List (Option Bt)} {L : List Nm} {B : List (Int × Bs)} (h : WQ D L B) (hh : Hs B) : Zd D = (L.map fun e => zY (8 + e.n.length)).sum + (B.map fun x => zY x.2.length).sum := by
 have hk := xC D.length D (L.map (fun e => (e.id, V4 e.u ++ e.n)) ++ B) rfl ?_ fun i b => ?_
 ·rw [hk, List.map_append, List.sum_append, List.map_map];congr 2;refine List.map_congr_left fun e _ => ?_
  show zY (V4 e.u ++ e.n).length = _;rw [List.length_append, ZC]
 ·rw [List.map_append, List.map_map];refine List.nodup_append.2 ⟨h.dis.ids, hh, fun a ha b hb e => ?_⟩;obtain ⟨x, hx, rfl⟩ := List.mem_map.1 ha;obtain ⟨y, hy, rfl⟩ := List.mem_map.1 hb;exact (h.oth y hy).2 x hx e
 ·rw [List.mem_append, List.mem_map];constructor
  ·intro hg;rcases h.all i b hg with ⟨e, he, rfl⟩ | ⟨x, hx, rfl⟩
   ·rw [h.blk e he] at hg;exact .inl ⟨e, he, by rw [Option.some.inj hg]⟩
   ·rw [(h.oth x hx).1] at hg;exact .inr (by rw [← Option.some.inj hg]; exact hx)
  ·rintro (⟨e, he, h1⟩ | hx)
   ·cases h1;exact h.blk e he
   ·exact (h.oth _ hx).1
/-- the names of sets, folded -/
def dU (I : List St) : List Bs := (I.map fun s => (Z8 s).map zx).flatten
theorem qX {I : List St} {n : Bs} : n ∈ dU I ↔ ∃ s ∈ I, n ∈ (Z8 s).map zx := by
 unfold dU;rw [List.mem_flatten];constructor
 ·rintro ⟨l, hl, hn⟩;obtain ⟨s, hs, rfl⟩ := List.mem_map.1 hl;exact ⟨s, hs, hn⟩
 ·rintro ⟨s, hs, hn⟩;exact ⟨_, List.mem_map.2 ⟨s, hs, rfl⟩, hn⟩
theorem Al.get {L : List Nm} : ∀ {ids : List Int} {ns : List Bs}, Al L ids ns → (∀ i ∈ ids, ∃ e ∈ L, e.id = i ∧ e.n ∈ ns) ∧ ∀ n ∈ ns, ∃ e ∈ L, e.n = n
 | _, _, .nil => ⟨fun i hi => by simp at hi, fun n hn => by simp at hn⟩
 | _, _, .cons ⟨e, he, h1, h2⟩ t => by
  obtain ⟨h3, h4⟩ := t.get;refine ⟨fun i hi => ?_, fun n hn => ?_⟩
  ·rcases List.mem_cons.1 hi with rfl | hi
   ·exact ⟨e, he, h1, by rw [h2]; simp⟩
   ·obtain ⟨e', h5, h6, h7⟩ := h3 i hi;exact ⟨e', h5, h6, List.mem_cons_of_mem _ h7⟩
  ·rcases List.mem_cons.1 hn with rfl | hn
   ·exact ⟨e, he, h2⟩
   ·exact h4 n hn
theorem Pk.names {D : List (Option Bt)} {L : List Nm} {Z : List LS} (h : Pk D L Z) (n : Bs) : n ∈ L.map (·.n) ↔ n ∈ dU (Z.map (·.s)) := by
 rw [qX];constructor
 ·intro hn;obtain ⟨e, he, rfl⟩ := List.mem_map.1 hn;have h1 := h.liv.us e he;have h2 := h.liv.pos e he;have h3 : e.id ∈ Kq Z := List.count_pos_iff.1 (by omega);unfold Kq at h3;obtain ⟨l, hl, hi⟩ := List.mem_flatten.1 h3;obtain ⟨z, hz, rfl⟩ := List.mem_map.1 hl;obtain ⟨e', he', h4, h5⟩ := (h.ok z hz).2.2.get.1 _ hi;have : e' = e := by
   have hd := h.liv.dis.ids;obtain ⟨j, hj⟩ := List.mem_iff_getElem?.1 he;obtain ⟨j', hj'⟩ := List.mem_iff_getElem?.1 he';have a1 : (L.map (·.id))[j]? = some e.id := by rw [List.getElem?_map, hj]; rfl
   have a2 : (L.map (·.id))[j']? = some e.id := by rw [List.getElem?_map, hj']; show some e'.id = _; rw [h4]
   have := (List.getElem?_inj (List.getElem?_eq_some_iff.1 a1).1 hd).1 (a1.trans a2.symm);rw [← this, hj] at hj';exact (Option.some.inj hj').symm
  rw [this] at h5;exact ⟨z.s, List.mem_map.2 ⟨z, hz, rfl⟩, h5⟩
 ·rintro ⟨s, hs, hn⟩;obtain ⟨z, hz, rfl⟩ := List.mem_map.1 hs;obtain ⟨e, he, h1⟩ := (h.ok z hz).2.2.get.2 _ hn;exact List.mem_map.2 ⟨e, he, h1⟩
theorem Pk.AF {D : List (Option Bt)} {L : List Nm} {Z : List LS} (h : Pk D L Z) {A : List Bs} (hA : A.Nodup) (hm : ∀ n, n ∈ A ↔ n ∈ dU (Z.map (·.s))) :
 Zd D = (A.map fun n => zY (8 + n.length)).sum + (Z.map fun z => zY (Zm z.s).toNat).sum := by
 rw [h.inn.used h.hs];have h1 : (L.map (·.n)).Perm A := Ui h.liv.dis.ns hA fun n => by rw [h.names n, hm n]
 have h2 := KI (h1.map fun n => zY (8 + n.length));rw [List.map_map] at h2;rw [← h2];unfold yQ;rw [List.map_map];congr 2;refine List.map_congr_left fun z hz => ?_
 obtain ⟨hE, _, hal⟩ := h.ok z hz;have := xk (s := z.s) (ids := z.ids) (fun r hr => (Wm (VI hE).1 r hr).1) (by rw [hal.len, List.length_map]);show zY (wZ z.s z.ids).length = _;rw [← this, Int.toNat_natCast]
/-- each once -/
def dd : List Bs → List Bs
 | [] => []
 | n :: l => if n ∈ dd l then dd l else n :: dd l
theorem JL : ∀ (l : List Bs) (n : Bs), n ∈ dd l ↔ n ∈ l
 | [], n => by simp [dd]
 | m :: l, n => by
  unfold dd;have ih := JL l;split
  ·next h =>
   rw [ih, List.mem_cons];constructor
   ·exact .inr
   ·rintro (rfl | h2)
    ·exact (ih _).1 h
    ·exact h2
  ·rw [List.mem_cons, List.mem_cons, ih]
theorem UW : ∀ (l : List Bs), (dd l).Nodup
 | [] => List.nodup_nil
 | m :: l => by
  unfold dd;split
  ·exact UW l
  ·next h => exact List.nodup_cons.2 ⟨h, UW l⟩
def U6 (I : List St) : Nat := ((dd (dU I)).map fun n => zY (8 + n.length)).sum + (I.map fun s => zY (Zm s).toNat).sum
theorem Qy {I : List St} {A : List Bs} (hA : A.Nodup) (hm : ∀ n, n ∈ A ↔ n ∈ dU I) : U6 I = (A.map fun n => zY (8 + n.length)).sum + (I.map fun s => zY (Zm s).toNat).sum := by
 unfold U6;have h1 : (dd (dU I)).Perm A := Ui (UW _) hA fun n => by rw [JL, hm n]
 rw [KI (h1.map fun n => zY (8 + n.length))]
theorem Pk.use {D : List (Option Bt)} {L : List Nm} {Z : List LS} (h : Pk D L Z) : Zd D = U6 (Z.map (·.s)) := by
 rw [h.AF (UW _) fun n => JL _ n];unfold U6;rw [List.map_map];rfl
def yE (A : List Bs) : List Bs → List Bs → Nat
 | _, [] => 0
 | seen, n :: l => (if zx n ∈ seen ∨ zx n ∈ A then 0 else zY (8 + n.length)) + yE A (zx n :: seen) l
theorem Qj {L : List Nm} {A : List Bs} (h : ∀ n, n ∈ L.map (·.n) ↔ n ∈ A) : ∀ (l seen : List Bs), wD L seen l = yE A seen l
 | [], _ => rfl
 | n :: l, seen => by
  have hb : (V8 L (zx n)).isSome = true ↔ zx n ∈ A := by rw [← h, Kc, List.mem_map]
  unfold wD yE;rw [Qj h l];simp only [hb]
def uo (I : List St) (s : St) : Int := if wz s = 0 then cost (Zm s) + (yE (dU I) [] (Z8 s) : Nat) else 0
theorem Pk.cst {D : List (Option Bt)} {L : List Nm} {Z : List LS} (h : Pk D L Z) (s : St) : uI L s = uo (Z.map (·.s)) s := by
 unfold uI uo;rw [Qj h.names]
end Go.Proofs.YtejmbmenbailmaaGreat