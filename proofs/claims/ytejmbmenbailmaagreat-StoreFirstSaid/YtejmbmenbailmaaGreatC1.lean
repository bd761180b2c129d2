/- Stores (chapter 10), plainly: what is there, who goes next, what each act makes of it. Stores (chapter 10): their memory; New, Used, Left, Count, Evicted. Stores (chapter 10): find, item, gone, evict. Stores (chapter 10): gone, evict, Drop, pin, Peek, Get. Stores (chapter 10): Drop, Pin, Unpin, Peek, Get. Stores (chapter 10): Peek, Get. Stores (chapter 10): who goes next. Stores (chapter 10): Put. Stores (chapter 10): Sweep. -/
import Derived.Test.YtejmbmenbailmaaGreatP4
import Derived.Test.YtejmbmenbailmaaGreatL1
import Derived.Test.YtejmbmenbailmaaGreatI1
import Derived.Test.YtejmbmenbailmaaGreatFStore
namespace Go.Proofs.YtejmbmenbailmaaGreat
open Go.Xs
open Enc (enc)
structure Ptr where
 a : Option Nat
instance : Vv Ptr := ⟨fun p => .pointer (p.a.map fun b => ⟨b, 0, none⟩)⟩
/-- an item -/
structure It where
 k : Ky
 s : St
 rank : Int
 came : Int
 exp : Int
 pins : Int
/-- .. its handle, its names' handles, its place -/
structure En where
 i : It
 h : Int
 ids : List Int
 eb : Nat
def En.z (e : En) : LS := ⟨e.h, e.i.s, e.ids⟩
def It.de (i : It) : De := ⟨i.k, i.exp⟩
def fk (k : Ky) : Ky := ⟨zy k.n, k.t⟩
structure Ss where
 I : List It
 P : List Ky
 Q : List Ky
 V : List Ky
def keys (I : List It) : List Ky := I.map (·.k)
def sets (I : List It) : List St := I.map (·.s)
def Wm (I : List It) (k : Ky) : Option It := I.find? fun i => decide (i.k = k)
def WE (I : List It) (k : Ky) : List It := I.filter fun i => !decide (i.k = k)
def free (I : List It) (k : Ky) : Bool := match Wm I k with | some i => decide (i.pins = 0) | none => false
def Xg (k : Ky) (S : Ss) : Ss := ⟨WE S.I k, S.P.erase k, S.Q.erase k, S.V⟩
def Yb (k : Ky) (S : Ss) : Ss := ⟨WE S.I k, S.P.erase k, S.Q.erase k, S.V ++ [k]⟩
def due (now : Int) (I : List It) : List Ky := (upto now (I.map It.de)).map (·.k)
def wX (now : Int) (S : Ss) : Option Ky := (due now S.I ++ (S.P ++ S.Q)).find? (free S.I)
def uK (N : Nat) (S : Ss) : Int := ((N - Ud (sets S.I) : Nat) : Int)
def uG (N : Nat) (now : Int) (s : St) : Nat → Ss → Ss × Bool
 | 0, S => (S, decide (uz (sets S.I) s ≤ uK N S))
 | f + 1, S => if uK N S < uz (sets S.I) s then (match wX now S with | none => (S, false) | some k => uG N now s f (Yb k S)) else (S, true)
def Ul (N : Nat) (k : Ky) (s : St) (rank now exp : Int) (S : Ss) : Ss × Int := match uG N now s S.I.length S with
 | (S', true) => (⟨S'.I ++ [⟨k, s, rank, now, exp, 0⟩], S'.P ++ [k], S'.Q, S'.V⟩, 0)
 | (S', false) => (S', 4)
def Ja (n most : Int) : Bool := decide (0 ≤ n) && decide (n ≤ most)
def Kc (rank now exp : Int) : Bool := Ja now 1099511627776 && Ja exp 1099511627776 && !decide (exp ≤ now) && Ja rank 9
def Z8 (s : St) : Ky := fk ⟨s.name, s.typ⟩
def Jz (N : Nat) (s : St) (rank now exp : Int) (S : Ss) : Ss × Int := match Wm S.I (Z8 s) with
 | some i => if 0 < i.pins then (S, 6) else Ul N (Z8 s) s rank now exp (Xg (Z8 s) S)
 | none => Ul N (Z8 s) s rank now exp S
theorem YB {N : Nat} {s : St} {rank now exp : Int} {S : Ss} {i : It} (h : Wm S.I (Z8 s) = some i) : Jz N s rank now exp S = if 0 < i.pins then (S, 6) else Ul N (Z8 s) s rank now exp (Xg (Z8 s) S) := by unfold Jz; rw [h]
theorem xL {N : Nat} {s : St} {rank now exp : Int} {S : Ss} (h : Wm S.I (Z8 s) = none) : Jz N s rank now exp S = Ul N (Z8 s) s rank now exp S := by unfold Jz; rw [h]
def uH (N : Nat) (s : St) (rank now exp : Int) (S : Ss) : Ss × Int :=
 if wC s ≠ 0 then (S, wC s) else if Kc rank now exp = false then (S, 1) else Jz N s rank now exp S
/-! ### who is there -/
def Ya (W : List En) (k : Ky) : Option En := W.find? fun e => decide (e.i.k = k)
def Xo (W : List En) (k : Ky) : Option Ptr := (Ya W k).map fun e => ⟨some e.eb⟩
def UR (W : List En) (k : Ky) : List En := W.filter fun e => !decide (e.i.k = k)
theorem jJ {W : List En} {k : Ky} {e : En} (h : Ya W k = some e) : e ∈ W ∧ e.i.k = k := ⟨List.mem_of_find?_eq_some h, by simpa using List.find?_some h⟩
theorem QB (W : List En) (k : Ky) : Wm (W.map (·.i)) k = (Ya W k).map (·.i) := by
 unfold Wm Ya;rw [List.find?_map];rfl
theorem jT {I : List It} {k : Ky} {i : It} (h : Wm I k = some i) : i ∈ I ∧ i.k = k := ⟨List.mem_of_find?_eq_some h, by simpa using List.find?_some h⟩
theorem QA {I : List It} (hn : (keys I).Nodup) {i : It} (hi : i ∈ I) : Wm I i.k = some i := by
 induction I with
 | nil => simp at hi
 | cons j I ih =>
  have hn2 := List.nodup_cons.1 hn;unfold Wm;rw [List.find?_cons];rcases List.mem_cons.1 hi with rfl | hi
  ·rw [decide_eq_true rfl]
  ·have : j.k ≠ i.k := fun e => hn2.1 (by rw [show (keys I) = I.map (·.k) from rfl] at *; exact List.mem_map.2 ⟨i, hi, e.symm⟩)
   rw [decide_eq_false this];exact ih hn2.2 hi
theorem Wz {I : List It} {k : Ky} : Wm I k = none ↔ k ∉ keys I := by
 unfold Wm;rw [List.find?_eq_none];constructor
 ·intro h hk;obtain ⟨i, hi, rfl⟩ := List.mem_map.1 hk;have := h i hi;simp at this
 ·intro h i hi;have : i.k ≠ k := fun e => h (List.mem_map.2 ⟨i, hi, e⟩)
  simpa using this
theorem sP (W : List En) (k : Ky) : (UR W k).map (·.i) = WE (W.map (·.i)) k := by
 unfold UR WE;rw [List.filter_map];rfl
theorem U0 (I : List It) (k : Ky) : keys (WE I k) = (keys I).filter fun x => !decide (x = k) := by
 unfold WE keys;rw [List.filter_map];rfl
theorem gT {W : List En} {k x : Ky} (h : x ≠ k) : Ya (UR W k) x = Ya W x := by
 unfold Ya UR
 induction W with
 | nil => rfl
 | cons e W ih =>
  rw [List.filter_cons, List.find?_cons];by_cases hk : e.i.k = k
  ·rw [if_neg (by simp [hk]), ih, decide_eq_false (show ¬ e.i.k = x from fun q => h (q.symm.trans hk))]
  ·rw [if_pos (by simp [hk]), List.find?_cons, ih]
theorem aJ (W : List En) (k : Ky) : Ya (UR W k) k = none := by
 unfold Ya;rw [List.find?_eq_none];intro e he;have := (List.mem_filter.1 he).2;simpa using this
theorem nG (W : List En) (k : Ky) : Xo (UR W k) = wK (Xo W) k none := by
 funext x;unfold Xo wK;split
 ·next e => rw [e, aJ]; rfl
 ·next e => rw [gT e]
theorem nI {W : List En} {e : En} (h : Ya W e.i.k = none) : Xo (W ++ [e]) = wK (Xo W) e.i.k (some ⟨some e.eb⟩) := by
 funext x;unfold Xo wK Ya;rw [List.find?_append, List.find?_singleton];by_cases q : x = e.i.k
 ·subst q;have h2 : W.find? (fun y => decide (y.i.k = e.i.k)) = none := h;rw [if_pos rfl, if_pos (decide_eq_true rfl), h2];rfl
 ·rw [if_neg q, if_neg (by simpa using fun r => q r.symm), Option.or_none]
theorem eG {W : List En} {k : Ky} (h : ∀ e ∈ W, e.i.k ≠ k) : UR W k = W := List.filter_eq_self.2 fun e he => by simpa using h e he
/-- one of them, and the others -/
theorem WM : ∀ {W : List En} {e : En}, (keys (W.map (·.i))).Nodup → e ∈ W → ∃ A B, W = A ++ e :: B ∧ UR W e.i.k = A ++ B
 | y :: W, e, hn, he => by
  have hn2 := List.nodup_cons.1 hn;rcases List.mem_cons.1 he with rfl | he
  ·refine ⟨[], W, rfl, ?_⟩;unfold UR;rw [List.filter_cons, if_neg (by simp)];exact eG fun x hx q => hn2.1 (List.mem_map.2 ⟨x.i, List.mem_map.2 ⟨x, hx, rfl⟩, q⟩)
  ·obtain ⟨A, B, h1, h2⟩ := WM hn2.2 he;refine ⟨y :: A, B, by rw [h1]; rfl, ?_⟩;have : y.i.k ≠ e.i.k := fun q => hn2.1 (List.mem_map.2 ⟨e.i, List.mem_map.2 ⟨e, he, rfl⟩, q.symm⟩)
   unfold UR at h2 ⊢;rw [List.filter_cons, if_pos (by simpa using this), h2]; rfl
theorem YU : ∀ {I : List It} {k : Ky}, (keys I).Nodup → Vn k (I.map It.de) = (WE I k).map It.de
 | [], _, _ => rfl
 | i :: I, k, hn => by
  have hn2 := List.nodup_cons.1 hn;have ih := YU (k := k) hn2.2;unfold Vn at ih ⊢;unfold WE at ih ⊢;rw [List.map_cons, idx];by_cases hk : i.k = k
  ·rw [if_pos (show i.de.k = k from hk), List.filter_cons, if_neg (by simp [hk])];have : I.filter (fun i => !decide (i.k = k)) = I := List.filter_eq_self.2 fun j hj => by
    have : j.k ≠ k := fun e => hn2.1 (List.mem_map.2 ⟨j, hj, e.trans hk.symm⟩)
    simpa using this
   rw [this]; rfl
  ·rw [if_neg (show ¬ i.de.k = k from hk), List.filter_cons, if_pos (by simp [hk])];cases hx : idx k (I.map It.de) with
   | none => rw [hx] at ih; simp only [Option.map_none, List.map_cons]; rw [← ih]
   | some j => rw [hx] at ih; simp only [Option.map_some, List.map_cons, List.eraseIdx_cons_succ]; rw [← ih]
theorem JW {I : List It} {k : Ky} (h : Wm I k = none) : Vn k (I.map It.de) = I.map It.de := by
 have : ∀ J : List It, k ∉ keys J → idx k (J.map It.de) = none := fun J => by
  induction J with
  | nil => intro _; rfl
  | cons i J ih =>
   intro hk;have h1 : i.de.k ≠ k := fun e => hk (List.mem_map.2 ⟨i, by simp, e⟩)
   rw [List.map_cons, idx, if_neg h1, ih fun hj => hk (List.mem_cons_of_mem _ hj)]; rfl
 unfold Vn;rw [this I (Wz.1 h)]
theorem JU {P Q : List Ky} {I : List It} {k : Ky} (hn : (keys I).Nodup) (h : (P ++ Q).Perm (keys I)) : (P.erase k ++ Q.erase k).Perm (keys (WE I k)) := by
 have hp := h.nodup_iff.2 hn;obtain ⟨h1, h2, _⟩ := List.nodup_append.1 hp;rw [U0, h1.erase_eq_filter, h2.erase_eq_filter, ← List.filter_append];have := h.filter fun x => !decide (x = k)
 refine .trans (.of_eq ?_) this;congr 1
theorem KX {m : Int} {P Q : List Ky} {k : Ky} (hn : (P ++ Q).Nodup) (hk : k ∈ P ∨ k ∈ Q) : (U6 m k P Q ++ U5 m k P Q).Perm (P ++ Q) := by
 have h0 : (P.erase k ++ (Q.erase k ++ [k])).Perm (P ++ Q) := by
  obtain ⟨h1, h2, h3⟩ := List.nodup_append.1 hn;rcases hk with hk | hk
  ·have hq : k ∉ Q := fun q => h3 k hk k q rfl
   rw [List.erase_of_not_mem hq];refine .trans ?_ ((List.perm_cons_erase hk).symm.append_right Q);rw [← List.append_assoc];exact List.perm_append_singleton _ _
  ·have hp : k ∉ P := fun p => h3 k p k hk rfl
   rw [List.erase_of_not_mem hp];refine .append_left P (.trans ?_ (List.perm_cons_erase hk).symm);exact List.perm_append_singleton _ _
 unfold U6 U5;rw [if_pos hk, if_pos hk];split
 ·next hm =>
  refine .trans ?_ h0;rw [List.append_assoc];refine .append_left _ ?_;cases hQ : Q.erase k ++ [k] with
  | nil => simp at hQ
  | cons x l => simp
 ·exact h0
/-! ### what is there, by the arena's blocks -/
theorem Pk.LU {D : List (Option Bt)} {L : List Nm} {Z Z' : List LS} (h : Pk D L Z) (p : Z.Perm Z') : Pk D L Z' := by
 have pB : (Y5 Z).Perm (Y5 Z') := p.map _;refine ⟨⟨h.inn.dis, h.inn.blk, fun x hx => h.inn.oth x (pB.mem_iff.2 hx), fun i b hb => (h.inn.all i b hb).imp id fun ⟨x, hx, h2⟩ => ⟨x, pB.mem_iff.1 hx, h2⟩, h.inn.us, h.inn.fold⟩, ⟨h.liv.dis, fun e he => ?_, h.liv.pos, fun i hi => h.liv.ids i ?_⟩, ?_, fun z hz => h.ok z (p.mem_iff.2 hz)⟩
 ·rw [h.liv.us e he];exact ((p.map _).flatten).count_eq _
 ·exact ((p.map _).flatten).mem_iff.2 hi
 ·exact (pB.map _).nodup_iff.1 h.hs
structure Sq (S : Ss) (W : List En) (D : List (Option Bt)) (L : List Nm) : Prop where
 its : W.map (·.i) = S.I
 pk : Pk D L (W.map En.z)
 kn : (keys S.I).Nodup
 kz : ∀ i ∈ S.I, i.k = Z8 i.s
 pq : (S.P ++ S.Q).Perm (keys S.I)
 pn : ∀ i ∈ S.I, 0 ≤ i.pins ∧ i.pins ≤ 1000
theorem Sq.sets {S : Ss} {W : List En} {D : List (Option Bt)} {L : List Nm} (h : Sq S W D L) : (W.map En.z).map (·.s) = sets S.I := by
 unfold Go.Proofs.YtejmbmenbailmaaGreat.sets;rw [← h.its, List.map_map, List.map_map];rfl
theorem Sq.used {S : Ss} {W : List En} {D : List (Option Bt)} {L : List Nm} (h : Sq S W D L) : Zb D = Ud (Go.Proofs.YtejmbmenbailmaaGreat.sets S.I) := by rw [h.pk.use, h.sets]
theorem Sq.left {N : Nat} {S : Ss} {W : List En} {D : List (Option Bt)} {L : List Nm} (h : Sq S W D L) : ((N - Zb D : Nat) : Int) = uK N S := by rw [h.used]; rfl
theorem Sq.cost {S : Ss} {W : List En} {D : List (Option Bt)} {L : List Nm} (h : Sq S W D L) (s : St) : uM L s = uz (Go.Proofs.YtejmbmenbailmaaGreat.sets S.I) s := by rw [h.pk.cst, h.sets]
theorem Sq.few {N : Nat} {S : Ss} {W : List En} {D : List (Option Bt)} {L : List Nm} (h : Sq S W D L) (hN : Zb D ≤ N) : 16 * W.length ≤ N := by
 have h1 := h.pk.inn.used h.pk.hs;have h2 : ∀ B : List (Int × Bs), 16 * B.length ≤ (B.map fun x => zY x.2.length).sum := fun B => by
  induction B with
  | nil => exact Nat.le_refl _
  | cons x B ih =>
   have := yP x.2.length;rw [List.map_cons, List.sum_cons, List.length_cons]; omega
 have h3 := h2 (Y5 (W.map En.z));have h4 : (Y5 (W.map En.z)).length = W.length := by unfold Y5; simp
 omega
theorem Ag {L : List Nm} {Z : List LS} (h : ∀ z ∈ Z, wC z.s = 0 ∧ J6 z.s ∧ Al L z.ids ((Z6 z.s).map zy)) : (KL Z).length ≤ 66 * Z.length := by
 induction Z with
 | nil => exact Nat.le_refl _
 | cons z Z ih =>
  have h1 := ih fun y hy => h y (List.mem_cons_of_mem _ hy)
  obtain ⟨h2, _, h3⟩ := h z (by simp);have h4 := h3.len;have h5 := VG z.s;have h6 := (VJ (VO h2).1).2.2.2.2.2.2.1;rw [List.length_map] at h4;unfold KL at h1 ⊢;rw [List.map_cons, List.flatten_cons, List.length_append, List.length_cons];omega
theorem Sq.us {N : Nat} {S : Ss} {W : List En} {D : List (Option Bt)} {L : List Nm} (h : Sq S W D L) (hN : Zb D ≤ N) (hb : N ≤ 1048576) : ∀ e ∈ L, e.u < 2 ^ 50 := fun e he => by
 have h1 := h.few hN;have h2 := Ag (L := L) h.pk.ok;rw [List.length_map] at h2;have := h.pk.us h2 e he;omega
theorem Sq.len {S : Ss} {W : List En} {D : List (Option Bt)} {L : List Nm} (h : Sq S W D L) : W.length = S.I.length ∧ S.P.length + S.Q.length = S.I.length := by
 refine ⟨by rw [← h.its, List.length_map], ?_⟩;have := h.pq.length_eq;rw [List.length_append] at this;unfold keys at this;rw [List.length_map] at this;exact this
theorem Sq.tK {S : Ss} {W : List En} {D : List (Option Bt)} {L : List Nm} (h : Sq S W D L) : (keys (W.map (·.i))).Nodup := by rw [h.its]; exact h.kn
theorem Sq.Fq {S : Ss} {W : List En} {D : List (Option Bt)} {L : List Nm} (h : Sq S W D L) {e : En} (he : e ∈ W) : VZ (W.map En.z) e.h = (UR W e.i.k).map En.z := by
 obtain ⟨A, B, h1, h2⟩ := WM h.tK he;rw [h2, h1];have hh := h.pk.hs;unfold Hs Y5 at hh;rw [h1, List.map_map, List.map_map, List.map_append, List.map_cons] at hh;obtain ⟨_, h4, h5⟩ := List.nodup_append.1 hh;have h6 := (List.nodup_cons.1 h4).1;unfold VZ;rw [List.map_append, List.filter_append, List.map_cons, List.filter_cons, if_neg (by show ¬ ((En.z e).h != e.h) = true; simp [En.z]), List.map_append];congr 1
 ·refine List.filter_eq_self.2 fun z hz => ?_
  obtain ⟨y, hy, rfl⟩ := List.mem_map.1 hz;have : y.h ≠ e.h := h5 y.h (List.mem_map.2 ⟨y, hy, rfl⟩) e.h (by show e.h ∈ e.h :: _; exact List.mem_cons_self);simpa [En.z] using this
 ·refine List.filter_eq_self.2 fun z hz => ?_
  obtain ⟨y, hy, rfl⟩ := List.mem_map.1 hz;have : y.h ≠ e.h := fun q => h6 (List.mem_map.2 ⟨y, hy, q⟩)
  simpa [En.z] using this
theorem vw (I : List It) (k : Ky) : (WE I k).Sublist I := List.filter_sublist
theorem Sq.gone {S : Ss} {W : List En} {D D' : List (Option Bt)} {L : List Nm} (h : Sq S W D L) {e : En} (he : e ∈ W) (hI : WT D' (drops L e.ids) (jv (Y5 (W.map En.z)) e.h)) : Sq (Xg e.i.k S) (UR W e.i.k) D' (drops L e.ids) := by
 have hz : e.z ∈ W.map En.z := List.mem_map.2 ⟨e, he, rfl⟩;have h1 := h.pk.drop hz hI;have h2 : VZ (W.map En.z) e.z.h = _ := h.Fq he;rw [h2] at h1;refine ⟨?_, h1, ?_, fun i hi => h.kz i ((vw _ _).subset hi), JU h.kn h.pq, fun i hi => h.pn i ((vw _ _).subset hi)⟩
 ·rw [sP, h.its]; rfl
 ·exact ((vw S.I e.i.k).map _).nodup h.kn
theorem Sq.ev {S : Ss} {W : List En} {D : List (Option Bt)} {L : List Nm} {V : List Ky} (h : Sq S W D L) : Sq ⟨S.I, S.P, S.Q, V⟩ W D L := ⟨h.its, h.pk, h.kn, h.kz, h.pq, h.pn⟩
theorem Sq.touch {S : Ss} {W : List En} {D : List (Option Bt)} {L : List Nm} {m : Int} {k : Ky} (h : Sq S W D L) (hk : k ∈ keys S.I) : Sq ⟨S.I, U6 m k S.P S.Q, U5 m k S.P S.Q, S.V⟩ W D L :=
 ⟨h.its, h.pk, h.kn, h.kz, .trans (KX (h.pq.nodup_iff.2 h.kn) (List.mem_append.1 (h.pq.mem_iff.2 hk))) h.pq, h.pn⟩
theorem Sq.nil : Sq ⟨[], [], [], []⟩ [] [] [] := ⟨rfl, Pk.nil, List.nodup_nil, fun i hi => by simp at hi, .nil, fun i hi => by simp at hi⟩
theorem Sq.put {N : Nat} {S : Ss} {W : List En} {D D' : List (Option Bt)} {L : List Nm} (h : Sq S W D L) {s : St} (hE : wC s = 0) (hs : J6 s) (he : (wG N D L (Z6 s)).e = 0)
 (hI : WT D' (wG N D L (Z6 s)).L ((((hnd (wG N D L (Z6 s)).D : Nat) : Int), Wd s (wG N D L (Z6 s)).ids) :: Y5 (W.map En.z))) (hh : Hs ((((hnd (wG N D L (Z6 s)).D : Nat) : Int), Wd s (wG N D L (Z6 s)).ids) :: Y5 (W.map En.z)))
 (hk : Wm S.I (Z8 s) = none) (rank came exp : Int) (eb : Nat) :
 Sq ⟨S.I ++ [⟨Z8 s, s, rank, came, exp, 0⟩], S.P ++ [Z8 s], S.Q, S.V⟩ (W ++ [⟨⟨Z8 s, s, rank, came, exp, 0⟩, ((hnd (wG N D L (Z6 s)).D : Nat) : Int), (wG N D L (Z6 s)).ids, eb⟩]) D' (wG N D L (Z6 s)).L := by
 have h1 := h.pk.put hE hs he hI hh;refine ⟨by rw [List.map_append, h.its]; rfl, ?_, ?_, ?_, ?_, ?_⟩
 ·rw [List.map_append];exact h1.LU (List.perm_append_singleton _ _).symm
 ·unfold keys;rw [List.map_append];refine List.nodup_append.2 ⟨h.kn, by simp, fun a ha b hb q => ?_⟩;simp at hb;exact Wz.1 hk (by rw [← hb, ← q]; exact ha)
 ·intro i hi;rcases List.mem_append.1 hi with hi | hi
  ·exact h.kz i hi
  ·rw [List.mem_singleton.1 hi]
 ·unfold keys;rw [List.map_append];have : ((S.P ++ [Z8 s]) ++ S.Q).Perm ((S.P ++ S.Q) ++ [Z8 s]) := by
   rw [List.append_assoc, List.append_assoc];exact .append_left _ List.perm_append_comm
  exact this.trans (h.pq.append_right _)
 ·intro i hi;rcases List.mem_append.1 hi with hi | hi
  ·exact h.pn i hi
  ·rw [List.mem_singleton.1 hi];exact ⟨Int.le_refl 0, by show (0 : Int) ≤ 1000; omega⟩
end Go.Proofs.YtejmbmenbailmaaGreat
namespace Go.Proofs.YtejmbmenbailmaaGreat
open Go.Xs
open Enc (enc)
theorem UE : Tryz.prog.underlying 127 = some (.map 43 135) := by kernel_rfl
theorem ny : Key.ok Ky Tryz.prog 43 := show oJ Tryz.prog 43 = true by kernel_rfl
theorem oZ : (Tryz.prog.info? 135).bind (·.zero) = some (.pointer none) := by kernel_rfl
theorem nM : isAgg? Tryz.prog 43 = some true := by kernel_rfl
abbrev LY (e : En) : Array Value := #[.int .i64 e.h, .int .i64 e.i.rank, .int .i64 e.i.came, .int .i64 e.i.exp, .int .i64 e.i.pins]
abbrev jM (e : En) : List Chunk := [(e.eb, .cells (LY e) 137)]
def Es (W : List En) : zw := W.map jM
theorem qw (A B : List En) : Es (A ++ B) = Es A ++ Es B := List.map_append
theorem X6 {W : List En} {e : En} (h : e ∈ W) : jM e ∈ Es W := List.mem_map.2 ⟨e, h, rfl⟩
abbrev ZY (sb ab tb mb lb db : Nat) (ev : Value) : List Chunk := [(sb, .cells #[.pointer (some ⟨ab, 0, none⟩), .pointer (some ⟨tb, 0, none⟩), .map (some mb), .pointer (some ⟨lb, 0, none⟩), .pointer (some ⟨db, 0, none⟩), ev] 133)]
def sH (sb ab tb mb lb db : Nat) (ev : Value) (HA HT HM HL HD HV : List Chunk) (W : List En) : List Chunk := ZY sb ab tb mb lb db ev ++ (HA ++ (HT ++ (HM ++ (HL ++ (HD ++ (HV ++ (Es W).flatten))))))
structure Sp (N : Nat) (S : Ss) (W : List En) (D : List (Option Bt)) (L : List Nm) (ab tb mb lb db : Nat) (ev : Value) (HA HT HM HL HD HV : List Chunk) : Prop where
 q : Sq S W D L
 a : Ar ab N D HA
 t : Tb tb ab L HT
 m : Mp mb (Xo W) W.length HM
 l : Lr lb ((N / 512 : Nat) : Int) S.P S.Q HL
 d : Du db (S.I.map It.de) HD
 v : Za 43 ev S.V HV
/-- a store of N bytes, as one piece of memory -/
def Sr (sb N : Nat) (S : Ss) (H : List Chunk) : Prop := ∃ (W : List En) (D : List (Option Bt)) (L : List Nm) (ab tb mb lb db : Nat) (ev : Value) (HA HT HM HL HD HV : List Chunk), Sp N S W D L ab tb mb lb db ev HA HT HM HL HD HV ∧ H = sH sb ab tb mb lb db ev HA HT HM HL HD HV W
theorem Sr.mk {sb N : Nat} {S : Ss} {W : List En} {D : List (Option Bt)} {L : List Nm} {ab tb mb lb db : Nat} {ev : Value} {HA HT HM HL HD HV : List Chunk} (h : Sp N S W D L ab tb mb lb db ev HA HT HM HL HD HV) : Sr sb N S (sH sb ab tb mb lb db ev HA HT HM HL HD HV W) := ⟨W, D, L, ab, tb, mb, lb, db, ev, HA, HT, HM, HL, HD, HV, h, rfl⟩
theorem Sp.nb {N : Nat} {S : Ss} {W : List En} {D : List (Option Bt)} {L : List Nm} {ab tb mb lb db : Nat} {ev : Value} {HA HT HM HL HD HV : List Chunk} (h : Sp N S W D L ab tb mb lb db ev HA HT HM HL HD HV) : N ≤ 1048576 ∧ Zb D ≤ N ∧ 16 * S.I.length ≤ N ∧ W.length = S.I.length ∧ S.P.length + S.Q.length = S.I.length := by
 obtain ⟨h1, h2, h3, _⟩ := h.a.kK;obtain ⟨h4, h5⟩ := h.q.len;exact ⟨h3, h1, by have := h.q.few h1; omega, h4, h5⟩
theorem Sr.nb {sb N : Nat} {S : Ss} {H : List Chunk} (h : Sr sb N S H) : N ≤ 1048576 ∧ 16 * S.I.length ≤ N ∧ S.P.length + S.Q.length = S.I.length ∧ Ud (sets S.I) ≤ N := by
 obtain ⟨W, D, L, ab, tb, mb, lb, db, ev, HA, HT, HM, HL, HD, HV, h, rfl⟩ := h;obtain ⟨h1, h2, h3, h4, h5⟩ := h.nb;exact ⟨h1, h3, h5, by rw [← h.q.used]; exact h2⟩
/-- opened, and closed again -/
theorem Tri.sp {P : Program} {f : FuncId} {args : Array Value} {R : Value → zw → Prop} {S0 : zw} {sb ab tb mb lb db : Nat} {ev : Value} {HA HT HM HL HD HV : List Chunk} {W : List En} (h : Tri P f args (ZY sb ab tb mb lb db ev :: HA :: HT :: HM :: HL :: HD :: HV :: (Es W ++ S0)) R) : Tri P f args (sH sb ab tb mb lb db ev HA HT HM HL HD HV W :: S0) R := h.perm (by simp [sH])
theorem Tri.iV {P : Program} {f : FuncId} {args : Array Value} {R : Value → zw → Prop} {sb ab tb mb lb db : Nat} {ev : Value} {HA HT HM HL HD HV : List Chunk} {W : List En} (h : Tri P f args (ZY sb ab tb mb lb db ev :: HA :: HT :: HM :: HL :: HD :: HV :: Es W) R) : Tri P f args [sH sb ab tb mb lb db ev HA HT HM HL HD HV W] R := h.perm (by simp [sH])
theorem zB.sp {S G : zw} {sb ab tb mb lb db : Nat} {ev : Value} {HA HT HM HL HD HV : List Chunk} {W : List En} [h : Sub S (ZY sb ab tb mb lb db ev :: HA :: HT :: HM :: HL :: HD :: HV :: Es W) G] : zB S [sH sb ab tb mb lb db ev HA HT HM HL HD HV W] := zB.trans (zB.of (h := h)) ⟨[], by simp [sH]⟩
theorem zB.LG {x : List Chunk} {S G : zw} {sb ab tb mb lb db : Nat} {ev : Value} {HA HT HM HL HD HV : List Chunk} {W : List En} [h : Sub S (x :: ZY sb ab tb mb lb db ev :: HA :: HT :: HM :: HL :: HD :: HV :: Es W) G] : zB S [x, sH sb ab tb mb lb db ev HA HT HM HL HD HV W] := zB.trans (zB.of (h := h)) ⟨[], by simp [sH]⟩
theorem zB.op {S S1 G : zw} {sb ab tb mb lb db : Nat} {ev : Value} {HA HT HM HL HD HV : List Chunk} {W : List En} [h : Sub S (sH sb ab tb mb lb db ev HA HT HM HL HD HV W :: S1) G] : zB S (ZY sb ab tb mb lb db ev :: HA :: HT :: HM :: HL :: HD :: HV :: (Es W ++ S1)) := zB.trans (zB.of (h := h)) ⟨[], by simp [sH]⟩
theorem jN {W : List En} {k : Ky} {e : En} (h : Ya W k = some e) : ((Xo W k).map Vv.vv).getD (.pointer none) = .pointer (some ⟨e.eb, 0, none⟩) := by unfold Xo; rw [h]; rfl
theorem EO {W : List En} {k : Ky} (h : Ya W k = none) : ((Xo W k).map Vv.vv).getD (.pointer none) = .pointer none := by unfold Xo; rw [h]; rfl
set_option maxRecDepth 10000 in
theorem og {n : Nat} (hn : 2048 ≤ n ∧ n ≤ 1048576) {z : Int} (hz : z = n) : Tri Tryz.prog 28 #[.int .i64 z] [] (fun r S => ∃ sb H, r = .tuple #[.pointer (some ⟨sb, 0, none⟩), .int .i64 0] ∧ Sr sb n ⟨[], [], [], []⟩ H ∧ S = [H]) := by
 subst hz;refine Tri.forget (zm Tryz.Da (Nat.le_of_ble_eq_true rfl) ?_);unfold Tryz.x28;refine ze (z8 (yp pC (yp pC (zf (za (ze (ze (z8 (yp (pI rfl) (yp (ZO rfl rfl) (yp (pB rfl) ?_)))))))))));rw [decide_eq_false (show ¬ (n : Int) < 2048 from by omega)];refine Z7 rfl (Zc (pI rfl) (Z7 rfl (Zc (VQ rfl rfl) (yp (zT rfl rfl) (zf (za ?_))))));rw [decide_eq_false (show ¬ (1048576 : Int) < (n : Int) from by omega)];refine zA rfl (zu (za (ze (z8 (yp (pI rfl) ?_)))));refine zh (zk (Ac (n := n) (by omega) rfl) rfl rfl fun r S' h => ?_);obtain ⟨ab, HA, rfl, hA, rfl⟩ := h;refine yp (pU rfl) (yp (pExt rfl rfl) (yp (pExt rfl rfl) (yp (pP rfl) (yp (pI rfl) (zf (za (ze (z8 (yp (pP rfl) (yp (pP rfl) ?_))))))))));refine zh (zk (BQ (ab := ab)) rfl rfl fun r S' h => ?_);obtain ⟨tb, HT, rfl, hT, rfl⟩ := h;refine zh (kG Ky Ptr fun mb HM hM => ?_);refine yp (pI rfl) (yp (sM rfl rfl (by decide) (by omega)) ?_);rw [show (n : Int).tdiv 512 = ((n / 512 : Nat) : Int) from rfl];refine zh (zk (CK ((n / 512 : Nat) : Int)) rfl rfl fun r S' h => ?_);obtain ⟨lb, HL, rfl, hL, rfl⟩ := h;refine zh (zk CQ rfl rfl fun r S' h => ?_);obtain ⟨db, HD, rfl, hD, rfl⟩ := h;rw [show max ((n / 512 : Nat) : Int) 0 = ((n / 512 : Nat) : Int) from by omega] at hL;refine yp (v := .agg #[.pointer (some ⟨ab, 0, none⟩), .pointer (some ⟨tb, 0, none⟩), .map (some mb), .pointer (some ⟨lb, 0, none⟩), .pointer (some ⟨db, 0, none⟩), .slice none 0 0]) rfl ?_;refine zh (Zq rfl fun p26 => ?_);refine yp (pP rfl) (yp pC (zf (za (zJ ?_))));exact zI (Fh rfl rfl) ⟨_, zB.re (S1 := [ZY p26 ab tb mb lb db (.slice none 0 0), HA, HT, HM, HL, HD]) (S2 := [sH p26 ab tb mb lb db (.slice none 0 0) HA HT HM HL HD [] []]) (by simp [sH, Es]), p26, _, rfl, Sr.mk ⟨Sq.nil, hA, hT, hM, hL, hD, .nil⟩, rfl⟩
set_option maxRecDepth 10000 in
theorem rC {n : Int} (hn : n < 2048 ∨ 1048576 < n) : Tri Tryz.prog 28 #[.int .i64 n] [] (fun r S => r = .tuple #[.pointer none, .int .i64 1] ∧ S = []) := by
 refine Tri.forget (zm Tryz.Da (Nat.le_of_ble_eq_true rfl) ?_);unfold Tryz.x28;refine ze (z8 (yp pC (yp pC (zf (za (ze (ze (z8 (yp (pI rfl) (yp (ZO rfl rfl) (yp (pB rfl) ?_)))))))))));by_cases h1 : n < 2048
 ·rw [decide_eq_true h1];refine Z0 rfl (Z0 rfl (yp (zO rfl rfl) (zf (za (zH rfl (ze (z8 (yp pC (yp pC (zf (za (zJ (zU ?_)))))))))))));exact zI (Fh rfl rfl) ⟨_, .of, rfl, rfl⟩
 ·rw [decide_eq_false h1];refine Z7 rfl (Zc (pI rfl) (Z7 rfl (Zc (VQ rfl rfl) (yp (zT rfl rfl) (zf (za ?_))))));rw [decide_eq_true (show 1048576 < n from by omega)];refine zH rfl (ze (z8 (yp pC (yp pC (zf (za (zJ (zU ?_))))))));exact zI (Fh rfl rfl) ⟨_, .of, rfl, rfl⟩
theorem ru {sb N : Nat} {S : Ss} {H : List Chunk} (hS : Sr sb N S H) : Tri Tryz.prog 36 #[.pointer (some ⟨sb, 0, none⟩)] [H] (fun r S' => r = .int .i64 (Ud (sets S.I) : Nat) ∧ S' = [H]) := by
 obtain ⟨W, D, L, ab, tb, mb, lb, db, ev, HA, HT, HM, HL, HD, HV, h, rfl⟩ := hS;refine Tri.forget (Tri.iV (zm Tryz.Hu (Nat.le_of_ble_eq_true rfl) ?_));unfold Tryz.Li;refine ze (z8 (yp pC (zf (za (ze (ze (z8 (yp (pP rfl) (yp (ZN rfl rfl) (zf (za (zA rfl (zu (za (ze (z8 (yp (pP rfl) (yp (zG rfl) (yp (zo rfl) ?_)))))))))))))))))));refine zh (zC rfl rfl ?_);refine zh (zk (QG h.a) rfl rfl fun r S' h => ?_);obtain ⟨rfl, rfl⟩ := h;refine yp (pI rfl) (zf (za (zJ ?_)));rw [h.q.used];exact zI (rI rfl) ⟨_, zB.sp, rfl, rfl⟩
theorem rD {sb N : Nat} {S : Ss} {H : List Chunk} (hS : Sr sb N S H) : Tri Tryz.prog 37 #[.pointer (some ⟨sb, 0, none⟩)] [H] (fun r S' => r = .int .i64 (uK N S) ∧ S' = [H]) := by
 obtain ⟨W, D, L, ab, tb, mb, lb, db, ev, HA, HT, HM, HL, HD, HV, h, rfl⟩ := hS;refine Tri.forget (Tri.iV (zm Tryz.D9 (Nat.le_of_ble_eq_true rfl) ?_));unfold Tryz.FB;refine ze (z8 (yp pC (zf (za (ze (ze (z8 (yp (pP rfl) (yp (ZN rfl rfl) (zf (za (zA rfl (zu (za (ze (z8 (yp (pP rfl) (yp (zG rfl) (yp (zo rfl) ?_)))))))))))))))))));refine zh (zC rfl rfl ?_);refine zh (zk (QH h.a) rfl rfl fun r S' h => ?_);obtain ⟨rfl, rfl⟩ := h;refine yp (pI rfl) (zf (za (zJ ?_)));rw [h.q.left];exact zI (rI rfl) ⟨_, zB.sp, rfl, rfl⟩
theorem dz : Tri Tryz.prog 33 #[.pointer none] [] (fun r S => r = .int .i64 0 ∧ S = []) := by
 refine Tri.forget (zm Tryz.HY (Nat.le_of_ble_eq_true rfl) ?_);unfold Tryz.Ll;refine ze (z8 (yp pC (zf (za (ze (ze (z8 (yp (pP rfl) (yp (ZN rfl rfl) (zf (za (zH rfl (ze (z8 (yp pC (zf (za (zJ (zU ?_)))))))))))))))))));exact zI (rI rfl) ⟨_, .of, rfl, rfl⟩
theorem VE {sb N : Nat} {S : Ss} {H : List Chunk} (hS : Sr sb N S H) : Tri Tryz.prog 32 #[.pointer (some ⟨sb, 0, none⟩)] [H] (fun r S' => ∃ H' HV, Za 43 r S.V HV ∧ Sr sb N ⟨S.I, S.P, S.Q, []⟩ H' ∧ S' = [HV, H']) := by
 obtain ⟨W, D, L, ab, tb, mb, lb, db, ev, HA, HT, HM, HL, HD, HV, h, rfl⟩ := hS;refine Tri.forget (Tri.iV (zm Tryz.HZ (Nat.le_of_ble_eq_true rfl) ?_));unfold Tryz.x32;have hV := h.v;obtain ⟨a, c, rfl⟩ := hV.isSlice;refine ze (z8 (yp pC (zf (za (ze (ze (z8 (yp (pP rfl) (yp (ZN rfl rfl) (zf (za (zA rfl (zu (za (ze (z8 (yp (pP rfl) (yp (zG rfl) (yp (zo rfl) ?_)))))))))))))))))));refine zh (zC rfl rfl ?_);refine yp (pS rfl) (zf (za (ze (z8 (yp (pP rfl) (yp (zG rfl) (yp (zo rfl) ?_)))))));refine zh (bF rfl rfl (Ye rfl) ?_);refine zf (za (ze (z8 (yp (pS rfl) (yp (pS rfl) (zf (za (zJ ?_))))))));exact zI (rS rfl) ⟨_, zB.LG (HV := []), _, HV, hV, Sr.mk (W := W) ⟨h.q.ev, h.a, h.t, h.m, h.l, h.d, .nil⟩, rfl⟩
end Go.Proofs.YtejmbmenbailmaaGreat
namespace Go.Proofs.YtejmbmenbailmaaGreat
open Go.Xs
open Enc (enc)
theorem qJ : sizeOf? Tryz.prog 43 = some 2 := by kernel_rfl
theorem qm : isAgg? Tryz.prog 76 = some true := by kernel_rfl
theorem Jo : sizeOf? Tryz.prog 76 = some 9 := by kernel_rfl
theorem kR (k : Ky) (hk : k.n.length < 2 ^ 62) : Tri Tryz.prog 76 #[.agg (Wi k)] [] (fun r S => r = .agg (Wi (fk k)) ∧ S = []) := by
 refine Tri.forget (zm Tryz.Gy (Nat.le_of_ble_eq_true rfl) ?_);unfold Tryz.IE;refine ze (z8 ?_);refine zh (Zq rfl fun p1 => ?_);refine zh (Zf fun p2 => ?_);refine zf (za (ze (zW (zi (zo rfl) (Z4 rfl rfl (zi (zo rfl) (Z4 rfl rfl ?_)))))));refine Zk (zk (Kh k.n hk) rfl rfl fun r S' h => ?_) zN;obtain ⟨rfl, rfl⟩ := h;refine ⟨by simp, ?_⟩;refine zi (uZ (rH rfl) (Uf rfl)) ?_;refine zM (vM rfl rfl rfl rfl rfl ?_) zN;refine zL (za (zJ ?_));exact zI (jk (dH (b := p2) nM qJ rfl rfl)) ⟨[], .of, rfl, rfl⟩
theorem UG (n most : Int) : Tri Tryz.prog 75 #[.int .i64 n, .int .i64 most] [] (fun r S => r = .bool (Ja n most) ∧ S = []) := by
 refine Tri.forget (zm Tryz.Gz (Nat.le_of_ble_eq_true rfl) ?_);unfold Tryz.IG Ja;refine ze (z8 (yp pC (zf (za (ze (z8 (yp (pI rfl) (yp (Y9 rfl rfl) (yp (pB rfl) ?_)))))))));by_cases h : 0 ≤ n
 ·rw [decide_eq_true h];refine Z7 rfl (Zc (pI rfl) (Z7 rfl (Zc (pI rfl) (Z7 rfl (Zc (Jc rfl rfl) (yp (zO rfl rfl) (yp (pB rfl) (zf (za (zJ ?_))))))))));exact zI (rB rfl) ⟨_, .of, rfl, rfl⟩
 ·rw [decide_eq_false h];refine Z0 rfl (Z0 rfl (Z0 rfl (yp (zT rfl rfl) (yp (pB rfl) (zf (za (zJ ?_)))))));exact zI (rB rfl) ⟨_, .of, rfl, rfl⟩
def Fj (o : Option En) : Value := .pointer (o.map fun e => ⟨e.eb, 0, none⟩)
theorem EN (W : List En) (k : Ky) : ((Xo W k).map Vv.vv).getD (.pointer none) = Fj (Ya W k) := by
 unfold Xo Fj;cases Ya W k <;> rfl
theorem kS {sb ab tb mb lb db n : Nat} {ev : Value} {W : List En} {HM : List Chunk} (hM : Mp mb (Xo W) n HM) (k : Ky) (hk : k.n.length < 2 ^ 62) :
 Tri Tryz.prog 84 #[.pointer (some ⟨sb, 0, none⟩), .agg (Wi k)] [ZY sb ab tb mb lb db ev, HM] (fun r S => r = Fj (Ya W (fk k)) ∧ S = [ZY sb ab tb mb lb db ev, HM]) := by
 refine Tri.forget (zm Tryz.D6 (Nat.le_of_ble_eq_true rfl) ?_);unfold Tryz.Fx;refine ze (z8 ?_);refine zh (Zq rfl fun p3 => ?_);refine yp pC (zf (za (ze (ze (z8 (yp (pP rfl) (yp (ZN rfl rfl) (zf (za (zA rfl (zu (za (ze (zW (zi (pP rfl) (zi (zG rfl) (zi (zo rfl) (Z4 rfl rfl (WC rfl rfl ?_)))))))))))))))))));refine Zk (zk (kR k hk) rfl rfl fun r S' h => ?_) zN;obtain ⟨rfl, rfl⟩ := h;refine ⟨by simp, ?_⟩;refine zM (Vr hM (by repeat (first | exact List.mem_cons_self | apply List.mem_cons_of_mem)) (fk k) UE ny oZ rfl rfl (EN W (fk k)) ?_) zN;refine zi (v := Fj (Ya W (fk k))) rfl (zL (za (zJ ?_)));exact zI (rP rfl) ⟨_, .of, rfl, rfl⟩
theorem lK (k : Ky) : Tri Tryz.prog 84 #[.pointer none, .agg (Wi k)] [] (fun r S => r = .pointer none ∧ S = []) := by
 refine Tri.forget (zm Tryz.D6 (Nat.le_of_ble_eq_true rfl) ?_);unfold Tryz.Fx;refine ze (z8 ?_);refine zh (Zq rfl fun p3 => ?_);refine yp pC (zf (za (ze (ze (z8 (yp (pP rfl) (yp (ZN rfl rfl) (zf (za (zH rfl (ze (z8 (yp pC (zf (za (zJ (zU ?_)))))))))))))))));exact zI (rP rfl) ⟨_, .of, rfl, rfl⟩
/-- an item as it is told -/
abbrev oK (i : It) (v : Value) : Array Value := #[sv (Zz i.s).name, .int .i64 (Zz i.s).typ, v, .int .i64 (Zz i.s).kind, sv (Zz i.s).zone, .int .i64 i.rank, .int .i64 i.came, .int .i64 i.exp, .int .i64 i.pins]
abbrev gD : Array Value := #[.string ⟨#[]⟩, .int .i64 0, .slice none 0 0, .int .i64 0, .string ⟨#[]⟩, .int .i64 0, .int .i64 0, .int .i64 0, .int .i64 0]
theorem dw {sb N ab tb mb lb db : Nat} {ev : Value} {S : Ss} {W : List En} {D : List (Option Bt)} {L : List Nm} {HA HT : List Chunk} (hq : Sq S W D L) (hA : Ar ab N D HA) (hT : Tb tb ab L HT) {e : En} (he : e ∈ W) :
 Tri Tryz.prog 85 #[.pointer (some ⟨sb, 0, none⟩), .pointer (some ⟨e.eb, 0, none⟩)] [ZY sb ab tb mb lb db ev, HA, HT, jM e] (fun r S => ∃ v HR, r = .agg (oK e.i v) ∧ Za 88 v (Zz e.i.s).rrs HR ∧ S = [HR, ZY sb ab tb mb lb db ev, HA, HT, jM e]) := by
 have hz : e.z ∈ W.map En.z := List.mem_map.2 ⟨e, he, rfl⟩;obtain ⟨hE, hs, hal⟩ := hq.pk.ok _ hz;have hC := Ca hT hA hq.pk.inn (KH hz) hE hal;refine Tri.forget (zm Tryz.Gr (Nat.le_of_ble_eq_true rfl) ?_);unfold Tryz.Iu;refine ze (z8 ?_);refine zh (Zf fun p4 => ?_);refine zf (za (ze (Vb (R := [ZY sb ab tb mb lb db ev, jM e]) (by simp) (zi (pP rfl) (zi (zG rfl) (zi (zo rfl) (Z4 rfl rfl (zi (pP rfl) (zi (zG rfl) (zi (zo rfl) (Z4 rfl rfl (zi (pP rfl) (zi (zG rfl) (zi (zo rfl) (Z4 rfl rfl ?_)))))))))))))));refine zM (zk hC rfl rfl fun r S' h => ?_) (Zk (Zf fun p5 => ⟨by simp, ?_⟩) zN)
 ·obtain ⟨v, HR, rfl, hR, rfl⟩ := h;obtain ⟨a, c, rfl⟩ := hR.isSlice;refine zi (pU rfl) (zi (pExt rfl rfl) (zi (pExt rfl rfl) ?_));refine Zk (Zf fun p5 => ⟨(by first | exact fun _ h => List.mem_cons_of_mem _ h | simp), ?_⟩) zN;refine zM (vM rfl rfl rfl rfl rfl ?_) zN;refine zi (pI rfl) (zL (za (ze (zW (WC rfl rfl (zi (pP rfl) (zi (zG rfl) (zi (zo rfl) (Z4 rfl rfl (zi (pP rfl) (zi (zG rfl) (zi (zo rfl) (Z4 rfl rfl (zi (pP rfl) (zi (zG rfl) (zi (zo rfl) (Z4 rfl rfl (zi (pP rfl) (zi (zG rfl) (zi (zo rfl) (Z4 rfl rfl (zi (v := .agg (oK e.i (.slice a (Zz e.z.s).rrs.length c))) rfl ?_))))))))))))))))))))));refine zM (vM rfl rfl rfl rfl rfl ?_) zN;refine zL (za (zJ ?_));exact zI (jk (dH (b := p4) qm Jo rfl rfl)) ⟨_, .of, _, HR, rfl, hR, rfl⟩
 ·refine zM (zk hC rfl rfl fun r S' h => ?_) zN;obtain ⟨v, HR, rfl, hR, rfl⟩ := h;obtain ⟨a, c, rfl⟩ := hR.isSlice;refine zi (pU rfl) (zi (pExt rfl rfl) (zi (pExt rfl rfl) ?_));refine zM (vM rfl rfl rfl rfl rfl ?_) zN;refine zi (pI rfl) (zL (za (ze (zW (WC rfl rfl (zi (pP rfl) (zi (zG rfl) (zi (zo rfl) (Z4 rfl rfl (zi (pP rfl) (zi (zG rfl) (zi (zo rfl) (Z4 rfl rfl (zi (pP rfl) (zi (zG rfl) (zi (zo rfl) (Z4 rfl rfl (zi (pP rfl) (zi (zG rfl) (zi (zo rfl) (Z4 rfl rfl (zi (v := .agg (oK e.i (.slice a (Zz e.z.s).rrs.length c))) rfl ?_))))))))))))))))))))));refine zM (vM rfl rfl rfl rfl rfl ?_) zN;refine zL (za (zJ ?_));exact zI (jk (dH (b := p4) qm Jo rfl rfl)) ⟨_, .of, _, HR, rfl, hR, rfl⟩
end Go.Proofs.YtejmbmenbailmaaGreat
namespace Go.Proofs.YtejmbmenbailmaaGreat
open Go.Xs
open Enc (enc)
theorem UN (X A B C : List Chunk) : (X ++ (A ++ (B ++ C))).Perm (X ++ (B ++ (A ++ C))) := by
 refine .append_left X ?_;rw [← List.append_assoc, ← List.append_assoc];exact List.perm_append_comm.append_right C
theorem qp (A B : List En) (e : En) : (Es (A ++ e :: B)).flatten = (Es A).flatten ++ (jM e ++ (Es B).flatten) := by
 rw [qw, List.flatten_append]; rfl
/-- one entry taken out of the others; put back, or left -/
theorem zB.cons {x : List Chunk} {S T : zw} (h : zB S T) : zB (x :: S) (x :: T) := by
 obtain ⟨G, h⟩ := h;refine ⟨G, ?_⟩;rw [List.flatten_cons, List.flatten_cons, List.append_assoc];exact h.append_left x
theorem zB.em {x : List Chunk} {sb ab tb mb lb db : Nat} {ev : Value} {HA HT HM HL HD HV : List Chunk} {A B : List En} {e : En} :
 zB (x :: ZY sb ab tb mb lb db ev :: HA :: HT :: HM :: HL :: HD :: HV :: Es (A ++ e :: B)) (x :: jM e :: ZY sb ab tb mb lb db ev :: HA :: HT :: HM :: HL :: HD :: HV :: (Es A ++ Es B)) := ⟨[], by
 simp only [List.flatten_cons, qp, List.flatten_append, List.append_nil];refine .append_left x ?_;have := UN [] (ZY sb ab tb mb lb db ev ++ (HA ++ (HT ++ (HM ++ (HL ++ (HD ++ (HV ++ (Es A).flatten))))))) (jM e) (Es B).flatten;simpa only [List.nil_append, List.append_assoc] using this⟩
theorem zB.ec {x : List Chunk} {S G : zw} {sb ab tb mb lb db : Nat} {ev : Value} {HA HT HM HL HD HV : List Chunk} {A B : List En} {e : En} [h : Sub S (x :: jM e :: ZY sb ab tb mb lb db ev :: HA :: HT :: HM :: HL :: HD :: HV :: (Es A ++ Es B)) G] :
 zB S [x, sH sb ab tb mb lb db ev HA HT HM HL HD HV (A ++ e :: B)] := zB.trans (zB.of (h := h)) ⟨[], by
 simp only [sH, List.flatten_cons, List.flatten_nil, qp, List.flatten_append, List.append_nil];refine .append_left x ?_;have := (UN [] (ZY sb ab tb mb lb db ev ++ (HA ++ (HT ++ (HM ++ (HL ++ (HD ++ (HV ++ (Es A).flatten))))))) (jM e) (Es B).flatten).symm;simpa only [List.nil_append, List.append_assoc] using this⟩
theorem zB.Ii {S G : zw} {sb ab tb mb lb db : Nat} {ev : Value} {HA HT HM HL HD HV : List Chunk} {A B : List En} {e : En} [h : Sub S (jM e :: ZY sb ab tb mb lb db ev :: HA :: HT :: HM :: HL :: HD :: HV :: (Es A ++ Es B)) G] :
 zB S [sH sb ab tb mb lb db ev HA HT HM HL HD HV (A ++ e :: B)] := zB.trans (zB.of (h := h)) ⟨[], by
 simp only [sH, List.flatten_cons, List.flatten_nil, qp, List.flatten_append, List.append_nil];have := (UN [] (ZY sb ab tb mb lb db ev ++ (HA ++ (HT ++ (HM ++ (HL ++ (HD ++ (HV ++ (Es A).flatten))))))) (jM e) (Es B).flatten).symm;simpa only [List.nil_append, List.append_assoc] using this⟩
theorem zB.sd {S G : zw} {sb ab tb mb lb db : Nat} {ev : Value} {HA HT HM HL HD HV : List Chunk} {A B : List En} [h : Sub S (ZY sb ab tb mb lb db ev :: HA :: HT :: HM :: HL :: HD :: HV :: (Es A ++ Es B)) G] :
 zB S [sH sb ab tb mb lb db ev HA HT HM HL HD HV (A ++ B)] := zB.trans (zB.of (h := h)) ⟨[], by simp [sH, qw]⟩
theorem zB.op1 {x : List Chunk} {S G : zw} {sb ab tb mb lb db : Nat} {ev : Value} {HA HT HM HL HD HV : List Chunk} {W : List En} [h : Sub S [x, sH sb ab tb mb lb db ev HA HT HM HL HD HV W] G] : zB S (x :: ZY sb ab tb mb lb db ev :: HA :: HT :: HM :: HL :: HD :: HV :: Es W) := zB.trans (zB.of (h := h)) ⟨[], by simp [sH]⟩
theorem mO {W : List En} {e : En} (hn : (keys (W.map (·.i))).Nodup) (he : e ∈ W) : Ki (Xo W) e.i.k W.length = (UR W e.i.k).length := by
 obtain ⟨A, B, h1, h2⟩ := WM hn he;have hf : (Xo W e.i.k).isSome = true := by
  unfold Xo Ya;cases h : W.find? (fun x => decide (x.i.k = e.i.k)) with
  | none => have := List.find?_eq_none.1 h e he; simp at this
  | some x => rfl
 unfold Ki;rw [if_pos hf, h2, h1];simp
theorem Ut {S : Ss} {W : List En} {D : List (Option Bt)} {L : List Nm} (hq : Sq S W D L) {k : Ky} {i : It} (h : Wm S.I k = some i) : ∃ e, Ya W k = some e ∧ e ∈ W ∧ e.i = i ∧ i.k = k := by
 rw [← hq.its, QB] at h;obtain ⟨e, he, rfl⟩ := Option.map_eq_some_iff.1 h;exact ⟨e, he, (jJ he).1, rfl, (jJ he).2⟩
theorem xX {S : Ss} {W : List En} {D : List (Option Bt)} {L : List Nm} (hq : Sq S W D L) {k : Ky} (h : Wm S.I k = none) : Ya W k = none := by
 rw [← hq.its, QB] at h;exact Option.map_eq_none_iff.1 h
theorem Jq {sb N : Nat} {S : Ss} {H : List Chunk} (hS : Sr sb N S H) {k : Ky} {i : It} (hk : Wm S.I k = some i) :
 Tri Tryz.prog 77 #[.pointer (some ⟨sb, 0, none⟩), .agg (Wi k)] [H] (fun r S' => r = .tuple #[] ∧ ∃ H', Sr sb N (Xg k S) H' ∧ S' = [H']) := by
 have hnb := hS.nb;obtain ⟨W, D, L, ab, tb, mb, lb, db, ev, HA, HT, HM, HL, HD, HV, h, rfl⟩ := hS;obtain ⟨e, hf, he, rfl, hek⟩ := Ut h.q hk;have hz : e.z ∈ W.map En.z := List.mem_map.2 ⟨e, he, rfl⟩;obtain ⟨hE, hs, hal⟩ := h.q.pk.ok _ hz;have hC := rW h.t h.a h.q.pk.inn h.q.pk.pos (KH hz) hE hal hs;have hC : Tri Tryz.prog 23 #[.pointer (some ⟨ab, 0, none⟩), .pointer (some ⟨tb, 0, none⟩), .int .i64 e.h] _ _ := hC;obtain ⟨A, B, hW, hout⟩ := WM h.q.tK he;refine Tri.forget (Tri.iV (zm Tryz.Gx (Nat.le_of_ble_eq_true rfl) ?_));unfold Tryz.IC;have hEs : Es W = Es (A ++ e :: B) := by rw [← hW]
 rw [hEs];refine ze (z8 ?_);refine zh (Zq rfl fun p3 => ?_);refine zf (za (zn zB.em (ze (zW (zi (pP rfl) (zi (zG rfl) (zi (zo rfl) (Z4 rfl rfl (zi (pP rfl) (zi (zG rfl) (zi (zo rfl) (Z4 rfl rfl (zi (pP rfl) (zi (zG rfl) (zi (zo rfl) (Z4 rfl rfl (WC rfl rfl ?_)))))))))))))))));refine Zk (Vr h.m (by repeat (first | exact List.mem_cons_self | apply List.mem_cons_of_mem)) k UE ny oZ rfl rfl (jN hf) ⟨fun _ h => h, ?_⟩) zN;refine zi (zG rfl) (zi (zo rfl) (Z4 rfl rfl ?_));refine zM (zk hC rfl rfl fun r S' h => ?_) zN;obtain ⟨rfl, HT1, HA1, D1, hT1, hA1, hI1, _, rfl⟩ := h;refine zL (za (ze (zW (zi (pP rfl) (zi (zG rfl) (zi (zo rfl) (Z4 rfl rfl (WC rfl rfl ?_))))))));refine zM (bI h.m k UE ny rfl rfl fun HM1 hM1 => ?_) zN;refine zL (za (ze (zW (zi (pP rfl) (zi (zG rfl) (zi (zo rfl) (Z4 rfl rfl (WC rfl rfl ?_))))))));refine zM (zk (tq h.l (by omega) (by omega) k) rfl rfl fun r S' h => ?_) zN;obtain ⟨rfl, HL1, hL1, rfl⟩ := h;refine zL (za (zW (zi (pP rfl) (zi (zG rfl) (zi (zo rfl) (Z4 rfl rfl (WC rfl rfl ?_)))))));refine zM (zk (tJ h.d (by rw [List.length_map]; omega) k) rfl rfl fun r S' h => ?_) zN;obtain ⟨rfl, HD1, hD1, rfl⟩ := h;refine zL ?_;subst hek;have hq1 := h.q.gone he hI1;rw [← nG, mO h.q.tK he] at hM1;rw [YU h.q.kn] at hD1;have hR : Sp N (Xg e.i.k S) (UR W e.i.k) D1 _ ab tb mb lb db ev HA1 HT1 HM1 HL1 HD1 HV := ⟨hq1, hA1, hT1, hM1, hL1, hD1, h.v⟩
 have hR := Sr.mk (sb := sb) hR;rw [hout] at hR;exact ZX wm ⟨_, zB.sd, rfl, _, hR, rfl⟩
theorem qO {sb N : Nat} {S : Ss} {H : List Chunk} (hS : Sr sb N S H) {k : Ky} {i : It} (hk : Wm S.I k = some i) (hv : S.V.length < 2 ^ 30) :
 Tri Tryz.prog 79 #[.pointer (some ⟨sb, 0, none⟩), .agg (Wi k)] [H] (fun r S' => r = .tuple #[] ∧ ∃ H', Sr sb N (Yb k S) H' ∧ S' = [H']) := by
 refine Tri.forget (zm Tryz.Gv (Nat.le_of_ble_eq_true rfl) ?_);unfold Tryz.Iz;refine ze (z8 ?_);refine zh (Zq rfl fun p3 => ?_);refine zf (za (ze (z8 (yp (pP rfl) ?_))));refine zh (Zx rfl rfl ?_);refine zh (zk (Jq hS hk) rfl rfl fun r S' h => ?_);obtain ⟨rfl, H1, hS1, rfl⟩ := h;obtain ⟨W, D, L, ab, tb, mb, lb, db, ev, HA, HT, HM, HL, HD, HV, h, rfl⟩ := hS1;refine zf (za ?_);refine zn (S0 := [(p3, .cells (Wi k) 43)] :: ZY sb ab tb mb lb db ev :: HA :: HT :: HM :: HL :: HD :: HV :: Es W) ?_ ?_
 ·exact zB.op1
 have hV := h.v;obtain ⟨a, c, rfl⟩ := hV.isSlice;refine zW (zi (pP rfl) (zi (pP rfl) (zi (zG rfl) (zi (zo rfl) (Z4 rfl rfl (WC rfl rfl ?_))))));refine Zk (WX k rfl rfl (by decide) (by decide) rfl fun p13 => ⟨fun _ h => List.mem_cons_of_mem _ h, ?_⟩) zN;have hvl : (Xg k S).V.length < 2 ^ 30 := hv;refine zM (VA (Y := [k]) rfl rfl hV (.lit (by repeat (first | exact List.mem_cons_self | apply List.mem_cons_of_mem)) rfl) rfl (⟨[], 0⟩ : Ky) rfl (by rw [List.length_singleton]; omega) (by rw [List.length_singleton]; omega) fun v2 H2 hV2 => ?_) zN;obtain ⟨a2, c2, rfl⟩ := hV2.isSlice;refine zi (zG rfl) (zi (zo rfl) ?_);refine zM (bF rfl rfl (Ye rfl) ?_) zN;refine zL ?_;exact ZX wm ⟨_, zB.sp, rfl, _, Sr.mk (S := Yb k S) ⟨h.q.ev, h.a, h.t, h.m, h.l, h.d, hV2⟩, rfl⟩
end Go.Proofs.YtejmbmenbailmaaGreat
namespace Go.Proofs.YtejmbmenbailmaaGreat
open Go.Xs
open Enc (enc)
def yN (k : Ky) (S : Ss) : Ss × Int := match Wm S.I (fk k) with
 | none => (S, 5)
 | some i => if 0 < i.pins then (S, 6) else (Xg (fk k) S, 0)
def Vj (I : List It) (k : Ky) (p : Int) : List It := I.map fun i => if i.k = k then { i with pins := p } else i
def xO (k : Ky) (by_ : Int) (S : Ss) : Ss × Int := match Wm S.I (fk k) with
 | none => (S, 5)
 | some i => if Ja (i.pins + by_) 1000 = false then (S, 1) else (⟨Vj S.I (fk k) (i.pins + by_), S.P, S.Q, S.V⟩, 0)
theorem xK (I : List It) (k : Ky) (p : Int) : keys (Vj I k p) = keys I := by
 unfold keys Vj;rw [List.map_map];refine List.map_congr_left fun i _ => ?_
 show (if i.k = k then { i with pins := p } else i).k = i.k;split <;> rfl
theorem qQ (I : List It) (k : Ky) (p : Int) : (Vj I k p).map It.de = I.map It.de := by
 unfold Vj;rw [List.map_map];refine List.map_congr_left fun i _ => ?_
 show (if i.k = k then { i with pins := p } else i).de = i.de;split <;> rfl
abbrev JA (p : Int) (e : En) : En := { e with i := { e.i with pins := p } }
theorem dF {A B : List En} {e : En} (hn : (keys ((A ++ e :: B).map (·.i))).Nodup) (p : Int) : (A ++ JA p e :: B).map (·.i) = Vj ((A ++ e :: B).map (·.i)) e.i.k p := by
 have hne : ∀ X : List En, (∀ y ∈ X, y.i.k ≠ e.i.k) → X.map (·.i) = Vj (X.map (·.i)) e.i.k p := fun X hX => by
  unfold Vj;rw [List.map_map];refine List.map_congr_left fun y hy => ?_
  show y.i = if y.i.k = e.i.k then _ else y.i
  rw [if_neg (hX y hy)]
 have hn : ((A ++ e :: B).map fun y => y.i.k).Nodup := by
  have : keys ((A ++ e :: B).map (·.i)) = (A ++ e :: B).map fun y => y.i.k := by unfold keys; rw [List.map_map]; rfl
  rw [← this]; exact hn
 rw [List.map_append, List.map_cons] at hn;obtain ⟨_, h2, h3⟩ := List.nodup_append.1 hn;have h4 := (List.nodup_cons.1 h2).1;have hA := hne A fun y hy q => h3 y.i.k (List.mem_map.2 ⟨y, hy, rfl⟩) e.i.k List.mem_cons_self q
 have hB := hne B fun y hy q => h4 (List.mem_map.2 ⟨y, hy, q⟩)
 have happ : ∀ X Y : List It, Vj (X ++ Y) e.i.k p = Vj X e.i.k p ++ Vj Y e.i.k p := fun X Y => List.map_append
 rw [List.map_append, List.map_cons, List.map_append, List.map_cons, happ, hA, ← hA];congr 1;show _ = (if e.i.k = e.i.k then _ else e.i) :: Vj (B.map (·.i)) e.i.k p;rw [if_pos rfl, ← hB]
theorem nH {A B : List En} {e : En} (p : Int) : Xo (A ++ JA p e :: B) = Xo (A ++ e :: B) := by
 funext x;unfold Xo Ya;have hd : decide ((JA p e).i.k = x) = decide (e.i.k = x) := rfl;rw [List.find?_append, List.find?_append, List.find?_cons, List.find?_cons, hd];cases List.find? (fun y => decide (y.i.k = x)) A <;> cases decide (e.i.k = x) <;> rfl
theorem rE {sb N : Nat} {S : Ss} {H : List Chunk} (hS : Sr sb N S H) (k : Ky) (hkl : k.n.length < 2 ^ 62) :
 Tri Tryz.prog 42 #[.pointer (some ⟨sb, 0, none⟩), .agg (Wi k)] [H] (fun r S' => r = .int .i64 (yN k S).2 ∧ ∃ H', Sr sb N (yN k S).1 H' ∧ S' = [H']) := by
 have hS0 := hS;obtain ⟨W, D, L, ab, tb, mb, lb, db, ev, HA, HT, HM, HL, HD, HV, h, rfl⟩ := hS;refine Tri.forget (Tri.iV (zm Tryz.D8 (Nat.le_of_ble_eq_true rfl) ?_));unfold Tryz.Fz;refine ze (z8 ?_);refine zh (Zq rfl fun p3 => ?_);refine yp pC (zf (za (ze (z8 (yp (pP rfl) ?_)))));refine zh (Zx rfl rfl ?_);refine zh (zk (kS (ab := ab) (tb := tb) (lb := lb) (db := db) (ev := ev) h.m k hkl) rfl rfl fun r S' h => ?_);obtain ⟨rfl, rfl⟩ := h;cases hb : Wm S.I (fk k) with
 | none =>
  rw [xX h.q hb];unfold yN;rw [hb];refine yp (v := .pointer none) rfl (zf (za (ze (zq (ze (z8 (yp (pP rfl) (yp (ZN rfl rfl) (yp (pB rfl) (zf (za (zH rfl (ze (z8 (yp pC (zf (za (zJ (bret (zU ?_))))))))))))))))))));exact zI (rI rfl) ⟨_, zB.sp, rfl, _, hS0, rfl⟩
 | some i =>
  obtain ⟨e, hf, he, rfl, hek⟩ := Ut h.q hb;rw [hf];rw [show yN k S = if 0 < e.i.pins then (S, 6) else (Xg (fk k) S, 0) from by unfold yN; rw [hb]];refine yp (v := .pointer (some ⟨e.eb, 0, none⟩)) rfl (zf (za (ze (zq (ze (z8 (yp (pP rfl) (yp (ZN rfl rfl) (yp (pB rfl) (zf (za (zA rfl (ze (z8 (yp (pP rfl) (yp (zG rfl) (yp (zo rfl) ?_)))))))))))))))));refine zh (Uh (List.mem_cons_of_mem _ (List.mem_cons_of_mem _ (List.mem_cons_of_mem _ (List.mem_cons_of_mem _ (List.mem_cons_of_mem _ (List.mem_cons_of_mem _ (List.mem_cons_of_mem _ (List.mem_cons_of_mem _ (X6 he))))))))) rfl rfl ?_);refine yp (VQ rfl rfl) (yp (pB rfl) (zf (za ?_)));by_cases hp : 0 < e.i.pins
  ·rw [decide_eq_true hp, if_pos hp];refine zH rfl (ze (z8 (yp pC (zf (za (zJ (bret (zU ?_))))))));exact zI (rI rfl) ⟨_, zB.sp, rfl, _, hS0, rfl⟩
  ·rw [decide_eq_false hp, if_neg hp];refine zA rfl (zu (zR (za ?_)));refine zn (S0 := [[(p3, .cells (Wi k) 43)], sH sb ab tb mb lb db ev HA HT HM HL HD HV W]) ?_ ?_
   ·exact zB.LG
   refine ze (z8 (yp (pP rfl) ?_));refine zh (Zx rfl rfl ?_);refine zh (zk (kR k hkl) rfl rfl fun r S' h => ?_);obtain ⟨rfl, rfl⟩ := h;refine zh (zk (Jq hS0 hb) rfl rfl fun r S' h => ?_);obtain ⟨rfl, H1, hS1, rfl⟩ := h;refine zf (za (ze (z8 (yp pC (zf (za (zJ ?_)))))));exact zI (rI rfl) ⟨[H1], .of, rfl, _, hS1, rfl⟩
theorem lM (k : Ky) : Tri Tryz.prog 42 #[.pointer none, .agg (Wi k)] [] (fun r S => r = .int .i64 5 ∧ S = []) := by
 refine Tri.forget (zm Tryz.D8 (Nat.le_of_ble_eq_true rfl) ?_);unfold Tryz.Fz;refine ze (z8 ?_);refine zh (Zq rfl fun p3 => ?_);refine yp pC (zf (za (ze (z8 (yp (pP rfl) ?_)))));refine zh (Zx rfl rfl ?_);refine zh (zk (lK k) rfl rfl fun r S' h => ?_);obtain ⟨rfl, rfl⟩ := h;refine yp (pP rfl) (zf (za (ze (zq (ze (z8 (yp (pP rfl) (yp (ZN rfl rfl) (yp (pB rfl) (zf (za (zH rfl (ze (z8 (yp pC (zf (za (zJ (bret (zU ?_))))))))))))))))))));exact zI (rI rfl) ⟨_, .of, rfl, rfl⟩
theorem uT (n most : Int) : Ja n most = true ↔ 0 ≤ n ∧ n ≤ most := by unfold Ja; simp
theorem o9 {sb N : Nat} {S : Ss} {H : List Chunk} (hS : Sr sb N S H) (k : Ky) (hkl : k.n.length < 2 ^ 62) (by_ : Int) (hby : -1 ≤ by_ ∧ by_ ≤ 1) :
 Tri Tryz.prog 82 #[.pointer (some ⟨sb, 0, none⟩), .agg (Wi k), .int .i64 by_] [H] (fun r S' => r = .int .i64 (xO k by_ S).2 ∧ ∃ H', Sr sb N (xO k by_ S).1 H' ∧ S' = [H']) := by
 have hS0 := hS;obtain ⟨W, D, L, ab, tb, mb, lb, db, ev, HA, HT, HM, HL, HD, HV, h, rfl⟩ := hS;refine Tri.forget (Tri.iV (zm Tryz.Gs (Nat.le_of_ble_eq_true rfl) ?_));unfold Tryz.Iw;refine ze (z8 ?_);refine zh (Zq rfl fun p4 => ?_);refine yp pC (zf (za (ze (z8 (yp (pP rfl) ?_)))));refine zh (Zx rfl rfl ?_);refine zh (zk (kS (ab := ab) (tb := tb) (lb := lb) (db := db) (ev := ev) h.m k hkl) rfl rfl fun r S' h => ?_);obtain ⟨rfl, rfl⟩ := h;cases hb : Wm S.I (fk k) with
 | none =>
  rw [xX h.q hb];unfold xO;rw [hb];refine yp (v := .pointer none) rfl (zf (za (ze (zq (ze (z8 (yp (pP rfl) (yp (ZN rfl rfl) (yp (pB rfl) (zf (za (zH rfl (ze (z8 (yp pC (zf (za (zJ (bret (zU ?_))))))))))))))))))));exact zI (rI rfl) ⟨_, zB.sp, rfl, _, hS0, rfl⟩
 | some i =>
  obtain ⟨e, hf, he, rfl, hek⟩ := Ut h.q hb;have hpn := h.q.pn e.i (by rw [← h.q.its]; exact List.mem_map.2 ⟨e, he, rfl⟩);rw [hf];rw [show xO k by_ S = if Ja (e.i.pins + by_) 1000 = false then (S, 1) else (⟨Vj S.I (fk k) (e.i.pins + by_), S.P, S.Q, S.V⟩, 0) from by unfold xO; rw [hb]];obtain ⟨A, B, rfl, hout⟩ := WM h.q.tK he;refine yp (v := .pointer (some ⟨e.eb, 0, none⟩)) rfl (zf (za ?_));refine zn (S0 := [(p4, .cells (Wi k) 43)] :: ZY sb ab tb mb lb db ev :: HA :: HT :: HM :: HL :: HD :: HV :: Es (A ++ e :: B)) ?_ ?_
  ·exact zB.of
  refine zn zB.em (ze (zq (ze (z8 (yp (pP rfl) (yp (ZN rfl rfl) (yp (pB rfl) (zf (za (zA rfl (ze (z8 (yp (pP rfl) (yp (zG rfl) (yp (zo rfl) ?_)))))))))))))));refine zh (zC rfl rfl ?_);refine yp (pI rfl) (yp (vW rfl rfl (by omega)) ?_);refine zh (zk (UG (e.i.pins + by_) 1000) rfl rfl fun r S' h => ?_);obtain ⟨rfl, rfl⟩ := h;refine yp (Zi rfl) (yp (pB rfl) (zf (za ?_)));cases hw : Ja (e.i.pins + by_) 1000 with
  | false =>
   rw [if_pos rfl];refine zH rfl (ze (z8 (yp pC (zf (za (zJ (bret (zU ?_))))))));exact zI (rI rfl) ⟨_, zB.Ii (e := e), rfl, _, hS0, rfl⟩
  | true =>
   rw [if_neg (by decide)];have hw2 := (uT _ _).1 hw;refine zA rfl (zu (zR (za (ze (z8 (yp (pP rfl) (yp (zG rfl) (yp (zo rfl) ?_))))))));refine zh (zC rfl rfl ?_);refine yp (pI rfl) (yp (vW rfl rfl (by omega)) (yp (zG rfl) (yp (zo rfl) ?_)));refine zh (bG rfl rfl (Uf rfl) ?_);refine zf (za (ze (z8 (yp pC (zf (za (zJ ?_)))))));have hp2 : Sp N ⟨Vj S.I (fk k) (e.i.pins + by_), S.P, S.Q, S.V⟩ (A ++ JA (e.i.pins + by_) e :: B) D L ab tb mb lb db ev HA HT HM HL HD HV := by
    refine ⟨⟨?_, ?_, ?_, ?_, ?_, ?_⟩, h.a, h.t, ?_, h.l, ?_, h.v⟩
    ·rw [dF h.q.tK, h.q.its, hek]
    ·have : (A ++ JA (e.i.pins + by_) e :: B).map En.z = (A ++ e :: B).map En.z := by rw [List.map_append, List.map_append]; rfl
     rw [this]; exact h.q.pk
    ·show (keys (Vj _ _ _)).Nodup;rw [xK]; exact h.q.kn
    ·intro i hi;obtain ⟨j, hj, rfl⟩ := List.mem_map.1 hi;have := h.q.kz j hj;show (if j.k = fk k then { j with pins := e.i.pins + by_ } else j).k = Z8 (if j.k = fk k then { j with pins := e.i.pins + by_ } else j).s;split <;> exact this
    ·show (S.P ++ S.Q).Perm (keys (Vj _ _ _));rw [xK]; exact h.q.pq
    ·intro i hi;obtain ⟨j, hj, rfl⟩ := List.mem_map.1 hi;show 0 ≤ (if j.k = fk k then { j with pins := e.i.pins + by_ } else j).pins ∧ (if j.k = fk k then { j with pins := e.i.pins + by_ } else j).pins ≤ 1000;split
     ·exact hw2
     ·exact h.q.pn j hj
    ·rw [nH];have : (A ++ JA (e.i.pins + by_) e :: B).length = (A ++ e :: B).length := by simp
     rw [this]; exact h.m
    ·rw [qQ]; exact h.d
   exact zI (rI rfl) ⟨_, zB.Ii (e := JA (e.i.pins + by_) e), rfl, _, Sr.mk hp2, rfl⟩
theorem BS {sb N : Nat} {S : Ss} {H : List Chunk} (hS : Sr sb N S H) (k : Ky) (hkl : k.n.length < 2 ^ 62) :
 Tri Tryz.prog 31 #[.pointer (some ⟨sb, 0, none⟩), .agg (Wi k)] [H] (fun r S' => r = .int .i64 (xO k 1 S).2 ∧ ∃ H', Sr sb N (xO k 1 S).1 H' ∧ S' = [H']) := by
 refine Tri.forget (zm Tryz.I4 (Nat.le_of_ble_eq_true rfl) ?_);unfold Tryz.x31;refine ze (z8 ?_);refine zh (Zq rfl fun p3 => ?_);refine yp pC (zf (za (ze (z8 (yp (pP rfl) ?_)))));refine zh (Zx rfl rfl ?_);refine zh (zk (o9 hS k hkl 1 (by decide)) rfl rfl fun r S' h => ?_);obtain ⟨rfl, H1, hS1, rfl⟩ := h;refine yp (pI rfl) (zf (za (zJ ?_)));exact zI (rI rfl) ⟨[H1], .of, rfl, _, hS1, rfl⟩
theorem qL {sb N : Nat} {S : Ss} {H : List Chunk} (hS : Sr sb N S H) (k : Ky) (hkl : k.n.length < 2 ^ 62) :
 Tri Tryz.prog 34 #[.pointer (some ⟨sb, 0, none⟩), .agg (Wi k)] [H] (fun r S' => r = .int .i64 (xO k (-1) S).2 ∧ ∃ H', Sr sb N (xO k (-1) S).1 H' ∧ S' = [H']) := by
 refine Tri.forget (zm Tryz.Hz (Nat.le_of_ble_eq_true rfl) ?_);unfold Tryz.x34;refine ze (z8 ?_);refine zh (Zq rfl fun p3 => ?_);refine yp pC (zf (za (ze (z8 (yp (pP rfl) ?_)))));refine zh (Zx rfl rfl ?_);refine zh (zk (o9 hS k hkl (-1) (by decide)) rfl rfl fun r S' h => ?_);obtain ⟨rfl, H1, hS1, rfl⟩ := h;refine yp (pI rfl) (zf (za (zJ ?_)));exact zI (rI rfl) ⟨[H1], .of, rfl, _, hS1, rfl⟩
end Go.Proofs.YtejmbmenbailmaaGreat
namespace Go.Proofs.YtejmbmenbailmaaGreat
open Go.Xs
open Enc (enc)
/-- what Peek tells -/
def oV (S : Ss) (k : Ky) (H : List Chunk) (r : Value) (S' : zw) : Prop :=
 (Wm S.I (fk k) = none ∧ r = .tuple #[.agg gD, .bool false] ∧ S' = [H]) ∨ ∃ i v HR, Wm S.I (fk k) = some i ∧ r = .tuple #[.agg (oK i v), .bool true] ∧ Za 88 v (Zz i.s).rrs HR ∧ S' = [HR, H]
theorem rz {sb N : Nat} {S : Ss} {H : List Chunk} (hS : Sr sb N S H) (k : Ky) (hkl : k.n.length < 2 ^ 62) :
 Tri Tryz.prog 39 #[.pointer (some ⟨sb, 0, none⟩), .agg (Wi k)] [H] (oV S k H) := by
 obtain ⟨W, D, L, ab, tb, mb, lb, db, ev, HA, HT, HM, HL, HD, HV, h, rfl⟩ := hS;refine Tri.forget (Tri.iV (zm Tryz.Hr (Nat.le_of_ble_eq_true rfl) ?_));unfold Tryz.x39;refine ze (z8 ?_);refine zh (Zq rfl fun p3 => ?_);refine zh (Zf fun p4 => ?_);refine yp pC (zf (za (ze (z8 (yp (pP rfl) ?_)))));refine zh (Zx rfl rfl ?_);refine zh (zk (kS (ab := ab) (tb := tb) (lb := lb) (db := db) (ev := ev) h.m k hkl) rfl rfl fun r S' h => ?_);obtain ⟨rfl, rfl⟩ := h;cases hb : Wm S.I (fk k) with
 | none =>
  rw [xX h.q hb];refine yp (v := .pointer none) rfl (zf (za (ze (ze (z8 (yp (pP rfl) (yp (ZN rfl rfl) (zf (za (zH rfl (ze (z8 (yp VY ?_)))))))))))));refine zh (vM rfl rfl rfl rfl rfl ?_);refine yp pC (zf (za (zJ (zU ?_))));exact zI (UK (dH (b := p4) qm Jo rfl rfl) (oh rfl)) ⟨_, zB.sp, .inl ⟨hb, rfl, rfl⟩⟩
 | some i =>
  obtain ⟨e, hf, he, rfl, hek⟩ := Ut h.q hb;rw [hf];have hC := dw (sb := sb) (mb := mb) (lb := lb) (db := db) (ev := ev) h.q h.a h.t he;obtain ⟨A, B, rfl, hout⟩ := WM h.q.tK he;refine yp (v := .pointer (some ⟨e.eb, 0, none⟩)) rfl (zf (za ?_));refine zn (S0 := [(p4, .cells gD 76)] :: [(p3, .cells (Wi k) 43)] :: ZY sb ab tb mb lb db ev :: HA :: HT :: HM :: HL :: HD :: HV :: Es (A ++ e :: B)) ?_ ?_
  ·exact zB.of
  refine zn (zB.cons zB.em) (ze (ze (z8 (yp (pP rfl) (yp (ZN rfl rfl) (zf (za (zA rfl (zu (za (ze (z8 (yp (pP rfl) (yp (pP rfl) ?_))))))))))))));refine zh (zk hC rfl rfl fun r S' h => ?_);obtain ⟨v, HR, rfl, hR, rfl⟩ := h;obtain ⟨a, c, rfl⟩ := hR.isSlice;refine zh (vM rfl rfl rfl rfl rfl ?_);refine yp pC (zf (za (zJ ?_)));exact zI (UK (dH (b := p4) qm Jo rfl rfl) (oh rfl)) ⟨_, zB.ec (x := HR) (e := e), .inr ⟨e.i, _, HR, hb, rfl, hR, rfl⟩⟩
/-- what Get tells, and makes of the store -/
def Ah (sb N : Nat) (S : Ss) (k : Ky) (now : Int) (H : List Chunk) (r : Value) (S' : zw) : Prop :=
 ((∀ i, Wm S.I (fk k) = some i → i.exp ≤ now) ∧ r = .tuple #[.agg gD, .bool false] ∧ S' = [H]) ∨ ∃ i v HR H', Wm S.I (fk k) = some i ∧ now < i.exp ∧ r = .tuple #[.agg (oK i v), .bool true] ∧ Za 88 v (Zz i.s).rrs HR ∧ Sr sb N ⟨S.I, U6 ((N / 512 : Nat) : Int) (fk k) S.P S.Q, U5 ((N / 512 : Nat) : Int) (fk k) S.P S.Q, S.V⟩ H' ∧ S' = [HR, H']
theorem dx {sb N : Nat} {S : Ss} {H : List Chunk} (hS : Sr sb N S H) (k : Ky) (hkl : k.n.length < 2 ^ 62) (now : Int) :
 Tri Tryz.prog 40 #[.pointer (some ⟨sb, 0, none⟩), .agg (Wi k), .int .i64 now] [H] (Ah sb N S k now H) := by
 have hnb := hS.nb;obtain ⟨W, D, L, ab, tb, mb, lb, db, ev, HA, HT, HM, HL, HD, HV, h, rfl⟩ := hS;refine Tri.forget (Tri.iV (zm Tryz.Hq (Nat.le_of_ble_eq_true rfl) ?_));unfold Tryz.Lh;refine ze (z8 ?_);refine zh (Zq rfl fun p4 => ?_);refine zh (Zf fun p6 => ?_);refine yp pC (zf (za (ze (z8 (yp (pP rfl) ?_)))));refine zh (Zx rfl rfl ?_);refine zh (zk (kS (ab := ab) (tb := tb) (lb := lb) (db := db) (ev := ev) h.m k hkl) rfl rfl fun r S' h => ?_);obtain ⟨rfl, rfl⟩ := h;cases hb : Wm S.I (fk k) with
 | none =>
  rw [xX h.q hb];refine yp (v := .pointer none) rfl (zf (za (ze (ze (z8 (yp (pP rfl) (yp (ZN rfl rfl) (yp (pB rfl) (Z0 rfl (Z0 rfl (Z0 rfl (Z0 rfl (Z0 rfl (Z0 rfl (yp (zO rfl rfl) (zf (za (zH rfl (ze (z8 (yp VY ?_)))))))))))))))))))));refine zh (vM rfl rfl rfl rfl rfl ?_);refine yp pC (zf (za (zJ (zU ?_))));exact zI (UK (dH (b := p6) qm Jo rfl rfl) (oh rfl)) ⟨_, zB.sp, .inl ⟨(fun i hi => by rw [hb] at hi; exact absurd hi (by simp)), rfl, rfl⟩⟩
 | some i =>
  obtain ⟨e, hf, he, rfl, hek⟩ := Ut h.q hb;rw [hf];have hkm : fk k ∈ keys S.I := by rw [← hek]; exact List.mem_map.2 ⟨e.i, (jT hb).1, rfl⟩
  have hC := dw (sb := sb) (mb := mb) (lb := lb) (db := db) (ev := ev) (h.q.touch (m := ((N / 512 : Nat) : Int)) hkm) h.a h.t he;obtain ⟨A, B, rfl, hout⟩ := WM h.q.tK he;refine yp (v := .pointer (some ⟨e.eb, 0, none⟩)) rfl (zf (za ?_));refine zn (S0 := [(p6, .cells gD 76)] :: [(p4, .cells (Wi k) 43)] :: ZY sb ab tb mb lb db ev :: HA :: HT :: HM :: HL :: HD :: HV :: Es (A ++ e :: B)) ?_ ?_
  ·exact zB.of
  refine zn (zB.cons zB.em) (ze (ze (z8 (yp (pP rfl) (yp (ZN rfl rfl) (yp (pB rfl) (Z7 rfl (Zc (pP rfl) (Z7 rfl (Zc (zG rfl) (Z7 rfl (Zc (zo rfl) (Z7 rfl ?_)))))))))))));refine (zC rfl rfl ?_);refine Z7 rfl (Zc (pI rfl) (Z7 rfl (Zc (Jc rfl rfl) (yp (zT rfl rfl) (zf (za ?_))))));by_cases hx : e.i.exp ≤ now
  ·rw [decide_eq_true hx];refine zH rfl (ze (z8 (yp VY ?_)));refine zh (vM rfl rfl rfl rfl rfl ?_);refine yp pC (zf (za (zJ (zU ?_))));exact zI (UK (dH (b := p6) qm Jo rfl rfl) (oh rfl)) ⟨_, zB.Ii (e := e), .inl ⟨(fun i hi => by rw [hb] at hi; obtain rfl := Option.some.inj hi; exact hx), rfl, rfl⟩⟩
  ·rw [decide_eq_false hx];refine zA rfl (zu (za (ze (zW (zi (pP rfl) (zi (zG rfl) (zi (zo rfl) (Z4 rfl rfl (WC rfl rfl ?_)))))))));refine Zk (zk (kR k hkl) rfl rfl fun r S' h => ?_) zN;obtain ⟨rfl, rfl⟩ := h;refine ⟨fun _ h => h, ?_⟩;refine zM (zk (mY h.l (by omega) (by omega) (fk k)) rfl rfl fun r S' h => ?_) zN;obtain ⟨rfl, HL1, hL1, rfl⟩ := h;refine zL (za (ze (z8 (yp (pP rfl) (yp (pP rfl) ?_)))));refine zh (zk hC rfl rfl fun r S' h => ?_);obtain ⟨v, HR, rfl, hR, rfl⟩ := h;obtain ⟨a, c, rfl⟩ := hR.isSlice;refine zh (vM rfl rfl rfl rfl rfl ?_);refine yp pC (zf (za (zJ ?_)));exact zI (UK (dH (b := p6) qm Jo rfl rfl) (oh rfl)) ⟨_, zB.ec (x := HR) (e := e), .inr ⟨e.i, _, HR, _, hb, by omega, rfl, hR, Sr.mk ⟨h.q.touch hkm, h.a, h.t, h.m, hL1, h.d, h.v⟩, rfl⟩⟩
end Go.Proofs.YtejmbmenbailmaaGreat
namespace Go.Proofs.YtejmbmenbailmaaGreat
open Go.Xs
open Enc (enc)
theorem Af : isAgg? Tryz.prog 4 = some false := by kernel_rfl
theorem pfx {α : Type} {L : List α} {f : α → Array Value} {pre : List (Array Value)} {x : Array Value} (h : pre ++ [x] <+: L.map f) : ∃ (hl : pre.length < L.length), x = f L[pre.length] := by
 obtain ⟨t, ht⟩ := h;have h1 : (L.map f)[pre.length]? = some x := by
  rw [← ht, List.append_assoc, List.getElem?_append_right (Nat.le_refl _), Nat.sub_self]; rfl
 rw [List.getElem?_map] at h1;obtain ⟨y, hy, rfl⟩ := Option.map_eq_some_iff.1 h1;obtain ⟨hl, rfl⟩ := List.getElem?_eq_some_iff.1 hy;exact ⟨hl, rfl⟩
theorem yK {f : Ky → Bool} : ∀ {l : List Ky} {n : Nat} {k : Ky}, (∀ x ∈ l.take n, f x = false) → l[n]? = some k → f k = true → l.find? f = some k
 | y :: l, 0, k, _, hk, hf => by
  rw [List.getElem?_cons_zero] at hk;obtain rfl := Option.some.inj hk;rw [List.find?_cons, hf]
 | y :: l, n + 1, k, hn, hk, hf => by
  rw [List.getElem?_cons_succ] at hk;rw [List.find?_cons, hn y (by simp)];exact yK (fun x hx => hn x (by rw [List.take_succ_cons]; exact List.mem_cons_of_mem _ hx)) hk hf
theorem YM {f : Ky → Bool} {l : List Ky} (h : ∀ x ∈ l, f x = false) : l.find? f = none := by
 rw [List.find?_eq_none];intro x hx;rw [h x hx]; decide
theorem KU {now : Int} {I : List It} {e : De} (h : e ∈ upto now (I.map It.de)) : e.k ∈ keys I := by
 unfold upto at h;have h1 := (List.mem_filter.1 h).1;have h2 := (yx (key := Ua) (I.map It.de)).mem_iff.1 h1;obtain ⟨i, hi, rfl⟩ := List.mem_map.1 h2;exact List.mem_map.2 ⟨i, hi, rfl⟩
theorem Kq {S : Ss} {W : List En} {D : List (Option Bt)} {L : List Nm} (hq : Sq S W D L) {k : Ky} (h : k ∈ keys S.I) : ∃ e, Ya W k = some e ∧ e ∈ W ∧ Wm S.I k = some e.i ∧ free S.I k = decide (e.i.pins = 0) := by
 cases hb : Wm S.I k with
 | none => exact absurd h (Wz.1 hb)
 | some i =>
  obtain ⟨e, hf, he, rfl, _⟩ := Ut hq hb;exact ⟨e, hf, he, rfl, by unfold free; rw [hb]⟩
theorem fG {now : Int} {S : Ss} {n : Nat} {e : De} (hn : ∀ x ∈ (upto now (S.I.map It.de)).take n, free S.I x.k = false) (he : (upto now (S.I.map It.de))[n]? = some e) (hf : free S.I e.k = true) : wX now S = some e.k := by
 unfold wX due;rw [List.find?_append];have : ((upto now (S.I.map It.de)).map (·.k)).find? (free S.I) = some e.k := yK (n := n) (fun x hx => by
  rw [← List.map_take] at hx;obtain ⟨y, hy, rfl⟩ := List.mem_map.1 hx;exact hn y hy) (by rw [List.getElem?_map, he]; rfl) hf
 rw [this]; rfl
theorem fF {now : Int} {S : Ss} (hn : ∀ x ∈ upto now (S.I.map It.de), free S.I x.k = false) : wX now S = (S.P ++ S.Q).find? (free S.I) := by
 unfold wX due;rw [List.find?_append];have : ((upto now (S.I.map It.de)).map (·.k)).find? (free S.I) = none := YM fun x hx => by
  obtain ⟨y, hy, rfl⟩ := List.mem_map.1 hx;exact hn y hy
 rw [this]; rfl
theorem Yo {α : Type} {L : List α} {n : Nat} (h : n < L.length) {p : α → Prop} (hp : ∀ x ∈ L.take n, p x) (hx : p L[n]) : ∀ x ∈ L.take (n + 1), p x := fun x hx' => by
 rw [List.take_succ_eq_append_getElem h] at hx';rcases List.mem_append.1 hx' with h1 | h1
 ·exact hp x h1
 ·rw [List.mem_singleton.1 h1]; exact hx
abbrev Ak (p2 p4 p5 sb : Nat) (k : Ky) (b : Bool) : zw := [[(p2, .cells #[.pointer (some ⟨sb, 0, none⟩)] 63)], [(p4, .cells (Wi k) 43)], [(p5, .cells #[.bool b] 4)]]
theorem rA {sb N : Nat} {S : Ss} {H : List Chunk} (hS : Sr sb N S H) (now : Int) :
 Tri Tryz.prog 78 #[.pointer (some ⟨sb, 0, none⟩), .int .i64 now] [H] (fun r S' => r = .tuple #[.agg (Wi ((wX now S).getD ⟨[], 0⟩)), .bool (wX now S).isSome] ∧ S' = [H]) := by
 have hnb := hS.nb;obtain ⟨W, D, L, ab, tb, mb, lb, db, ev, HA, HT, HM, HL, HD, HV, h, rfl⟩ := hS;refine Tri.forget (Tri.iV (zm Tryz.Gw (Nat.le_of_ble_eq_true rfl) ?_));unfold Tryz.IB;refine ze (z8 ?_);refine zh (iU (Jb rfl) fun p2 => ?_);refine zh (Zf fun p4 => ?_);refine zh (Zf fun p5 => ?_);refine zf (za (ze (ze (z8 ?_))));refine zh (zC rfl rfl ?_);refine yp (zG rfl) (yp (zo rfl) ?_);refine zh (zC rfl rfl ?_);refine yp (pI rfl) ?_;refine zh (zk fP rfl rfl fun r S' h => ?_);obtain ⟨bd, ba, rfl, rfl⟩ := h;refine zf (za (zq ?_));have hdl : (S.I.map It.de).length < 2 ^ 38 := by rw [List.length_map]; omega
 have hmemT : ∀ {e : En}, e ∈ W → ∀ {X : zw}, jM e ∈ X ++ Es W := fun he X => List.mem_append.2 (.inr (X6 he))
 refine XJ (fun pre T => (∀ x ∈ (upto now (S.I.map It.de)).take pre.length, free S.I x.k = false) ∧ zB T (Ak p2 p4 p5 sb ⟨[], 0⟩ false ++ (ZY sb ab tb mb lb db ev :: HA :: HT :: HM :: HL :: HD :: HV :: Es W)))
  (fun e pre T => e = .ret ∧ ∃ k, wX now S = some k ∧ zB T (Ak p2 p4 p5 sb k true ++ (ZY sb ab tb mb lb db ev :: HA :: HT :: HM :: HL :: HD :: HV :: Es W)))
  rfl rfl (jB (db := db) (bd := bd) (ba := ba) (S0 := Ak p2 p4 p5 sb ⟨[], 0⟩ false ++ (ZY sb ab tb mb lb db ev :: HA :: HT :: HM :: HL :: HV :: Es W)) h.d hdl now) ⟨by simp, .of⟩ ?_ ?_ ?_ ?_
 ·intro pre x hx;obtain ⟨_, rfl⟩ := pfx hx;rfl
 ·rintro l pre x T hx ⟨hn, hJ⟩;obtain ⟨hl, rfl⟩ := pfx hx;have hm := List.getElem_mem hl;have hg : (upto now (S.I.map It.de))[pre.length]? = some (upto now (S.I.map It.de))[pre.length] := List.getElem?_eq_getElem hl;have hst := Yo hl hn;generalize (upto now (S.I.map It.de))[pre.length] = d at hm hg hst;obtain ⟨e, hf, he, hb, hfr⟩ := Kq h.q (KU hm);refine zn hJ (z8 ?_);refine zh (Zf fun p6 => ?_);refine zh (vM rfl rfl rfl rfl rfl ?_);refine zf (za (zq (ze (zW (Z4 rfl rfl (zi (zG rfl) (zi (zo rfl) (Z4 rfl rfl (WC rfl rfl ?_)))))))));refine Zk (Vr h.m (by repeat (first | exact List.mem_cons_self | apply List.mem_cons_of_mem)) d.k UE ny oZ rfl rfl (jN hf) ⟨fun _ h => h, ?_⟩) zN;refine zi (zG rfl) (zi (zo rfl) (l5 (v := .int .i64 e.i.pins) (by repeat (first | exact X6 he | apply List.mem_cons_of_mem)) rfl rfl (zi (vJ rfl rfl) (zL (za ?_)))));by_cases hp : e.i.pins = 0
  ·rw [decide_eq_true hp] at hfr ⊢;have hnx := fG hn hg hfr;refine zH rfl (ze (z8 ?_));refine zh (Zx rfl rfl ?_);refine zh (vM rfl rfl rfl rfl rfl ?_);refine zh (ZJ rfl rfl (Aj rfl) ?_);refine zf (za (zJ (bret ?_)));exact ⟨rfl, d.k, hnx, .of⟩
  ·rw [decide_eq_false hp] at hfr ⊢;refine zA rfl (zu (zR ?_));exact ⟨by rw [List.length_append]; exact hst hfr, .of⟩
 ·rintro xs S' hd ⟨hn, hJ⟩;have hxl : xs.length = (upto now (S.I.map It.de)).length := by rw [hd, List.length_map]
  rw [hxl, List.take_length] at hn;have hnx := fF (now := now) (S := S) hn;refine zR (za ?_);refine zn hJ (ze (ze (z8 ?_)));refine zh (zC rfl rfl ?_);refine yp (zG rfl) (yp (zo rfl) ?_);refine zh (zC rfl rfl ?_);refine zh (zk mZ rfl rfl fun r S' h => ?_);obtain ⟨bl, rfl, rfl⟩ := h;refine zf (za (zq ?_));refine XJ (fun pre T => (∀ x ∈ (S.P ++ S.Q).take pre.length, free S.I x = false) ∧ zB T (Ak p2 p4 p5 sb ⟨[], 0⟩ false ++ (ZY sb ab tb mb lb db ev :: HA :: HT :: HM :: HL :: HD :: HV :: Es W)))
   (fun e pre T => e = .ret ∧ ∃ k, wX now S = some k ∧ zB T (Ak p2 p4 p5 sb k true ++ (ZY sb ab tb mb lb db ev :: HA :: HT :: HM :: HL :: HD :: HV :: Es W)))
   rfl rfl (aB (bl := bl) (S0 := Ak p2 p4 p5 sb ⟨[], 0⟩ false ++ (ZY sb ab tb mb lb db ev :: HA :: HT :: HM :: HD :: HV :: Es W)) h.l (by omega) (by omega)) ⟨by simp, .of⟩ ?_ ?_ ?_ ?_
  ·intro pre x hx;obtain ⟨_, rfl⟩ := pfx hx;rfl
  ·rintro l pre x T hx ⟨hn2, hJ⟩;obtain ⟨hl, rfl⟩ := pfx hx;have hm := List.getElem_mem hl;have hg : (S.P ++ S.Q)[pre.length]? = some (S.P ++ S.Q)[pre.length] := List.getElem?_eq_getElem hl;have hst := Yo hl hn2;generalize (S.P ++ S.Q)[pre.length] = d at hm hg hst;obtain ⟨e, hf, he, hb, hfr⟩ := Kq h.q (h.q.pq.mem_iff.1 hm);refine zn hJ (z8 ?_);refine zh (Zf fun p7 => ?_);refine zh (vM rfl rfl rfl rfl rfl ?_);refine zf (za (zq (ze (zW (Z4 rfl rfl (zi (zG rfl) (zi (zo rfl) (Z4 rfl rfl (WC rfl rfl ?_)))))))));refine Zk (Vr h.m (by repeat (first | exact List.mem_cons_self | apply List.mem_cons_of_mem)) d UE ny oZ rfl rfl (jN hf) ⟨fun _ h => h, ?_⟩) zN;refine zi (zG rfl) (zi (zo rfl) (l5 (v := .int .i64 e.i.pins) (by repeat (first | exact X6 he | apply List.mem_cons_of_mem)) rfl rfl (zi (vJ rfl rfl) (zL (za ?_)))));by_cases hp : e.i.pins = 0
   ·rw [decide_eq_true hp] at hfr ⊢;refine zH rfl (ze (z8 ?_));refine zh (Zx rfl rfl ?_);refine zh (vM rfl rfl rfl rfl rfl ?_);refine zh (ZJ rfl rfl (Aj rfl) ?_);refine zf (za (zJ (bret ?_)));exact ⟨rfl, d, by rw [hnx]; exact yK hn2 hg hfr, .of⟩
   ·rw [decide_eq_false hp] at hfr ⊢;refine zA rfl (zu (zR ?_));exact ⟨by rw [List.length_append]; exact hst hfr, .of⟩
  ·rintro xs S' hd ⟨hn2, hJ⟩;have hxl : xs.length = (S.P ++ S.Q).length := by rw [hd, List.length_map]
   rw [hxl, List.take_length] at hn2;rw [YM hn2] at hnx;refine zR (za ?_);refine zn hJ (ze (z8 (yp VY ?_)));refine zh (vM rfl rfl rfl rfl rfl ?_);refine zh (ZJ rfl rfl (Aj rfl) ?_);refine zf (za (zJ ?_));rw [hnx];exact zI (UK (dH (b := p4) nM qJ rfl rfl) (Fg (b := p5) Af rfl)) ⟨_, zB.sp, rfl, rfl⟩
  ·rintro e pre S' _ ⟨rfl, k, hk, hJ⟩;rw [hk];refine bret (zU ?_);exact zI (Yz hJ (UK (dH (b := p4) nM qJ rfl rfl) (Fg (b := p5) Af rfl))) ⟨_, hJ.trans zB.sp, rfl, rfl⟩
 ·rintro e pre S' _ ⟨rfl, k, hk, hJ⟩;rw [hk];refine bret (zU ?_);exact zI (Yz hJ (UK (dH (b := p4) nM qJ rfl rfl) (Fg (b := p5) Af rfl))) ⟨_, hJ.trans zB.sp, rfl, rfl⟩
end Go.Proofs.YtejmbmenbailmaaGreat
namespace Go.Proofs.YtejmbmenbailmaaGreat
open Go.Xs
open Enc (enc)
instance (priority := low) Sub.appSuf {A S : zw} : Sub (A ++ S) S A := ⟨by rw [List.flatten_append]; exact List.perm_append_comm⟩
theorem zB.LK {sb ab tb mb lb db : Nat} {ev : Value} {HA HT HM HL HD HV : List Chunk} {W : List En} {S0 : zw} : zB (sH sb ab tb mb lb db ev HA HT HM HL HD HV W :: S0) (ZY sb ab tb mb lb db ev :: HA :: HT :: HM :: HL :: HD :: HV :: (Es W ++ S0)) := ⟨[], by simp [sH]⟩
theorem zB.add {x : List Chunk} {S G S0 : zw} {sb ab tb mb lb db : Nat} {ev : Value} {HA HT HM HL HD HV : List Chunk} {W : List En} {e : En} (hx : x = jM e) [h : Sub S (x :: ZY sb ab tb mb lb db ev :: HA :: HT :: HM :: HL :: HD :: HV :: (Es W ++ S0)) G] :
 zB S (sH sb ab tb mb lb db ev HA HT HM HL HD HV (W ++ [e]) :: S0) := zB.trans (zB.of (h := h)) ⟨[], by
 subst hx;have e1 : Es (W ++ [e]) = Es W ++ [jM e] := qw W [e];simp only [sH, e1, List.flatten_cons, List.flatten_nil, List.flatten_append, List.append_nil, List.append_assoc];have := (UN [] (ZY sb ab tb mb lb db ev ++ (HA ++ (HT ++ (HM ++ (HL ++ (HD ++ (HV ++ (Es W).flatten))))))) (jM e) S0.flatten).symm;simpa only [List.nil_append, List.append_assoc] using this⟩
theorem zB.LP {x y : List Chunk} {S G S0 : zw} {sb ab tb mb lb db : Nat} {ev : Value} {HA HT HM HL HD HV : List Chunk} {W : List En} [h : Sub S (x :: y :: ZY sb ab tb mb lb db ev :: HA :: HT :: HM :: HL :: HD :: HV :: (Es W ++ S0)) G] : zB S (x :: y :: sH sb ab tb mb lb db ev HA HT HM HL HD HV W :: S0) := zB.trans (zB.of (h := h)) ⟨[], by simp [sH]⟩
theorem zB.LZ {S G S0 : zw} {sb ab tb mb lb db : Nat} {ev : Value} {HA HT HM HL HD HV : List Chunk} {W : List En} [h : Sub S (ZY sb ab tb mb lb db ev :: HA :: HT :: HM :: HL :: HD :: HV :: (Es W ++ S0)) G] : zB S (sH sb ab tb mb lb db ev HA HT HM HL HD HV W :: S0) := zB.trans (zB.of (h := h)) ⟨[], by simp [sH]⟩
theorem Tri.op {P : Program} {f : FuncId} {args : Array Value} {R : Value → zw → Prop} {sb ab tb mb lb db : Nat} {ev : Value} {HA HT HM HL HD HV : List Chunk} {W : List En} (h : Tri P f args [sH sb ab tb mb lb db ev HA HT HM HL HD HV W] R) : Tri P f args (ZY sb ab tb mb lb db ev :: HA :: HT :: HM :: HL :: HD :: HV :: Es W) R := h.perm (by simp [sH])
theorem lJ {sb ab tb mb lb db N : Nat} {ev : Value} {D : List (Option Bt)} {HA : List Chunk} (hA : Ar ab N D HA) : Tri Tryz.prog 37 #[.pointer (some ⟨sb, 0, none⟩)] [ZY sb ab tb mb lb db ev, HA] (fun r S' => r = .int .i64 ((N - Zb D : Nat) : Int) ∧ S' = [ZY sb ab tb mb lb db ev, HA]) := by
 refine Tri.forget (zm Tryz.D9 (Nat.le_of_ble_eq_true rfl) ?_);unfold Tryz.FB;refine ze (z8 (yp pC (zf (za (ze (ze (z8 (yp (pP rfl) (yp (ZN rfl rfl) (zf (za (zA rfl (zu (za (ze (z8 (yp (pP rfl) (yp (zG rfl) (yp (zo rfl) ?_)))))))))))))))))));refine zh (zC rfl rfl ?_);refine zh (zk (QH hA) rfl rfl fun r S' h => ?_);obtain ⟨rfl, rfl⟩ := h;refine yp (pI rfl) (zf (za (zJ ?_)));exact zI (rI rfl) ⟨_, .of, rfl, rfl⟩
theorem Qg {now : Int} {S : Ss} {k : Ky} (h : wX now S = some k) : ∃ i, Wm S.I k = some i ∧ i.pins = 0 := by
 have hf := List.find?_some h;unfold free at hf;cases hb : Wm S.I k with
 | none => rw [hb] at hf; cases hf
 | some i => rw [hb] at hf; exact ⟨i, rfl, of_decide_eq_true hf⟩
theorem VF {I : List It} (hn : (keys I).Nodup) {k : Ky} {i : It} (h : Wm I k = some i) : I.length = (WE I k).length + 1 := by
 obtain ⟨hi, rfl⟩ := jT h;clear h
 induction I with
 | nil => simp at hi
 | cons j I ih =>
  have hn2 := List.nodup_cons.1 hn;unfold WE at ih ⊢;rw [List.filter_cons];by_cases hj : j.k = i.k
  ·rw [if_neg (by simp [hj]), List.filter_eq_self.2, List.length_cons];intro y hy;have : y.k ≠ i.k := fun q => hn2.1 (List.mem_map.2 ⟨y, hy, q.trans hj.symm⟩)
   simpa using this
  ·rw [if_pos (by simp [hj]), List.length_cons, List.length_cons, ih hn2.2 ?_];rcases List.mem_cons.1 hi with rfl | hi
   ·exact absurd rfl hj
   ·exact hi
theorem Qz {I : List It} {k k' : Ky} (h : Wm I k = none) : Wm (WE I k') k = none := by
 rw [Wz] at h ⊢;rw [U0];exact fun hm => h (List.mem_filter.1 hm).1
theorem iD (I : List It) (k : Ky) : Wm (WE I k) k = none := by
 rw [Wz, U0];intro hm;have := (List.mem_filter.1 hm).2;simp at this
theorem je {N : Nat} {K k : Ky} {s : St} {rank now exp : Int} {S : Ss} {i : It} (hn : (keys S.I).Nodup) (h : uK N S < uz (sets S.I) s) (hk : wX now S = some k) (hb : Wm S.I k = some i) : Ul N K s rank now exp S = Ul N K s rank now exp (Yb k S) := by
 have hl := VF hn hb;unfold Ul;have e1 : uG N now s S.I.length S = uG N now s (Yb k S).I.length (Yb k S) := by
  rw [hl, uG, if_pos h, hk]; rfl
 rw [e1]
theorem rG {N : Nat} {K : Ky} {s : St} {rank now exp : Int} {S : Ss} (h : uK N S < uz (sets S.I) s) (hk : wX now S = none) : Ul N K s rank now exp S = (S, 4) := by
 unfold Ul;have e1 : uG N now s S.I.length S = (S, false) := by
  cases S.I.length with
  | zero => rw [uG, decide_eq_false (by omega)]
  | succ n => rw [uG, if_pos h, hk]
 rw [e1]
theorem dD {N : Nat} {K : Ky} {s : St} {rank now exp : Int} {S : Ss} (h : ¬ uK N S < uz (sets S.I) s) : Ul N K s rank now exp S = (⟨S.I ++ [⟨K, s, rank, now, exp, 0⟩], S.P ++ [K], S.Q, S.V⟩, 0) := by
 unfold Ul;have e1 : uG N now s S.I.length S = (S, true) := by
  cases S.I.length with
  | zero => rw [uG, decide_eq_true (by omega)]
  | succ n => rw [uG, if_neg h]
 rw [e1]
theorem Sr.kn {sb N : Nat} {S : Ss} {H : List Chunk} (h : Sr sb N S H) : (keys S.I).Nodup := by
 obtain ⟨W, D, L, ab, tb, mb, lb, db, ev, HA, HT, HM, HL, HD, HV, h, rfl⟩ := h;exact h.q.kn
abbrev dV (p6 : Nat) (s : St) (v : Value) : List Chunk := [(p6, .cells (bA s v) 46)]
abbrev fU (p : Nat) (k : Ky) : List Chunk := [(p, .cells (Wi k) 43)]
set_option maxRecDepth 10000 in
set_option maxHeartbeats 1000000 in
theorem qN {sb N : Nat} {S : Ss} {H : List Chunk} {S0 : zw} {s : St} {v : Value} (hS : Sr sb N S H) (hs : J6 s) (hv : Src S0 v s.rrs) (hV : S.V.length + S.I.length < 2 ^ 30) (rank now exp : Int) :
 Tri Tryz.prog 29 #[.pointer (some ⟨sb, 0, none⟩), .agg (bA s v), .int .i64 rank, .int .i64 now, .int .i64 exp] (H :: S0) (fun r S' => r = .int .i64 (uH N s rank now exp S).2 ∧ ∃ H', Sr sb N (uH N s rank now exp S).1 H' ∧ S' = H' :: S0) := by
 have hsn := hs.name;refine Tri.forget (zm Tryz.I6 (Nat.le_of_ble_eq_true rfl) ?_);unfold Tryz.x29;obtain ⟨va, vc, rfl⟩ := hv.isSlice;refine ze (z8 ?_);refine zh (Zq rfl fun p6 => ?_);refine yp pC (zf (za (ze (ze (z8 ?_)))));refine zh (Zx rfl rfl ?_);refine zh (zk (K6 hs hv) rfl rfl fun r S' h => ?_);obtain ⟨rfl, h⟩ := h;have h := h.symm;subst h;rcases Decidable.em (wC s ≠ 0) with hE | hE
 ·have hP : uH N s rank now exp S = (S, wC s) := by unfold uH; rw [if_pos hE]
  rw [hP];refine yp (pU rfl) (yp (pExt rfl rfl) (yp (pExt rfl rfl) (yp (pI rfl) (yp (pI rfl) (zf (za (ze (z8 (yp (pI rfl) (yp (Xk rfl rfl) (zf (za ?_))))))))))));rw [decide_eq_false hE];refine zH rfl (ze (z8 (yp (pI rfl) (yp (pI rfl) (zf (za (zJ (zU ?_))))))));exact zI (rI rfl) ⟨_, .of, rfl, _, hS, rfl⟩
 have hE := Decidable.not_not.1 hE;have hP0 : uH N s rank now exp S = if Kc rank now exp = false then (S, 1) else Jz N s rank now exp S := by unfold uH; rw [if_neg (by rw [hE]; decide)]
 rw [hE];refine yp (pU rfl) (yp (pExt rfl rfl) (yp (pExt rfl rfl) (yp (pI rfl) (yp (pI rfl) (zf (za (ze (z8 (yp (pI rfl) (yp (Xk rfl rfl) (zf (za (zA rfl (zu (za ?_)))))))))))))));refine Yj (fun E S' => Has E [(0, .pointer (some ⟨sb, 0, none⟩)), (2, .int .i64 rank), (3, .int .i64 now), (4, .int .i64 exp), (6, .pointer (some ⟨p6, 0, none⟩))] ∧ Kc rank now exp = true ∧ zB S' (dV p6 s (.slice va s.rrs.length vc) :: H :: S0)) ?_ fun E S' ⟨hE2, hok, hJ⟩ => ?_
 ·have hbad : Kc rank now exp = false → uH N s rank now exp S = (S, 1) := fun h => by rw [hP0, if_pos h]
  refine ze (z8 (yp (pI rfl) ?_));refine zh (zk (UG now 1099511627776) rfl rfl fun r S' h => ?_);obtain ⟨rfl, rfl⟩ := h;cases h1 : Ja now 1099511627776 with
  | false =>
   rw [hbad (by unfold Kc; rw [h1]; rfl)];refine yp (Zi rfl) (yp (pB rfl) (Z0 rfl (Z0 rfl (Z0 rfl (yp (zO rfl rfl) (yp (pB rfl) (Z0 rfl (Z0 rfl (Z0 rfl (yp (zO rfl rfl) (yp (pB rfl) (Z0 rfl (Z0 rfl (Z0 rfl (yp (zO rfl rfl) (zf (za (zH rfl (ze (z8 (yp pC (zf (za (zJ (zU ?_)))))))))))))))))))))))));exact zI (rI rfl) ⟨_, .of, rfl, _, hS, rfl⟩
  | true =>
   refine yp (Zi rfl) (yp (pB rfl) (Z7 rfl (Zc (pI rfl) (Z7 rfl ?_))));refine zk (UG exp 1099511627776) rfl rfl fun r S' h => ?_
   obtain ⟨rfl, rfl⟩ := h;cases h2 : Ja exp 1099511627776 with
   | false =>
    rw [hbad (by unfold Kc; rw [h1, h2]; rfl)];refine Z7 rfl (Zc (Zi rfl) (yp (zT rfl rfl) (yp (pB rfl) (Z0 rfl (Z0 rfl (Z0 rfl (yp (zO rfl rfl) (yp (pB rfl) (Z0 rfl (Z0 rfl (Z0 rfl (yp (zO rfl rfl) (zf (za (zH rfl (ze (z8 (yp pC (zf (za (zJ (zU ?_))))))))))))))))))))));exact zI (rI rfl) ⟨_, .of, rfl, _, hS, rfl⟩
   | true =>
    refine Z7 rfl (Zc (Zi rfl) (yp (zT rfl rfl) (yp (pB rfl) (Z7 rfl (Zc (pI rfl) (Z7 rfl (Zc (pI rfl) (Z7 rfl (Zc (Jc rfl rfl) (yp (zT rfl rfl) (yp (pB rfl) ?_)))))))))));by_cases h3 : exp ≤ now
    ·rw [hbad (by unfold Kc; rw [h1, h2, decide_eq_true h3]; rfl)];rw [decide_eq_true h3];refine Z0 rfl (Z0 rfl (Z0 rfl (yp (zO rfl rfl) (zf (za (zH rfl (ze (z8 (yp pC (zf (za (zJ (zU ?_)))))))))))));exact zI (rI rfl) ⟨_, .of, rfl, _, hS, rfl⟩
    ·rw [decide_eq_false h3];refine Z7 rfl (Zc (pI rfl) (Z7 rfl ?_));refine zk (UG rank 9) rfl rfl fun r S' h => ?_
     obtain ⟨rfl, rfl⟩ := h;cases h4 : Ja rank 9 with
     | false =>
      rw [hbad (by unfold Kc; rw [h4]; simp)];refine Z7 rfl (Zc (Zi rfl) (yp (zT rfl rfl) (zf (za (zH rfl (ze (z8 (yp pC (zf (za (zJ (zU ?_))))))))))));exact zI (rI rfl) ⟨_, .of, rfl, _, hS, rfl⟩
     | true =>
      refine Z7 rfl (Zc (Zi rfl) (yp (zT rfl rfl) (zf (za (zA rfl (zu (za ?_)))))));exact ⟨⟨rfl, rfl, rfl, rfl, rfl, trivial⟩, by unfold Kc; rw [h1, h2, decide_eq_false h3, h4]; rfl, .of⟩
 rw [hok, if_neg (by decide)] at hP0;obtain ⟨E0, e0⟩ := zx hE2; subst e0; clear hE2;refine zn hJ (ze (ze (z8 (yp (pP rfl) (yp (ZN rfl rfl) (zf (za (zA rfl (zu (za (ze (z8 (yp (zo rfl) ?_)))))))))))));refine zh (ZU (l := [sv s.name, .int .i64 s.typ]) rfl rfl rfl ?_);refine zh (zk (kR ⟨s.name, s.typ⟩ (by show s.name.length < _; omega)) rfl rfl fun r S' h => ?_);obtain ⟨rfl, rfl⟩ := h;show YL _ _ _ _ _ (Zd _ (.agg (Wi (Z8 s))) _) _;refine zh (Zf fun p13 => ?_);refine zh (vM rfl rfl rfl rfl rfl ?_);refine zf (za ?_);refine Yj (fun E S' => Has E [(0, .pointer (some ⟨sb, 0, none⟩)), (2, .int .i64 rank), (3, .int .i64 now), (4, .int .i64 exp), (6, .pointer (some ⟨p6, 0, none⟩)), (13, .pointer (some ⟨p13, 0, none⟩))] ∧ ∃ S1 H1, Sr sb N S1 H1 ∧ Wm S1.I (Z8 s) = none ∧ uH N s rank now exp S = Ul N (Z8 s) s rank now exp S1 ∧ S1.V.length + S1.I.length < 2 ^ 30 ∧ zB S' (fU p13 (Z8 s) :: dV p6 s (.slice va s.rrs.length vc) :: H1 :: S0)) ?_ fun E S' ⟨hE2, S1, H1, hS1, hb1, hP1, hV1, hJ⟩ => ?_
 ·have hS' := hS;obtain ⟨W, D, L, ab, tb, mb, lb, db, ev, HA, HT, HM, HL, HD, HV, h, rfl⟩ := hS;refine zn (S0 := fU p13 (Z8 s) :: dV p6 s (.slice va s.rrs.length vc) :: sH sb ab tb mb lb db ev HA HT HM HL HD HV W :: S0) zB.of (zn (zB.cons (zB.cons zB.LK)) (ze (zW (zi (pP rfl) (zi (zG rfl) (zi (zo rfl) (Z4 rfl rfl (WC rfl rfl ?_))))))));cases hb : Wm S.I (Z8 s) with
  | none =>
   refine zM (Vr h.m (by repeat (first | exact List.mem_cons_self | apply List.mem_cons_of_mem)) (Z8 s) UE ny oZ rfl rfl (EO (xX h.q hb)) ?_) zN;refine zi (pP rfl) (zL (za (ze (z8 (yp (pP rfl) (yp (K9 rfl rfl) (zf (za (zA rfl (zu (za ?_)))))))))));exact ⟨⟨rfl, rfl, rfl, rfl, rfl, rfl, trivial⟩, S, _, hS', hb, hP0.trans (xL hb), hV, zB.LP⟩
  | some i =>
   have hP1 := hP0.trans (YB hb);obtain ⟨e, hf, he, rfl, hek⟩ := Ut h.q hb;refine zM (Vr h.m (by repeat (first | exact List.mem_cons_self | apply List.mem_cons_of_mem)) (Z8 s) UE ny oZ rfl rfl (jN hf) ?_) zN;refine zi (pP rfl) (zL (za (ze (z8 (yp (pP rfl) (yp (K9 rfl rfl) (zf (za (zH rfl (ze (ze (z8 (yp (pP rfl) (yp (zG rfl) (yp (zo rfl) ?_)))))))))))))));refine zh (Uh (v := .int .i64 e.i.pins) (by repeat (first | exact List.mem_append.2 (.inl (X6 he)) | apply List.mem_cons_of_mem)) rfl rfl ?_);refine yp (VQ rfl rfl) (zf (za ?_));by_cases hp : 0 < e.i.pins
   ·rw [decide_eq_true hp];rw [if_pos hp] at hP1;rw [hP1];refine zH rfl (ze (z8 (yp pC (zf (za (zJ (zU (zU ?_))))))));exact zI (rI rfl) ⟨_, zB.LZ, rfl, _, hS', rfl⟩
   ·rw [decide_eq_false hp];rw [if_neg hp] at hP1;refine zA rfl (zu (za (z8 (yp (pP rfl) ?_))));refine zh (Zx rfl rfl ?_);refine zh (zk (Tri.op (Jq hS' hb)) rfl rfl fun r S' h => ?_);obtain ⟨rfl, H1, hS1, rfl⟩ := h;refine zf (za ?_);have hol := VF hS'.kn hb;exact ⟨⟨rfl, rfl, rfl, rfl, rfl, rfl, trivial⟩, _, H1, hS1, iD _ _, hP1, by show S.V.length + (WE S.I (Z8 s)).length < _; omega, .of⟩
 rw [hP1];clear hP1 hP0 hS hV;obtain ⟨E0, e0⟩ := zx hE2; subst e0; clear hE2;refine zn hJ ?_;generalize hR : Ul N (Z8 s) s rank now exp S1 = R;refine ze (zq ?_);refine Z5 (σ := Ss) (fun S2 E S' => Has E [(0, .pointer (some ⟨sb, 0, none⟩)), (2, .int .i64 rank), (3, .int .i64 now), (4, .int .i64 exp), (6, .pointer (some ⟨p6, 0, none⟩)), (13, .pointer (some ⟨p13, 0, none⟩))] ∧ Wm S2.I (Z8 s) = none ∧ Ul N (Z8 s) s rank now exp S2 = R ∧ S2.V.length + S2.I.length < 2 ^ 30 ∧ ∃ H2, Sr sb N S2 H2 ∧ zB S' (fU p13 (Z8 s) :: dV p6 s (.slice va s.rrs.length vc) :: H2 :: S0)) (fun S2 => S2.I.length) S1 ⟨⟨rfl, rfl, rfl, rfl, rfl, rfl, trivial⟩, hb1, hR, hV1, H1, hS1, .of⟩ fun S2 E S' ⟨hE2, hb2, hP2, hV2, H2, hS2, hJ⟩ => ?_
 clear hS1 hb1 hV1 hR;have hS2' := hS2;obtain ⟨W, D, L, ab, tb, mb, lb, db, ev, HA, HT, HM, HL, HD, HV, h, rfl⟩ := hS2;have hnb := h.nb;obtain ⟨E0, e0⟩ := zx hE2; subst e0; clear hE2;refine zn hJ (zn (zB.cons (zB.cons zB.LK)) (ze (ze (zW (zi (pP rfl) (zi (zG rfl) (zi (zo rfl) (Z4 rfl rfl (WC rfl rfl (zi (pP rfl) ?_))))))))));have hv' : Src (Es W ++ S0) (.slice va s.rrs.length vc) s.rrs := Src.mono hv fun _ hs => List.mem_append.2 (.inr hs)
 refine zM (zk (rX (S := Es W ++ S0) h.t hs hv') rfl rfl fun r S' h => ?_) zN;obtain ⟨rfl, rfl⟩ := h;refine zM (zk (lJ (sb := sb) (tb := tb) (mb := mb) (lb := lb) (db := db) (ev := ev) h.a) rfl rfl fun r S' h => ?_) zN;obtain ⟨rfl, rfl⟩ := h;rw [h.q.cost, h.q.left];refine zi (VQ rfl rfl) (zL (za ?_));by_cases hc : uK N S2 < uz (sets S2.I) s
 ·rw [decide_eq_true hc];refine zH rfl (zu (za (zq ?_)));refine zn (S0 := fU p13 (Z8 s) :: dV p6 s (.slice va s.rrs.length vc) :: sH sb ab tb mb lb db ev HA HT HM HL HD HV W :: S0) ?_ ?_
  ·exact zB.LP
  refine ze (z8 (yp (pP rfl) (yp (pI rfl) ?_)));refine zh (zk (rA hS2' now) rfl rfl fun r S' h => ?_);obtain ⟨rfl, rfl⟩ := h;cases hn : wX now S2 with
  | none =>
   rw [← hP2, rG hc hn];refine yp (pU rfl) (yp (pExt rfl rfl) (yp (pExt rfl rfl) ?_));refine zh (Zf fun p15 => ?_);refine zh (vM rfl rfl rfl rfl rfl ?_);refine yp (pB rfl) (zf (za (ze (ze (z8 (yp (pB rfl) (yp (Zi rfl) (zf (za (zH rfl (ze (z8 (yp pC (zf (za (zJ (zU (bret (zU (bret (zU ?_)))))))))))))))))))));exact zI (rI rfl) ⟨_, .of, rfl, _, hS2', rfl⟩
  | some k =>
   obtain ⟨i, hi, _⟩ := Qg hn;refine yp (pU rfl) (yp (pExt rfl rfl) (yp (pExt rfl rfl) ?_));refine zh (Zf fun p15 => ?_);refine zh (vM rfl rfl rfl rfl rfl ?_);refine yp (pB rfl) (zf (za (ze (ze (z8 (yp (pB rfl) (yp (Zi rfl) (zf (za (zA rfl (zu (za (z8 (yp (pP rfl) ?_))))))))))))));refine zh (Zx rfl rfl ?_);refine zh (zk (qO hS2' hi (by omega)) rfl rfl fun r S' h => ?_);obtain ⟨rfl, H3, hS3, rfl⟩ := h;refine zf (zR (za ?_));have hol := VF hS2'.kn hi;refine ⟨Yb k S2, ⟨⟨rfl, rfl, rfl, rfl, rfl, rfl, trivial⟩, Qz hb2, (je hS2'.kn hc hn hi).symm.trans hP2, ?_, H3, hS3, .of⟩, ?_⟩
   ·show (S2.V ++ [k]).length + (WE S2.I k).length < _;rw [List.length_append, List.length_singleton]; omega
   ·show (WE S2.I k).length < _;omega
 ·rw [decide_eq_false hc];have hR := dD (K := Z8 s) (rank := rank) (now := now) (exp := exp) hc;rw [← hP2, hR];have hus := h.q.us hnb.2.1 hnb.1;refine zA rfl (zX (zF (zF (zZ (za (ze (zW (zi (pP rfl) (zi (zG rfl) (zi (zo rfl) (Z4 rfl rfl (zi (pP rfl) (zi (zG rfl) (zi (zo rfl) (Z4 rfl rfl (WC rfl rfl ?_))))))))))))))));refine zM (zk (rT (S := Es W ++ S0) h.t h.a h.q.pk.inn h.q.pk.pos h.q.pk.hs hus hs hv') rfl rfl fun r S' hp => ?_) zN;have hfit : fits N D L s := by
   unfold fits;rw [h.q.cost];have := h.q.left (N := N);omega
  rcases hp with ⟨hp, _⟩ | ⟨_, hp, _⟩ | ⟨_, _, HT1, HA1, D1, rfl, hT1, hA1, hI1, hB1, _, rfl⟩
  ·exact absurd hE hp
  ·exact absurd hfit hp
  have hex := (jK hE hnb.2.1 ⟨by have := qP (VO hE).1; omega, (VO hE).2⟩ (yh (VO hE).1)).1 hfit;refine zi (pU rfl) (zi (pExt rfl rfl) (zi (pExt rfl rfl) (zi (pI rfl) (zi (pI rfl) (zL (za (ze (ze (z8 (yp (pI rfl) (yp (Xk rfl rfl) (zf (za (zA rfl (zu (za (ze (zW (zi (pP rfl) (zi (zG rfl) (zi (zo rfl) (Z4 rfl rfl (WC rfl rfl (zi (pI rfl) (zi (pI rfl) (zi (pI rfl) (zi (pI rfl) (zi (v := .agg #[.int .i64 ((hnd (wG N D L (Z6 s)).D : Nat) : Int), .int .i64 rank, .int .i64 now, .int .i64 exp, .int .i64 0]) rfl ?_))))))))))))))))))))))))))));refine Zk (Zq rfl fun p112 => ⟨(by first | exact fun _ h => List.mem_cons_of_mem _ h | simp), ?_⟩) zN;refine zM (nQ h.m (Z8 s) (⟨some p112⟩ : Ptr) UE ny rfl rfl rfl fun HM1 hM1 => ?_) zN;refine zL (za (ze (zW (zi (pP rfl) (zi (zG rfl) (zi (zo rfl) (Z4 rfl rfl (WC rfl rfl ?_))))))));refine zM (zk (CO h.l (by omega) (by omega) (Z8 s)) rfl rfl fun r S' h => ?_) zN;obtain ⟨rfl, HL1, hL1, rfl⟩ := h;refine zL (za (ze (zW (zi (pP rfl) (zi (zG rfl) (zi (zo rfl) (Z4 rfl rfl (WC rfl rfl (zi (pI rfl) ?_)))))))));refine zM (zk (CP h.d (by rw [List.length_map]; omega) (Z8 s) exp) rfl rfl fun r S' h => ?_) zN;obtain ⟨rfl, HD1, hD1, rfl⟩ := h;refine zL (za (ze (z8 (yp pC (zf (za (zJ ?_)))))));have hfn := xX h.q hb2;have hnk := Wz.1 hb2;have hnP : ¬ (Z8 s ∈ S2.P ∨ Z8 s ∈ S2.Q) := fun hm => hnk (h.q.pq.mem_iff.1 (List.mem_append.2 hm))
  rw [iT, if_neg hnP] at hL1;rw [JW hb2] at hD1;have hq := h.q.put hE hs hex.1 hI1 hB1 hb2 rank now exp p112;generalize hen : (⟨⟨Z8 s, s, rank, now, exp, 0⟩, ((hnd (wG N D L (Z6 s)).D : Nat) : Int), (wG N D L (Z6 s)).ids, p112⟩ : En) = en at hq;have hM2 : Mp mb (Xo (W ++ [en])) (W ++ [en]).length HM1 := by
   have e1 : Xo (W ++ [en]) = wK (Xo W) (Z8 s) (some (⟨some p112⟩ : Ptr)) := by rw [nI (by rw [← hen]; exact hfn), ← hen]
   have e2 : Xl (Xo W) (Z8 s) W.length = (W ++ [en]).length := by
    unfold Xl Xo;rw [hfn, List.length_append]; rfl
   rw [e1, ← e2]; exact hM1
  have hD2 : Du db ((S2.I ++ [(⟨Z8 s, s, rank, now, exp, 0⟩ : It)]).map It.de) HD1 := by rw [List.map_append]; exact hD1
  have hse : jM en = [(p112, .cells #[.int .i64 ((hnd (wG N D L (Z6 s)).D : Nat) : Int), .int .i64 rank, .int .i64 now, .int .i64 exp, .int .i64 0] 137)] := by rw [← hen]
  refine zI (rI rfl) ⟨_, ?_, rfl, _, Sr.mk ⟨hq, hA1, hT1, hM2, hL1, hD2, h.v⟩, rfl⟩;exact zB.add hse.symm
end Go.Proofs.YtejmbmenbailmaaGreat
namespace Go.Proofs.YtejmbmenbailmaaGreat
open Go.Xs
open Enc (enc)
def swp (f : Ss × Nat) (k : Ky) : Ss × Nat := if free f.1.I k = true then (Yb k f.1, f.2 + 1) else f
def UF (now : Int) (S : Ss) (n : Nat) : Ss × Nat := ((due now S.I).take n).foldl swp (S, 0)
def XU (now : Int) (S : Ss) : Ss × Nat := (due now S.I).foldl swp (S, 0)
theorem xY {now : Int} {I : List It} (h : (keys I).Nodup) : (due now I).Nodup := by
 unfold due upto;have h1 := ((yx (key := Ua) (I.map It.de)).map (·.k)).nodup_iff.2 (by rw [List.map_map]; exact h);exact (List.filter_sublist.map De.k).nodup h1
theorem Ku {now : Int} {I : List It} {k : Ky} (h : k ∈ due now I) : k ∈ keys I := by
 obtain ⟨e, he, rfl⟩ := List.mem_map.1 h;exact KU he
structure M0 (now : Int) (S : Ss) (n : Nat) (R : Ss × Nat) : Prop where
 kn : (keys R.1.I).Nodup
 mem : ∀ x ∈ (due now S.I).drop n, x ∈ keys R.1.I
 len : R.1.V.length + R.1.I.length = S.V.length + S.I.length
 cnt : R.2 ≤ n
theorem nD {S : Ss} {k : Ky} {i : It} (hn : (keys S.I).Nodup) (h : Wm S.I k = some i) : (Yb k S).V.length + (Yb k S).I.length = S.V.length + S.I.length := by
 have := VF hn h;show (S.V ++ [k]).length + (WE S.I k).length = _;rw [List.length_append, List.length_singleton]; omega
theorem Qs {I : List It} {k : Ky} (h : free I k = true) : ∃ i, Wm I k = some i ∧ i.pins = 0 := by
 unfold free at h;cases hb : Wm I k with
 | none => rw [hb] at h; cases h
 | some i => rw [hb] at h; exact ⟨i, rfl, of_decide_eq_true h⟩
theorem LC {now : Int} {S : Ss} (hn : (keys S.I).Nodup) : ∀ n, n ≤ (due now S.I).length → M0 now S n (UF now S n)
 | 0, _ => ⟨hn, fun x hx => Ku hx, rfl, Nat.le_refl 0⟩
 | n + 1, hl => by
  have ih := LC (now := now) hn n (by omega);have hl' : n < (due now S.I).length := by omega
  have e1 : UF now S (n + 1) = swp (UF now S n) (due now S.I)[n] := by
   unfold UF;rw [List.take_succ_eq_append_getElem hl', List.foldl_append]; rfl
  have hd : (due now S.I).drop n = (due now S.I)[n] :: (due now S.I).drop (n + 1) := List.drop_eq_getElem_cons hl';have hnd := (List.drop_sublist n _).nodup (xY (now := now) hn);rw [hd] at hnd;have hnd := (List.nodup_cons.1 hnd).1;have hm := ih.mem;rw [hd] at hm;rw [e1];generalize (due now S.I)[n] = k at *
  generalize UF now S n = R at *
  unfold swp;split
  ·next hf =>
   obtain ⟨i, hb, _⟩ := Qs hf;refine ⟨((vw R.1.I k).map _).nodup ih.kn, fun x hx => ?_, (nD ih.kn hb).trans ih.len, by show R.2 + 1 ≤ n + 1; have := ih.cnt; omega⟩;show x ∈ keys (WE R.1.I k);rw [U0, List.mem_filter];refine ⟨hm x (List.mem_cons_of_mem _ hx), ?_⟩;have : x ≠ k := fun e => hnd (e ▸ hx)
   simpa using this
  ·exact ⟨ih.kn, fun x hx => hm x (List.mem_cons_of_mem _ hx), ih.len, by have := ih.cnt; omega⟩
theorem cZ {now : Int} {S : Ss} {n : Nat} (h : n < (due now S.I).length) : UF now S (n + 1) = swp (UF now S n) (due now S.I)[n] := by
 unfold UF;rw [List.take_succ_eq_append_getElem h, List.foldl_append]; rfl
theorem Fb : isAgg? Tryz.prog 3 = some false := by kernel_rfl
theorem zB.op2 {x y : List Chunk} {sb ab tb mb lb db : Nat} {ev : Value} {HA HT HM HL HD HV : List Chunk} {W : List En} : zB [x, y, sH sb ab tb mb lb db ev HA HT HM HL HD HV W] (x :: y :: ZY sb ab tb mb lb db ev :: HA :: HT :: HM :: HL :: HD :: HV :: Es W) := ⟨[], by simp [sH]⟩
theorem zB.LM {x y : List Chunk} {S G : zw} {sb ab tb mb lb db : Nat} {ev : Value} {HA HT HM HL HD HV : List Chunk} {W : List En} [h : Sub S (x :: y :: ZY sb ab tb mb lb db ev :: HA :: HT :: HM :: HL :: HD :: HV :: Es W) G] : zB S [x, y, sH sb ab tb mb lb db ev HA HT HM HL HD HV W] := zB.trans (zB.of (h := h)) ⟨[], by simp [sH]⟩
abbrev lI (p2 p4 sb c : Nat) : zw := [[(p2, .cells #[.pointer (some ⟨sb, 0, none⟩)] 63)], [(p4, .cells #[.int .i64 (c : Int)] 3)]]
theorem qM {sb N : Nat} {S : Ss} {H : List Chunk} (hS : Sr sb N S H) (now : Int) (hV : S.V.length + S.I.length < 2 ^ 30) :
 Tri Tryz.prog 41 #[.pointer (some ⟨sb, 0, none⟩), .int .i64 now] [H] (fun r S' => r = .int .i64 ((XU now S).2 : Nat) ∧ ∃ H', Sr sb N (XU now S).1 H' ∧ S' = [H']) := by
 have hnb := hS.nb;have hS0 := hS;have hkn := hS.kn;obtain ⟨W, D, L, ab, tb, mb, lb, db, ev, HA, HT, HM, HL, HD, HV, h, rfl⟩ := hS;refine Tri.forget (Tri.iV (zm Tryz.Hl (Nat.le_of_ble_eq_true rfl) ?_));unfold Tryz.Lg;refine ze (z8 ?_);refine zh (iU (Jb rfl) fun p2 => ?_);refine zh (Zf fun p4 => ?_);refine zf (za (ze (ze (z8 ?_))));refine zh (zC rfl rfl ?_);refine yp (ZN rfl rfl) (zf (za (zA rfl (zu (za (ze (ze (z8 ?_))))))));refine zh (zC rfl rfl ?_);refine yp (zG rfl) (yp (zo rfl) ?_);refine zh (zC rfl rfl ?_);refine yp (pI rfl) ?_;refine zh (zk fP rfl rfl fun r S' h => ?_);obtain ⟨bd, ba, rfl, rfl⟩ := h;refine zf (za (zq ?_));have hdl : (S.I.map It.de).length < 2 ^ 38 := by rw [List.length_map]; omega
 have hdue : (due now S.I).length = (upto now (S.I.map It.de)).length := by unfold due; rw [List.length_map]
 refine XJ (fun pre T => pre.length ≤ (due now S.I).length ∧ ∃ H', Sr sb N (UF now S pre.length).1 H' ∧ zB T (lI p2 p4 sb (UF now S pre.length).2 ++ [H']))
  (fun e pre T => False)
  rfl rfl (jB (db := db) (bd := bd) (ba := ba) (S0 := lI p2 p4 sb 0 ++ (ZY sb ab tb mb lb db ev :: HA :: HT :: HM :: HL :: HV :: Es W)) h.d hdl now) ⟨Nat.zero_le _, _, hS0, (show (lI p2 p4 sb (UF now S ([] : List (Array Value)).length).2) = lI p2 p4 sb 0 from rfl) ▸ zB.LM⟩ ?_ ?_ ?_ ?_
 ·intro pre x hx;obtain ⟨_, rfl⟩ := pfx hx;rfl
 ·rintro l pre x T hx ⟨hle, H1, hS1, hJ⟩;obtain ⟨hl, rfl⟩ := pfx hx;have hl2 : pre.length < (due now S.I).length := by omega
  have hI := LC (now := now) hkn pre.length hle;have hst := cZ hl2;have hmem := hI.mem;rw [List.drop_eq_getElem_cons hl2] at hmem;have hk0 : (due now S.I)[pre.length] = (upto now (S.I.map It.de))[pre.length].k := by simp only [due, List.getElem_map]
  rw [hk0] at hst hmem;generalize (upto now (S.I.map It.de))[pre.length] = d at hst hmem;have hkm := hmem d.k (by simp);have hcnt := hI.cnt;have hlen := hI.len;have hpl : (pre ++ [bB d]).length = pre.length + 1 := by rw [List.length_append]; rfl
  generalize UF now S pre.length = R at hS1 hJ hst hkm hcnt hlen;have hle2 : (pre ++ [bB d]).length ≤ (due now S.I).length := by omega
  have hS1' := hS1;obtain ⟨W1, D1, L1, ab1, tb1, mb1, lb1, db1, ev1, HA1, HT1, HM1, HL1, HD1, HV1, h1, rfl⟩ := hS1;obtain ⟨e, hf, he, hb, hfr⟩ := Kq h1.q hkm;refine zn hJ (zn zB.op2 (z8 ?_));refine zh (Zf fun p5 => ?_);refine zh (vM rfl rfl rfl rfl rfl ?_);refine zf (za (zq (ze (zW (Z4 rfl rfl (zi (zG rfl) (zi (zo rfl) (Z4 rfl rfl (WC rfl rfl ?_)))))))));refine Zk (Vr h1.m (by repeat (first | exact List.mem_cons_self | apply List.mem_cons_of_mem)) d.k UE ny oZ rfl rfl (jN hf) ⟨fun _ h => h, ?_⟩) zN;refine zi (zG rfl) (zi (zo rfl) (l5 (v := .int .i64 e.i.pins) (by repeat (first | exact X6 he | apply List.mem_cons_of_mem)) rfl rfl (zi (vJ rfl rfl) (zL (za ?_)))));by_cases hp : e.i.pins = 0
  ·rw [decide_eq_true hp] at hfr ⊢;have e1 : swp R d.k = (Yb d.k R.1, R.2 + 1) := by unfold swp; rw [if_pos hfr]
   refine zH rfl (ze (z8 ?_));refine zh (zC rfl rfl ?_);refine zh (Zx rfl rfl ?_);refine zh (zk (Tri.op (qO hS1' hb (by omega))) rfl rfl fun r S' h => ?_);obtain ⟨rfl, H2, hS2, rfl⟩ := h;have hR2 : R.2 < 2 ^ 40 := by
    have : (due now S.I).length ≤ S.I.length := by
     have := (xY (now := now) hkn).length_le_of_subset (fun x hx => Ku hx : due now S.I ⊆ keys S.I);unfold keys at this;rw [List.length_map] at this;exact this
    omega
   refine zf (za (z8 ?_));refine zh (zC rfl rfl ?_);refine yp (Ze rfl rfl (by omega)) ?_;refine zh (ZJ rfl rfl (Uf rfl) ?_);refine zf (zR ?_);refine ⟨hle2, H2, ?_, ?_⟩
   ·rw [hpl, hst, e1]; exact hS2
   ·rw [hpl, hst, e1]; exact .of
  ·rw [decide_eq_false hp] at hfr ⊢;have e1 : swp R d.k = R := by unfold swp; rw [if_neg (by rw [hfr]; decide)]
   refine zA rfl (zu (zR ?_));refine ⟨hle2, sH sb ab1 tb1 mb1 lb1 db1 ev1 HA1 HT1 HM1 HL1 HD1 HV1 W1, ?_, ?_⟩
   ·rw [hpl, hst, e1]; exact hS1'
   ·rw [hpl, hst, e1]; exact zB.LM
 ·rintro xs S' hd ⟨hn, H1, hS1, hJ⟩;have hxl : xs.length = (due now S.I).length := by rw [hd, List.length_map, hdue]
  have e1 : UF now S xs.length = XU now S := by unfold UF XU; rw [hxl, List.take_length]
  rw [e1] at hS1 hJ;refine zR (za ?_);refine zn hJ (ze (z8 ?_));refine zh (zC rfl rfl ?_);refine zh (ZJ rfl rfl (Uf rfl) ?_);refine zf (za (zJ ?_));exact zI (jk (Fg (b := p4) Fb rfl)) ⟨[H1], .of, rfl, _, hS1, rfl⟩
 ·rintro e pre S' _ h;exact h.elim
end Go.Proofs.YtejmbmenbailmaaGreat
