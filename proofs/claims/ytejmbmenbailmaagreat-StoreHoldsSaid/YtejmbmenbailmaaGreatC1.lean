/- Stores (chapter 10), plainly: what is there, who goes next, what each act makes of it. Stores (chapter 10): their memory; New, Used, Left, Count, Evicted. Stores (chapter 10): find, item, gone, evict. Stores (chapter 10): gone, evict, Drop, pin, Peek, Get. Stores (chapter 10): Drop, Pin, Unpin, Peek, Get. Stores (chapter 10): Peek, Get. Stores (chapter 10): who goes next. Stores (chapter 10): Put. Stores (chapter 10): Sweep. -/
import Derived.Test.YtejmbmenbailmaaGreatP4
import Derived.Test.YtejmbmenbailmaaGreatL1
import Derived.Test.YtejmbmenbailmaaGreatI1
import Derived.Test.YtejmbmenbailmaaGreatFStore
namespace Go.Proofs.YtejmbmenbailmaaGreat
open Go.Xs
open Enc (enc)
structure Ptr where
 a : Option Nat
instance : Vv Ptr := ⟨fun p => .pointer (p.a.map fun b => ⟨b, 0, none⟩)⟩
/-- an item -/
structure It where
 k : Ky
 s : St
 rank : Int
 came : Int
 exp : Int
 pins : Int
/-- .. its handle, its names' handles, its place -/
structure En where
 i : It
 h : Int
 ids : List Int
 eb : Nat
def En.z (e : En) : LS := ⟨e.h, e.i.s, e.ids⟩
def It.de (i : It) : De := ⟨i.k, i.exp⟩
def fk (k : Ky) : Ky := ⟨zA k.n, k.t⟩
structure Ss where
 I : List It
 P : List Ky
 Q : List Ky
 V : List Ky
def keys (I : List It) : List Ky := I.map (·.k)
def sets (I : List It) : List St := I.map (·.s)
def wG (I : List It) (k : Ky) : Option It := I.find? fun i => decide (i.k = k)
def Wx (I : List It) (k : Ky) : List It := I.filter fun i => !decide (i.k = k)
def free (I : List It) (k : Ky) : Bool := match wG I k with | some i => decide (i.pins = 0) | none => false
def Xu (k : Ky) (S : Ss) : Ss := ⟨Wx S.I k, S.P.erase k, S.Q.erase k, S.V⟩
def Xb (k : Ky) (S : Ss) : Ss := ⟨Wx S.I k, S.P.erase k, S.Q.erase k, S.V ++ [k]⟩
def due (now : Int) (I : List It) : List Ky := (upto now (I.map It.de)).map (·.k)
def wN (now : Int) (S : Ss) : Option Ky := (due now S.I ++ (S.P ++ S.Q)).find? (free S.I)
def uV (N : Nat) (S : Ss) : Int := ((N - Vl (sets S.I) : Nat) : Int)
def uS (N : Nat) (now : Int) (s : St) : Nat → Ss → Ss × Bool
 | 0, S => (S, decide (uL (sets S.I) s ≤ uV N S))
 | f + 1, S => if uV N S < uL (sets S.I) s then (match wN now S with | none => (S, false) | some k => uS N now s f (Xb k S)) else (S, true)
def Uw (N : Nat) (k : Ky) (s : St) (rank now exp : Int) (S : Ss) : Ss × Int := match uS N now s S.I.length S with
 | (S', true) => (⟨S'.I ++ [⟨k, s, rank, now, exp, 0⟩], S'.P ++ [k], S'.Q, S'.V⟩, 0)
 | (S', false) => (S', 4)
def j5 (n most : Int) : Bool := decide (0 ≤ n) && decide (n ≤ most)
def Yu (rank now exp : Int) : Bool := j5 now 1099511627776 && j5 exp 1099511627776 && !decide (exp ≤ now) && j5 rank 9
def Z8 (s : St) : Ky := fk ⟨s.name, s.typ⟩
def JV (N : Nat) (s : St) (rank now exp : Int) (S : Ss) : Ss × Int := match wG S.I (Z8 s) with
 | some i => if 0 < i.pins then (S, 6) else Uw N (Z8 s) s rank now exp (Xu (Z8 s) S)
 | none => Uw N (Z8 s) s rank now exp S
theorem YP {N : Nat} {s : St} {rank now exp : Int} {S : Ss} {i : It} (h : wG S.I (Z8 s) = some i) : JV N s rank now exp S = if 0 < i.pins then (S, 6) else Uw N (Z8 s) s rank now exp (Xu (Z8 s) S) := by unfold JV; rw [h]
theorem Ua {N : Nat} {s : St} {rank now exp : Int} {S : Ss} (h : wG S.I (Z8 s) = none) : JV N s rank now exp S = Uw N (Z8 s) s rank now exp S := by unfold JV; rw [h]
def VO (N : Nat) (s : St) (rank now exp : Int) (S : Ss) : Ss × Int :=
 if wF s ≠ 0 then (S, wF s) else if Yu rank now exp = false then (S, 1) else JV N s rank now exp S
/-! ### who is there -/
def Ym (W : List En) (k : Ky) : Option En := W.find? fun e => decide (e.i.k = k)
def XB (W : List En) (k : Ky) : Option Ptr := (Ym W k).map fun e => ⟨some e.eb⟩
def xB (W : List En) (k : Ky) : List En := W.filter fun e => !decide (e.i.k = k)
theorem J6 {W : List En} {k : Ky} {e : En} (h : Ym W k = some e) : e ∈ W ∧ e.i.k = k := ⟨List.mem_of_find?_eq_some h, by simpa using List.find?_some h⟩
theorem aj (W : List En) (k : Ky) : wG (W.map (·.i)) k = (Ym W k).map (·.i) := by
 unfold wG Ym;rw [List.find?_map];rfl
theorem u7 {I : List It} {k : Ky} {i : It} (h : wG I k = some i) : i ∈ I ∧ i.k = k := ⟨List.mem_of_find?_eq_some h, by simpa using List.find?_some h⟩
theorem QZ {I : List It} (hn : (keys I).Nodup) {i : It} (hi : i ∈ I) : wG I i.k = some i := by
 induction I with
 | nil => simp at hi
 | cons j I ih =>
  have hn2 := List.nodup_cons.1 hn;unfold wG;rw [List.find?_cons];rcases List.mem_cons.1 hi with rfl | hi
  ·rw [decide_eq_true rfl]
  ·have : j.k ≠ i.k := fun e => hn2.1 (by rw [show (keys I) = I.map (·.k) from rfl] at *; exact List.mem_map.2 ⟨i, hi, e.symm⟩)
   rw [decide_eq_false this];exact ih hn2.2 hi
theorem ZJ {I : List It} {k : Ky} : wG I k = none ↔ k ∉ keys I := by
 unfold wG;rw [List.find?_eq_none];constructor
 ·intro h hk;obtain ⟨i, hi, rfl⟩ := List.mem_map.1 hk;have := h i hi;simp at this
 ·intro h i hi;have : i.k ≠ k := fun e => h (List.mem_map.2 ⟨i, hi, e⟩)
  simpa using this
theorem tO (W : List En) (k : Ky) : (xB W k).map (·.i) = Wx (W.map (·.i)) k := by
 unfold xB Wx;rw [List.filter_map];rfl
theorem Vf (I : List It) (k : Ky) : keys (Wx I k) = (keys I).filter fun x => !decide (x = k) := by
 unfold Wx keys;rw [List.filter_map];rfl
theorem iR {W : List En} {k x : Ky} (h : x ≠ k) : Ym (xB W k) x = Ym W x := by
 unfold Ym xB
 induction W with
 | nil => rfl
 | cons e W ih =>
  rw [List.filter_cons, List.find?_cons];by_cases hk : e.i.k = k
  ·rw [if_neg (by simp [hk]), ih, decide_eq_false (show ¬ e.i.k = x from fun q => h (q.symm.trans hk))]
  ·rw [if_pos (by simp [hk]), List.find?_cons, ih]
theorem bE (W : List En) (k : Ky) : Ym (xB W k) k = none := by
 unfold Ym;rw [List.find?_eq_none];intro e he;have := (List.mem_filter.1 he).2;simpa using this
theorem oq (W : List En) (k : Ky) : XB (xB W k) = wP (XB W) k none := by
 funext x;unfold XB wP;split
 ·next e => rw [e, bE]; rfl
 ·next e => rw [iR e]
theorem oz {W : List En} {e : En} (h : Ym W e.i.k = none) : XB (W ++ [e]) = wP (XB W) e.i.k (some ⟨some e.eb⟩) := by
 funext x;unfold XB wP Ym;rw [List.find?_append, List.find?_singleton];by_cases q : x = e.i.k
 ·subst q;have h2 : W.find? (fun y => decide (y.i.k = e.i.k)) = none := h;rw [if_pos rfl, if_pos (decide_eq_true rfl), h2];rfl
 ·rw [if_neg q, if_neg (by simpa using fun r => q r.symm), Option.or_none]
theorem fZ {W : List En} {k : Ky} (h : ∀ e ∈ W, e.i.k ≠ k) : xB W k = W := List.filter_eq_self.2 fun e he => by simpa using h e he
/-- one of them, and the others -/
theorem WU : ∀ {W : List En} {e : En}, (keys (W.map (·.i))).Nodup → e ∈ W → ∃ A B, W = A ++ e :: B ∧ xB W e.i.k = A ++ B
 | y :: W, e, hn, he => by
  have hn2 := List.nodup_cons.1 hn;rcases List.mem_cons.1 he with rfl | he
  ·refine ⟨[], W, rfl, ?_⟩;unfold xB;rw [List.filter_cons, if_neg (by simp)];exact fZ fun x hx q => hn2.1 (List.mem_map.2 ⟨x.i, List.mem_map.2 ⟨x, hx, rfl⟩, q⟩)
  ·obtain ⟨A, B, h1, h2⟩ := WU hn2.2 he;refine ⟨y :: A, B, by rw [h1]; rfl, ?_⟩;have : y.i.k ≠ e.i.k := fun q => hn2.1 (List.mem_map.2 ⟨e.i, List.mem_map.2 ⟨e, he, rfl⟩, q.symm⟩)
   unfold xB at h2 ⊢;rw [List.filter_cons, if_pos (by simpa using this), h2]; rfl
theorem kG : ∀ {I : List It} {k : Ky}, (keys I).Nodup → Vu k (I.map It.de) = (Wx I k).map It.de
 | [], _, _ => rfl
 | i :: I, k, hn => by
  have hn2 := List.nodup_cons.1 hn;have ih := kG (k := k) hn2.2;unfold Vu at ih ⊢;unfold Wx at ih ⊢;rw [List.map_cons, idx];by_cases hk : i.k = k
  ·rw [if_pos (show i.de.k = k from hk), List.filter_cons, if_neg (by simp [hk])];have : I.filter (fun i => !decide (i.k = k)) = I := List.filter_eq_self.2 fun j hj => by
    have : j.k ≠ k := fun e => hn2.1 (List.mem_map.2 ⟨j, hj, e.trans hk.symm⟩)
    simpa using this
   rw [this]; rfl
  ·rw [if_neg (show ¬ i.de.k = k from hk), List.filter_cons, if_pos (by simp [hk])];cases hx : idx k (I.map It.de) with
   | none => rw [hx] at ih; simp only [Option.map_none, List.map_cons]; rw [← ih]
   | some j => rw [hx] at ih; simp only [Option.map_some, List.map_cons, List.eraseIdx_cons_succ]; rw [← ih]
theorem qz {I : List It} {k : Ky} (h : wG I k = none) : Vu k (I.map It.de) = I.map It.de := by
 have : ∀ J : List It, k ∉ keys J → idx k (J.map It.de) = none := fun J => by
  induction J with
  | nil => intro _; rfl
  | cons i J ih =>
   intro hk;have h1 : i.de.k ≠ k := fun e => hk (List.mem_map.2 ⟨i, by simp, e⟩)
   rw [List.map_cons, idx, if_neg h1, ih fun hj => hk (List.mem_cons_of_mem _ hj)]; rfl
 unfold Vu;rw [this I (ZJ.1 h)]
theorem qx {P Q : List Ky} {I : List It} {k : Ky} (hn : (keys I).Nodup) (h : (P ++ Q).Perm (keys I)) : (P.erase k ++ Q.erase k).Perm (keys (Wx I k)) := by
 have hp := h.nodup_iff.2 hn;obtain ⟨h1, h2, _⟩ := List.nodup_append.1 hp;rw [Vf, h1.erase_eq_filter, h2.erase_eq_filter, ← List.filter_append];have := h.filter fun x => !decide (x = k)
 refine .trans (.of_eq ?_) this;congr 1
theorem jq {m : Int} {P Q : List Ky} {k : Ky} (hn : (P ++ Q).Nodup) (hk : k ∈ P ∨ k ∈ Q) : (Uh m k P Q ++ Ug m k P Q).Perm (P ++ Q) := by
 have h0 : (P.erase k ++ (Q.erase k ++ [k])).Perm (P ++ Q) := by
  obtain ⟨h1, h2, h3⟩ := List.nodup_append.1 hn;rcases hk with hk | hk
  ·have hq : k ∉ Q := fun q => h3 k hk k q rfl
   rw [List.erase_of_not_mem hq];refine .trans ?_ ((List.perm_cons_erase hk).symm.append_right Q);rw [← List.append_assoc];exact List.perm_append_singleton _ _
  ·have hp : k ∉ P := fun p => h3 k p k hk rfl
   rw [List.erase_of_not_mem hp];refine .append_left P (.trans ?_ (List.perm_cons_erase hk).symm);exact List.perm_append_singleton _ _
 unfold Uh Ug;rw [if_pos hk, if_pos hk];split
 ·next hm =>
  refine .trans ?_ h0;rw [List.append_assoc];refine .append_left _ ?_;cases hQ : Q.erase k ++ [k] with
  | nil => simp at hQ
  | cons x l => simp
 ·exact h0
/-! ### what is there, by the arena's blocks -/
theorem Pk.Md {D : List (Option Bt)} {L : List Nm} {Z Z' : List LS} (h : Pk D L Z) (p : Z.Perm Z') : Pk D L Z' := by
 have pB : (Yh Z).Perm (Yh Z') := p.map _;refine ⟨⟨h.inn.dis, h.inn.blk, fun x hx => h.inn.oth x (pB.mem_iff.2 hx), fun i b hb => (h.inn.all i b hb).imp id fun ⟨x, hx, h2⟩ => ⟨x, pB.mem_iff.1 hx, h2⟩, h.inn.us, h.inn.fold⟩, ⟨h.liv.dis, fun e he => ?_, h.liv.pos, fun i hi => h.liv.ids i ?_⟩, ?_, fun z hz => h.ok z (p.mem_iff.2 hz)⟩
 ·rw [h.liv.us e he];exact ((p.map _).flatten).count_eq _
 ·exact ((p.map _).flatten).mem_iff.2 hi
 ·exact (pB.map _).nodup_iff.1 h.hs
structure Sq (S : Ss) (W : List En) (D : List (Option Bt)) (L : List Nm) : Prop where
 its : W.map (·.i) = S.I
 pk : Pk D L (W.map En.z)
 kn : (keys S.I).Nodup
 kz : ∀ i ∈ S.I, i.k = Z8 i.s
 pq : (S.P ++ S.Q).Perm (keys S.I)
 pn : ∀ i ∈ S.I, 0 ≤ i.pins ∧ i.pins ≤ 1000
theorem Sq.sets {S : Ss} {W : List En} {D : List (Option Bt)} {L : List Nm} (h : Sq S W D L) : (W.map En.z).map (·.s) = sets S.I := by
 unfold Go.Proofs.YtejmbmenbailmaaGreat.sets;rw [← h.its, List.map_map, List.map_map];rfl
theorem Sq.used {S : Ss} {W : List En} {D : List (Option Bt)} {L : List Nm} (h : Sq S W D L) : Zd D = Vl (Go.Proofs.YtejmbmenbailmaaGreat.sets S.I) := by rw [h.pk.use, h.sets]
theorem Sq.left {N : Nat} {S : Ss} {W : List En} {D : List (Option Bt)} {L : List Nm} (h : Sq S W D L) : ((N - Zd D : Nat) : Int) = uV N S := by rw [h.used]; rfl
theorem Sq.cost {S : Ss} {W : List En} {D : List (Option Bt)} {L : List Nm} (h : Sq S W D L) (s : St) : uX L s = uL (Go.Proofs.YtejmbmenbailmaaGreat.sets S.I) s := by rw [h.pk.cst, h.sets]
theorem Sq.few {N : Nat} {S : Ss} {W : List En} {D : List (Option Bt)} {L : List Nm} (h : Sq S W D L) (hN : Zd D ≤ N) : 16 * W.length ≤ N := by
 have h1 := h.pk.inn.used h.pk.hs;have h2 : ∀ B : List (Int × Bs), 16 * B.length ≤ (B.map fun x => Z0 x.2.length).sum := fun B => by
  induction B with
  | nil => exact Nat.le_refl _
  | cons x B ih =>
   have := Y4 x.2.length;rw [List.map_cons, List.sum_cons, List.length_cons]; omega
 have h3 := h2 (Yh (W.map En.z));have h4 : (Yh (W.map En.z)).length = W.length := by unfold Yh; simp
 omega
theorem AB {L : List Nm} {Z : List LS} (h : ∀ z ∈ Z, wF z.s = 0 ∧ Jr z.s ∧ Al L z.ids ((Z7 z.s).map zA)) : (j6 Z).length ≤ 66 * Z.length := by
 induction Z with
 | nil => exact Nat.le_refl _
 | cons z Z ih =>
  have h1 := ih fun y hy => h y (List.mem_cons_of_mem _ hy)
  obtain ⟨h2, _, h3⟩ := h z (by simp);have h4 := h3.len;have h5 := VQ z.s;have h6 := (VU (VZ h2).1).2.2.2.2.2.2.1;rw [List.length_map] at h4;unfold j6 at h1 ⊢;rw [List.map_cons, List.flatten_cons, List.length_append, List.length_cons];omega
theorem Sq.us {N : Nat} {S : Ss} {W : List En} {D : List (Option Bt)} {L : List Nm} (h : Sq S W D L) (hN : Zd D ≤ N) (hb : N ≤ 1048576) : ∀ e ∈ L, e.u < 2 ^ 50 := fun e he => by
 have h1 := h.few hN;have h2 := AB (L := L) h.pk.ok;rw [List.length_map] at h2;have := h.pk.us h2 e he;omega
theorem Sq.len {S : Ss} {W : List En} {D : List (Option Bt)} {L : List Nm} (h : Sq S W D L) : W.length = S.I.length ∧ S.P.length + S.Q.length = S.I.length := by
 refine ⟨by rw [← h.its, List.length_map], ?_⟩;have := h.pq.length_eq;rw [List.length_append] at this;unfold keys at this;rw [List.length_map] at this;exact this
theorem Sq.Af {S : Ss} {W : List En} {D : List (Option Bt)} {L : List Nm} (h : Sq S W D L) : (keys (W.map (·.i))).Nodup := by rw [h.its]; exact h.kn
theorem Sq.FL {S : Ss} {W : List En} {D : List (Option Bt)} {L : List Nm} (h : Sq S W D L) {e : En} (he : e ∈ W) : uq (W.map En.z) e.h = (xB W e.i.k).map En.z := by
 obtain ⟨A, B, h1, h2⟩ := WU h.Af he;rw [h2, h1];have hh := h.pk.hs;unfold Hs Yh at hh;rw [h1, List.map_map, List.map_map, List.map_append, List.map_cons] at hh;obtain ⟨_, h4, h5⟩ := List.nodup_append.1 hh;have h6 := (List.nodup_cons.1 h4).1;unfold uq;rw [List.map_append, List.filter_append, List.map_cons, List.filter_cons, if_neg (by show ¬ ((En.z e).h != e.h) = true; simp [En.z]), List.map_append];congr 1
 ·refine List.filter_eq_self.2 fun z hz => ?_
  obtain ⟨y, hy, rfl⟩ := List.mem_map.1 hz;have : y.h ≠ e.h := h5 y.h (List.mem_map.2 ⟨y, hy, rfl⟩) e.h (by show e.h ∈ e.h :: _; exact List.mem_cons_self);simpa [En.z] using this
 ·refine List.filter_eq_self.2 fun z hz => ?_
  obtain ⟨y, hy, rfl⟩ := List.mem_map.1 hz;have : y.h ≠ e.h := fun q => h6 (List.mem_map.2 ⟨y, hy, q⟩)
  simpa [En.z] using this
theorem WC (I : List It) (k : Ky) : (Wx I k).Sublist I := List.filter_sublist
theorem Sq.gone {S : Ss} {W : List En} {D D' : List (Option Bt)} {L : List Nm} (h : Sq S W D L) {e : En} (he : e ∈ W) (hI : WZ D' (drops L e.ids) (jS (Yh (W.map En.z)) e.h)) : Sq (Xu e.i.k S) (xB W e.i.k) D' (drops L e.ids) := by
 have hz : e.z ∈ W.map En.z := List.mem_map.2 ⟨e, he, rfl⟩;have h1 := h.pk.drop hz hI;have h2 : uq (W.map En.z) e.z.h = _ := h.FL he;rw [h2] at h1;refine ⟨?_, h1, ?_, fun i hi => h.kz i ((WC _ _).subset hi), qx h.kn h.pq, fun i hi => h.pn i ((WC _ _).subset hi)⟩
 ·rw [tO, h.its]; rfl
 ·exact ((WC S.I e.i.k).map _).nodup h.kn
theorem Sq.ev {S : Ss} {W : List En} {D : List (Option Bt)} {L : List Nm} {V : List Ky} (h : Sq S W D L) : Sq ⟨S.I, S.P, S.Q, V⟩ W D L := ⟨h.its, h.pk, h.kn, h.kz, h.pq, h.pn⟩
theorem Sq.touch {S : Ss} {W : List En} {D : List (Option Bt)} {L : List Nm} {m : Int} {k : Ky} (h : Sq S W D L) (hk : k ∈ keys S.I) : Sq ⟨S.I, Uh m k S.P S.Q, Ug m k S.P S.Q, S.V⟩ W D L :=
 ⟨h.its, h.pk, h.kn, h.kz, .trans (jq (h.pq.nodup_iff.2 h.kn) (List.mem_append.1 (h.pq.mem_iff.2 hk))) h.pq, h.pn⟩
theorem Sq.nil : Sq ⟨[], [], [], []⟩ [] [] [] := ⟨rfl, Pk.nil, List.nodup_nil, fun i hi => by simp at hi, .nil, fun i hi => by simp at hi⟩
theorem Sq.put {N : Nat} {S : Ss} {W : List En} {D D' : List (Option Bt)} {L : List Nm} (h : Sq S W D L) {s : St} (hE : wF s = 0) (hs : Jr s) (he : (wK N D L (Z7 s)).e = 0)
 (hI : WZ D' (wK N D L (Z7 s)).L ((((hnd (wK N D L (Z7 s)).D : Nat) : Int), Wj s (wK N D L (Z7 s)).ids) :: Yh (W.map En.z))) (hh : Hs ((((hnd (wK N D L (Z7 s)).D : Nat) : Int), Wj s (wK N D L (Z7 s)).ids) :: Yh (W.map En.z)))
 (hk : wG S.I (Z8 s) = none) (rank came exp : Int) (eb : Nat) :
 Sq ⟨S.I ++ [⟨Z8 s, s, rank, came, exp, 0⟩], S.P ++ [Z8 s], S.Q, S.V⟩ (W ++ [⟨⟨Z8 s, s, rank, came, exp, 0⟩, ((hnd (wK N D L (Z7 s)).D : Nat) : Int), (wK N D L (Z7 s)).ids, eb⟩]) D' (wK N D L (Z7 s)).L := by
 have h1 := h.pk.put hE hs he hI hh;refine ⟨by rw [List.map_append, h.its]; rfl, ?_, ?_, ?_, ?_, ?_⟩
 ·rw [List.map_append];exact h1.Md (List.perm_append_singleton _ _).symm
 ·unfold keys;rw [List.map_append];refine List.nodup_append.2 ⟨h.kn, by simp, fun a ha b hb q => ?_⟩;simp at hb;exact ZJ.1 hk (by rw [← hb, ← q]; exact ha)
 ·intro i hi;rcases List.mem_append.1 hi with hi | hi
  ·exact h.kz i hi
  ·rw [List.mem_singleton.1 hi]
 ·unfold keys;rw [List.map_append];have : ((S.P ++ [Z8 s]) ++ S.Q).Perm ((S.P ++ S.Q) ++ [Z8 s]) := by
   rw [List.append_assoc, List.append_assoc];exact .append_left _ List.perm_append_comm
  exact this.trans (h.pq.append_right _)
 ·intro i hi;rcases List.mem_append.1 hi with hi | hi
  ·exact h.pn i hi
  ·rw [List.mem_singleton.1 hi];exact ⟨Int.le_refl 0, by show (0 : Int) ≤ 1000; omega⟩
end Go.Proofs.YtejmbmenbailmaaGreat
namespace Go.Proofs.YtejmbmenbailmaaGreat
open Go.Xs
open Enc (enc)
theorem UR : Tryz.prog.underlying 127 = some (.map 43 135) := by kernel_rfl
theorem o7 : Key.ok Ky Tryz.prog 43 := show r9 Tryz.prog 43 = true by kernel_rfl
theorem rJ : (Tryz.prog.info? 135).bind (·.zero) = some (.pointer none) := by kernel_rfl
theorem oF : isAgg? Tryz.prog 43 = some true := by kernel_rfl
abbrev Mi (e : En) : Array Value := #[.int .i64 e.h, .int .i64 e.i.rank, .int .i64 e.i.came, .int .i64 e.i.exp, .int .i64 e.i.pins]
abbrev J9 (e : En) : List Chunk := [(e.eb, .cells (Mi e) 137)]
def Es (W : List En) : zx := W.map J9
theorem qQ (A B : List En) : Es (A ++ B) = Es A ++ Es B := List.map_append
theorem Xi {W : List En} {e : En} (h : e ∈ W) : J9 e ∈ Es W := List.mem_map.2 ⟨e, h, rfl⟩
abbrev wm (sb ab tb mb lb db : Nat) (ev : Value) : List Chunk := [(sb, .cells #[.pointer (some ⟨ab, 0, none⟩), .pointer (some ⟨tb, 0, none⟩), .map (some mb), .pointer (some ⟨lb, 0, none⟩), .pointer (some ⟨db, 0, none⟩), ev] 133)]
def sH (sb ab tb mb lb db : Nat) (ev : Value) (HA HT HM HL HD HV : List Chunk) (W : List En) : List Chunk := wm sb ab tb mb lb db ev ++ (HA ++ (HT ++ (HM ++ (HL ++ (HD ++ (HV ++ (Es W).flatten))))))
structure Sp (N : Nat) (S : Ss) (W : List En) (D : List (Option Bt)) (L : List Nm) (ab tb mb lb db : Nat) (ev : Value) (HA HT HM HL HD HV : List Chunk) : Prop where
 q : Sq S W D L
 a : Ar ab N D HA
 t : Tb tb ab L HT
 m : Mp mb (XB W) W.length HM
 l : Lr lb ((N / 512 : Nat) : Int) S.P S.Q HL
 d : Du db (S.I.map It.de) HD
 v : Zb 43 ev S.V HV
/-- a store of N bytes, as one piece of memory -/
def Sr (sb N : Nat) (S : Ss) (H : List Chunk) : Prop := ∃ (W : List En) (D : List (Option Bt)) (L : List Nm) (ab tb mb lb db : Nat) (ev : Value) (HA HT HM HL HD HV : List Chunk), Sp N S W D L ab tb mb lb db ev HA HT HM HL HD HV ∧ H = sH sb ab tb mb lb db ev HA HT HM HL HD HV W
theorem Sr.mk {sb N : Nat} {S : Ss} {W : List En} {D : List (Option Bt)} {L : List Nm} {ab tb mb lb db : Nat} {ev : Value} {HA HT HM HL HD HV : List Chunk} (h : Sp N S W D L ab tb mb lb db ev HA HT HM HL HD HV) : Sr sb N S (sH sb ab tb mb lb db ev HA HT HM HL HD HV W) := ⟨W, D, L, ab, tb, mb, lb, db, ev, HA, HT, HM, HL, HD, HV, h, rfl⟩
theorem Sp.nb {N : Nat} {S : Ss} {W : List En} {D : List (Option Bt)} {L : List Nm} {ab tb mb lb db : Nat} {ev : Value} {HA HT HM HL HD HV : List Chunk} (h : Sp N S W D L ab tb mb lb db ev HA HT HM HL HD HV) : N ≤ 1048576 ∧ Zd D ≤ N ∧ 16 * S.I.length ≤ N ∧ W.length = S.I.length ∧ S.P.length + S.Q.length = S.I.length := by
 obtain ⟨h1, h2, h3, _⟩ := h.a.kY;obtain ⟨h4, h5⟩ := h.q.len;exact ⟨h3, h1, by have := h.q.few h1; omega, h4, h5⟩
theorem Sr.nb {sb N : Nat} {S : Ss} {H : List Chunk} (h : Sr sb N S H) : N ≤ 1048576 ∧ 16 * S.I.length ≤ N ∧ S.P.length + S.Q.length = S.I.length ∧ Vl (sets S.I) ≤ N := by
 obtain ⟨W, D, L, ab, tb, mb, lb, db, ev, HA, HT, HM, HL, HD, HV, h, rfl⟩ := h;obtain ⟨h1, h2, h3, h4, h5⟩ := h.nb;exact ⟨h1, h3, h5, by rw [← h.q.used]; exact h2⟩
/-- opened, and closed again -/
theorem Tri.sp {P : Program} {f : FuncId} {args : Array Value} {R : Value → zx → Prop} {S0 : zx} {sb ab tb mb lb db : Nat} {ev : Value} {HA HT HM HL HD HV : List Chunk} {W : List En} (h : Tri P f args (wm sb ab tb mb lb db ev :: HA :: HT :: HM :: HL :: HD :: HV :: (Es W ++ S0)) R) : Tri P f args (sH sb ab tb mb lb db ev HA HT HM HL HD HV W :: S0) R := h.perm (by simp [sH])
theorem Tri.lW {P : Program} {f : FuncId} {args : Array Value} {R : Value → zx → Prop} {sb ab tb mb lb db : Nat} {ev : Value} {HA HT HM HL HD HV : List Chunk} {W : List En} (h : Tri P f args (wm sb ab tb mb lb db ev :: HA :: HT :: HM :: HL :: HD :: HV :: Es W) R) : Tri P f args [sH sb ab tb mb lb db ev HA HT HM HL HD HV W] R := h.perm (by simp [sH])
theorem zB.sp {S G : zx} {sb ab tb mb lb db : Nat} {ev : Value} {HA HT HM HL HD HV : List Chunk} {W : List En} [h : Sub S (wm sb ab tb mb lb db ev :: HA :: HT :: HM :: HL :: HD :: HV :: Es W) G] : zB S [sH sb ab tb mb lb db ev HA HT HM HL HD HV W] := zB.trans (zB.of (h := h)) ⟨[], by simp [sH]⟩
theorem zB.M5 {x : List Chunk} {S G : zx} {sb ab tb mb lb db : Nat} {ev : Value} {HA HT HM HL HD HV : List Chunk} {W : List En} [h : Sub S (x :: wm sb ab tb mb lb db ev :: HA :: HT :: HM :: HL :: HD :: HV :: Es W) G] : zB S [x, sH sb ab tb mb lb db ev HA HT HM HL HD HV W] := zB.trans (zB.of (h := h)) ⟨[], by simp [sH]⟩
theorem zB.op {S S1 G : zx} {sb ab tb mb lb db : Nat} {ev : Value} {HA HT HM HL HD HV : List Chunk} {W : List En} [h : Sub S (sH sb ab tb mb lb db ev HA HT HM HL HD HV W :: S1) G] : zB S (wm sb ab tb mb lb db ev :: HA :: HT :: HM :: HL :: HD :: HV :: (Es W ++ S1)) := zB.trans (zB.of (h := h)) ⟨[], by simp [sH]⟩
theorem Ja {W : List En} {k : Ky} {e : En} (h : Ym W k = some e) : ((XB W k).map Vv.vv).getD (.pointer none) = .pointer (some ⟨e.eb, 0, none⟩) := by unfold XB; rw [h]; rfl
theorem Fh {W : List En} {k : Ky} (h : Ym W k = none) : ((XB W k).map Vv.vv).getD (.pointer none) = .pointer none := by unfold XB; rw [h]; rfl
set_option maxRecDepth 10000 in
theorem dX {n : Nat} (hn : 2048 ≤ n ∧ n ≤ 1048576) {z : Int} (hz : z = n) : Tri Tryz.prog 28 #[.int .i64 z] [] (fun r S => ∃ sb H, r = .tuple #[.pointer (some ⟨sb, 0, none⟩), .int .i64 0] ∧ Sr sb n ⟨[], [], [], []⟩ H ∧ S = [H]) := by
 subst hz;refine Tri.forget (zq Tryz.Dt (Nat.le_of_ble_eq_true rfl) ?_);unfold Tryz.x28;refine ze (z8 (yp pC (yp pC (zf (za (ze (ze (z8 (yp (pI rfl) (yp (ZK rfl rfl) (yp (pB rfl) ?_)))))))))));rw [decide_eq_false (show ¬ (n : Int) < 2048 from by omega)];refine Z4 rfl (Z9 (pI rfl) (Z4 rfl (Z9 (VE rfl rfl) (yp (zQ rfl rfl) (zf (za ?_))))));rw [decide_eq_false (show ¬ (1048576 : Int) < (n : Int) from by omega)];refine zy rfl (zn (za (ze (z8 (yp (pI rfl) ?_)))));refine zh (zk (Ay (n := n) (by omega) rfl) rfl rfl fun r S' h => ?_);obtain ⟨ab, HA, rfl, hA, rfl⟩ := h;refine yp (pU rfl) (yp (pExt rfl rfl) (yp (pExt rfl rfl) (yp (pP rfl) (yp (pI rfl) (zf (za (ze (z8 (yp (pP rfl) (yp (pP rfl) ?_))))))))));refine zh (zk (Ch (ab := ab)) rfl rfl fun r S' h => ?_);obtain ⟨tb, HT, rfl, hT, rfl⟩ := h;refine zh (kT Ky Ptr fun mb HM hM => ?_);refine yp (pI rfl) (yp (fT rfl rfl (by decide) (by omega)) ?_);rw [show (n : Int).tdiv 512 = ((n / 512 : Nat) : Int) from rfl];refine zh (zk (D8 ((n / 512 : Nat) : Int)) rfl rfl fun r S' h => ?_);obtain ⟨lb, HL, rfl, hL, rfl⟩ := h;refine zh (zk Db rfl rfl fun r S' h => ?_);obtain ⟨db, HD, rfl, hD, rfl⟩ := h;rw [show max ((n / 512 : Nat) : Int) 0 = ((n / 512 : Nat) : Int) from by omega] at hL;refine yp (v := .agg #[.pointer (some ⟨ab, 0, none⟩), .pointer (some ⟨tb, 0, none⟩), .map (some mb), .pointer (some ⟨lb, 0, none⟩), .pointer (some ⟨db, 0, none⟩), .slice none 0 0]) rfl ?_;refine zh (Zq rfl fun p26 => ?_);refine yp (pP rfl) (yp pC (zf (za (zI ?_))));exact zH (FI rfl rfl) ⟨_, zB.re (S1 := [wm p26 ab tb mb lb db (.slice none 0 0), HA, HT, HM, HL, HD]) (S2 := [sH p26 ab tb mb lb db (.slice none 0 0) HA HT HM HL HD [] []]) (by simp [sH, Es]), p26, _, rfl, Sr.mk ⟨Sq.nil, hA, hT, hM, hL, hD, .nil⟩, rfl⟩
set_option maxRecDepth 10000 in
theorem sG {n : Int} (hn : n < 2048 ∨ 1048576 < n) : Tri Tryz.prog 28 #[.int .i64 n] [] (fun r S => r = .tuple #[.pointer none, .int .i64 1] ∧ S = []) := by
 refine Tri.forget (zq Tryz.Dt (Nat.le_of_ble_eq_true rfl) ?_);unfold Tryz.x28;refine ze (z8 (yp pC (yp pC (zf (za (ze (ze (z8 (yp (pI rfl) (yp (ZK rfl rfl) (yp (pB rfl) ?_)))))))))));by_cases h1 : n < 2048
 ·rw [decide_eq_true h1];refine zV rfl (zV rfl (yp (zM rfl rfl) (zf (za (zG rfl (ze (z8 (yp pC (yp pC (zf (za (zI (zU ?_)))))))))))));exact zH (FI rfl rfl) ⟨_, .of, rfl, rfl⟩
 ·rw [decide_eq_false h1];refine Z4 rfl (Z9 (pI rfl) (Z4 rfl (Z9 (VE rfl rfl) (yp (zQ rfl rfl) (zf (za ?_))))));rw [decide_eq_true (show 1048576 < n from by omega)];refine zG rfl (ze (z8 (yp pC (yp pC (zf (za (zI (zU ?_))))))));exact zH (FI rfl rfl) ⟨_, .of, rfl, rfl⟩
theorem JJ {sb N : Nat} {S : Ss} {H : List Chunk} (hS : Sr sb N S H) : Tri Tryz.prog 36 #[.pointer (some ⟨sb, 0, none⟩)] [H] (fun r S' => r = .int .i64 (Vl (sets S.I) : Nat) ∧ S' = [H]) := by
 obtain ⟨W, D, L, ab, tb, mb, lb, db, ev, HA, HT, HM, HL, HD, HV, h, rfl⟩ := hS;refine Tri.forget (Tri.lW (zq Tryz.Ie (Nat.le_of_ble_eq_true rfl) ?_));unfold Tryz.LK;refine ze (z8 (yp pC (zf (za (ze (ze (z8 (yp (pP rfl) (yp (ZN rfl rfl) (zf (za (zy rfl (zn (za (ze (z8 (yp (pP rfl) (yp (zJ rfl) (yp (zu rfl) ?_)))))))))))))))))));refine zh (zC rfl rfl ?_);refine zh (zk (aA h.a) rfl rfl fun r S' h => ?_);obtain ⟨rfl, rfl⟩ := h;refine yp (pI rfl) (zf (za (zI ?_)));rw [h.q.used];exact zH (rI rfl) ⟨_, zB.sp, rfl, rfl⟩
theorem JK {sb N : Nat} {S : Ss} {H : List Chunk} (hS : Sr sb N S H) : Tri Tryz.prog 37 #[.pointer (some ⟨sb, 0, none⟩)] [H] (fun r S' => r = .int .i64 (uV N S) ∧ S' = [H]) := by
 obtain ⟨W, D, L, ab, tb, mb, lb, db, ev, HA, HT, HM, HL, HD, HV, h, rfl⟩ := hS;refine Tri.forget (Tri.lW (zq Tryz.Dr (Nat.le_of_ble_eq_true rfl) ?_));unfold Tryz.FU;refine ze (z8 (yp pC (zf (za (ze (ze (z8 (yp (pP rfl) (yp (ZN rfl rfl) (zf (za (zy rfl (zn (za (ze (z8 (yp (pP rfl) (yp (zJ rfl) (yp (zu rfl) ?_)))))))))))))))))));refine zh (zC rfl rfl ?_);refine zh (zk (aB h.a) rfl rfl fun r S' h => ?_);obtain ⟨rfl, rfl⟩ := h;refine yp (pI rfl) (zf (za (zI ?_)));rw [h.q.left];exact zH (rI rfl) ⟨_, zB.sp, rfl, rfl⟩
theorem eu : Tri Tryz.prog 33 #[.pointer none] [] (fun r S => r = .int .i64 0 ∧ S = []) := by
 refine Tri.forget (zq Tryz.Ii (Nat.le_of_ble_eq_true rfl) ?_);unfold Tryz.LP;refine ze (z8 (yp pC (zf (za (ze (ze (z8 (yp (pP rfl) (yp (ZN rfl rfl) (zf (za (zG rfl (ze (z8 (yp pC (zf (za (zI (zU ?_)))))))))))))))))));exact zH (rI rfl) ⟨_, .of, rfl, rfl⟩
theorem Ve {sb N : Nat} {S : Ss} {H : List Chunk} (hS : Sr sb N S H) : Tri Tryz.prog 32 #[.pointer (some ⟨sb, 0, none⟩)] [H] (fun r S' => ∃ H' HV, Zb 43 r S.V HV ∧ Sr sb N ⟨S.I, S.P, S.Q, []⟩ H' ∧ S' = [HV, H']) := by
 obtain ⟨W, D, L, ab, tb, mb, lb, db, ev, HA, HT, HM, HL, HD, HV, h, rfl⟩ := hS;refine Tri.forget (Tri.lW (zq Tryz.Ij (Nat.le_of_ble_eq_true rfl) ?_));unfold Tryz.x32;have hV := h.v;obtain ⟨a, c, rfl⟩ := hV.isSlice;refine ze (z8 (yp pC (zf (za (ze (ze (z8 (yp (pP rfl) (yp (ZN rfl rfl) (zf (za (zy rfl (zn (za (ze (z8 (yp (pP rfl) (yp (zJ rfl) (yp (zu rfl) ?_)))))))))))))))))));refine zh (zC rfl rfl ?_);refine yp (pS rfl) (zf (za (ze (z8 (yp (pP rfl) (yp (zJ rfl) (yp (zu rfl) ?_)))))));refine zh (cO rfl rfl (Yt rfl) ?_);refine zf (za (ze (z8 (yp (pS rfl) (yp (pS rfl) (zf (za (zI ?_))))))));exact zH (rS rfl) ⟨_, zB.M5 (HV := []), _, HV, hV, Sr.mk (W := W) ⟨h.q.ev, h.a, h.t, h.m, h.l, h.d, .nil⟩, rfl⟩
end Go.Proofs.YtejmbmenbailmaaGreat
namespace Go.Proofs.YtejmbmenbailmaaGreat
open Go.Xs
open Enc (enc)
theorem Q9 : sizeOf? Tryz.prog 43 = some 2 := by kernel_rfl
theorem qN : isAgg? Tryz.prog 76 = some true := by kernel_rfl
theorem JG : sizeOf? Tryz.prog 76 = some 9 := by kernel_rfl
theorem Ka (k : Ky) (hk : k.n.length < 2 ^ 62) : Tri Tryz.prog 76 #[.agg (Wo k)] [] (fun r S => r = .agg (Wo (fk k)) ∧ S = []) := by
 refine Tri.forget (zq Tryz.GX (Nat.le_of_ble_eq_true rfl) ?_);unfold Tryz.L8;refine ze (z8 ?_);refine zh (Zq rfl fun p1 => ?_);refine zh (Ze fun p2 => ?_);refine zf (za (ze (zZ (zi (zu rfl) (Z6 rfl rfl (zi (zu rfl) (Z6 rfl rfl ?_)))))));refine Zl (zk (KC k.n hk) rfl rfl fun r S' h => ?_) zP;obtain ⟨rfl, rfl⟩ := h;refine ⟨by simp, ?_⟩;refine zi (V4 (lX rfl) (uR rfl)) ?_;refine zN (WK rfl rfl rfl rfl rfl ?_) zP;refine zL (za (zI ?_));exact zH (jK (eP (b := p2) oF Q9 rfl rfl)) ⟨[], .of, rfl, rfl⟩
theorem UW (n most : Int) : Tri Tryz.prog 75 #[.int .i64 n, .int .i64 most] [] (fun r S => r = .bool (j5 n most) ∧ S = []) := by
 refine Tri.forget (zq Tryz.GY (Nat.le_of_ble_eq_true rfl) ?_);unfold Tryz.L9 j5;refine ze (z8 (yp pC (zf (za (ze (z8 (yp (pI rfl) (yp (Yl rfl rfl) (yp (pB rfl) ?_)))))))));by_cases h : 0 ≤ n
 ·rw [decide_eq_true h];refine Z4 rfl (Z9 (pI rfl) (Z4 rfl (Z9 (pI rfl) (Z4 rfl (Z9 (jO rfl rfl) (yp (zM rfl rfl) (yp (pB rfl) (zf (za (zI ?_))))))))));exact zH (rB rfl) ⟨_, .of, rfl, rfl⟩
 ·rw [decide_eq_false h];refine zV rfl (zV rfl (zV rfl (yp (zQ rfl rfl) (yp (pB rfl) (zf (za (zI ?_)))))));exact zH (rB rfl) ⟨_, .of, rfl, rfl⟩
def FJ (o : Option En) : Value := .pointer (o.map fun e => ⟨e.eb, 0, none⟩)
theorem Fg (W : List En) (k : Ky) : ((XB W k).map Vv.vv).getD (.pointer none) = FJ (Ym W k) := by
 unfold XB FJ;cases Ym W k <;> rfl
theorem Kc {sb ab tb mb lb db n : Nat} {ev : Value} {W : List En} {HM : List Chunk} (hM : Mp mb (XB W) n HM) (k : Ky) (hk : k.n.length < 2 ^ 62) :
 Tri Tryz.prog 84 #[.pointer (some ⟨sb, 0, none⟩), .agg (Wo k)] [wm sb ab tb mb lb db ev, HM] (fun r S => r = FJ (Ym W (fk k)) ∧ S = [wm sb ab tb mb lb db ev, HM]) := by
 refine Tri.forget (zq Tryz.Dn (Nat.le_of_ble_eq_true rfl) ?_);unfold Tryz.FQ;refine ze (z8 ?_);refine zh (Zq rfl fun p3 => ?_);refine yp pC (zf (za (ze (ze (z8 (yp (pP rfl) (yp (ZN rfl rfl) (zf (za (zy rfl (zn (za (ze (zZ (zi (pP rfl) (zi (zJ rfl) (zi (zu rfl) (Z6 rfl rfl (WJ rfl rfl ?_)))))))))))))))))));refine Zl (zk (Ka k hk) rfl rfl fun r S' h => ?_) zP;obtain ⟨rfl, rfl⟩ := h;refine ⟨by simp, ?_⟩;refine zN (Vz hM (by repeat (first | exact List.mem_cons_self | apply List.mem_cons_of_mem)) (fk k) UR o7 rJ rfl rfl (Fg W (fk k)) ?_) zP;refine zi (v := FJ (Ym W (fk k))) rfl (zL (za (zI ?_)));exact zH (rP rfl) ⟨_, .of, rfl, rfl⟩
theorem mQ (k : Ky) : Tri Tryz.prog 84 #[.pointer none, .agg (Wo k)] [] (fun r S => r = .pointer none ∧ S = []) := by
 refine Tri.forget (zq Tryz.Dn (Nat.le_of_ble_eq_true rfl) ?_);unfold Tryz.FQ;refine ze (z8 ?_);refine zh (Zq rfl fun p3 => ?_);refine yp pC (zf (za (ze (ze (z8 (yp (pP rfl) (yp (ZN rfl rfl) (zf (za (zG rfl (ze (z8 (yp pC (zf (za (zI (zU ?_)))))))))))))))));exact zH (rP rfl) ⟨_, .of, rfl, rfl⟩
/-- an item as it is told -/
abbrev og (i : It) (v : Value) : Array Value := #[sv (ZA i.s).name, .int .i64 (ZA i.s).typ, v, .int .i64 (ZA i.s).kind, sv (ZA i.s).zone, .int .i64 i.rank, .int .i64 i.came, .int .i64 i.exp, .int .i64 i.pins]
abbrev bA : Array Value := #[.string ⟨#[]⟩, .int .i64 0, .slice none 0 0, .int .i64 0, .string ⟨#[]⟩, .int .i64 0, .int .i64 0, .int .i64 0, .int .i64 0]
theorem dY {sb N ab tb mb lb db : Nat} {ev : Value} {S : Ss} {W : List En} {D : List (Option Bt)} {L : List Nm} {HA HT : List Chunk} (hq : Sq S W D L) (hA : Ar ab N D HA) (hT : Tb tb ab L HT) {e : En} (he : e ∈ W) :
 Tri Tryz.prog 85 #[.pointer (some ⟨sb, 0, none⟩), .pointer (some ⟨e.eb, 0, none⟩)] [wm sb ab tb mb lb db ev, HA, HT, J9 e] (fun r S => ∃ v HR, r = .agg (og e.i v) ∧ Zb 88 v (ZA e.i.s).rrs HR ∧ S = [HR, wm sb ab tb mb lb db ev, HA, HT, J9 e]) := by
 have hz : e.z ∈ W.map En.z := List.mem_map.2 ⟨e, he, rfl⟩;obtain ⟨hE, hs, hal⟩ := hq.pk.ok _ hz;have hC := Ct hT hA hq.pk.inn (KZ hz) hE hal;refine Tri.forget (zq Tryz.GK (Nat.le_of_ble_eq_true rfl) ?_);unfold Tryz.IV;refine ze (z8 ?_);refine zh (Ze fun p4 => ?_);refine zf (za (ze (Vj (R := [wm sb ab tb mb lb db ev, J9 e]) (by simp) (zi (pP rfl) (zi (zJ rfl) (zi (zu rfl) (Z6 rfl rfl (zi (pP rfl) (zi (zJ rfl) (zi (zu rfl) (Z6 rfl rfl (zi (pP rfl) (zi (zJ rfl) (zi (zu rfl) (Z6 rfl rfl ?_)))))))))))))));refine zN (zk hC rfl rfl fun r S' h => ?_) (Zl (Ze fun p5 => ⟨by simp, ?_⟩) zP)
 ·obtain ⟨v, HR, rfl, hR, rfl⟩ := h;obtain ⟨a, c, rfl⟩ := hR.isSlice;refine zi (pU rfl) (zi (pExt rfl rfl) (zi (pExt rfl rfl) ?_));refine Zl (Ze fun p5 => ⟨(by first | exact fun _ h => List.mem_cons_of_mem _ h | simp), ?_⟩) zP;refine zN (WK rfl rfl rfl rfl rfl ?_) zP;refine zi (pI rfl) (zL (za (ze (zZ (WJ rfl rfl (zi (pP rfl) (zi (zJ rfl) (zi (zu rfl) (Z6 rfl rfl (zi (pP rfl) (zi (zJ rfl) (zi (zu rfl) (Z6 rfl rfl (zi (pP rfl) (zi (zJ rfl) (zi (zu rfl) (Z6 rfl rfl (zi (pP rfl) (zi (zJ rfl) (zi (zu rfl) (Z6 rfl rfl (zi (v := .agg (og e.i (.slice a (ZA e.z.s).rrs.length c))) rfl ?_))))))))))))))))))))));refine zN (WK rfl rfl rfl rfl rfl ?_) zP;refine zL (za (zI ?_));exact zH (jK (eP (b := p4) qN JG rfl rfl)) ⟨_, .of, _, HR, rfl, hR, rfl⟩
 ·refine zN (zk hC rfl rfl fun r S' h => ?_) zP;obtain ⟨v, HR, rfl, hR, rfl⟩ := h;obtain ⟨a, c, rfl⟩ := hR.isSlice;refine zi (pU rfl) (zi (pExt rfl rfl) (zi (pExt rfl rfl) ?_));refine zN (WK rfl rfl rfl rfl rfl ?_) zP;refine zi (pI rfl) (zL (za (ze (zZ (WJ rfl rfl (zi (pP rfl) (zi (zJ rfl) (zi (zu rfl) (Z6 rfl rfl (zi (pP rfl) (zi (zJ rfl) (zi (zu rfl) (Z6 rfl rfl (zi (pP rfl) (zi (zJ rfl) (zi (zu rfl) (Z6 rfl rfl (zi (pP rfl) (zi (zJ rfl) (zi (zu rfl) (Z6 rfl rfl (zi (v := .agg (og e.i (.slice a (ZA e.z.s).rrs.length c))) rfl ?_))))))))))))))))))))));refine zN (WK rfl rfl rfl rfl rfl ?_) zP;refine zL (za (zI ?_));exact zH (jK (eP (b := p4) qN JG rfl rfl)) ⟨_, .of, _, HR, rfl, hR, rfl⟩
end Go.Proofs.YtejmbmenbailmaaGreat
namespace Go.Proofs.YtejmbmenbailmaaGreat
open Go.Xs
open Enc (enc)
theorem xq (X A B C : List Chunk) : (X ++ (A ++ (B ++ C))).Perm (X ++ (B ++ (A ++ C))) := by
 refine .append_left X ?_;rw [← List.append_assoc, ← List.append_assoc];exact List.perm_append_comm.append_right C
theorem qP (A B : List En) (e : En) : (Es (A ++ e :: B)).flatten = (Es A).flatten ++ (J9 e ++ (Es B).flatten) := by
 rw [qQ, List.flatten_append]; rfl
/-- one entry taken out of the others; put back, or left -/
theorem zB.cons {x : List Chunk} {S T : zx} (h : zB S T) : zB (x :: S) (x :: T) := by
 obtain ⟨G, h⟩ := h;refine ⟨G, ?_⟩;rw [List.flatten_cons, List.flatten_cons, List.append_assoc];exact h.append_left x
theorem zB.em {x : List Chunk} {sb ab tb mb lb db : Nat} {ev : Value} {HA HT HM HL HD HV : List Chunk} {A B : List En} {e : En} :
 zB (x :: wm sb ab tb mb lb db ev :: HA :: HT :: HM :: HL :: HD :: HV :: Es (A ++ e :: B)) (x :: J9 e :: wm sb ab tb mb lb db ev :: HA :: HT :: HM :: HL :: HD :: HV :: (Es A ++ Es B)) := ⟨[], by
 simp only [List.flatten_cons, qP, List.flatten_append, List.append_nil];refine .append_left x ?_;have := xq [] (wm sb ab tb mb lb db ev ++ (HA ++ (HT ++ (HM ++ (HL ++ (HD ++ (HV ++ (Es A).flatten))))))) (J9 e) (Es B).flatten;simpa only [List.nil_append, List.append_assoc] using this⟩
theorem zB.ec {x : List Chunk} {S G : zx} {sb ab tb mb lb db : Nat} {ev : Value} {HA HT HM HL HD HV : List Chunk} {A B : List En} {e : En} [h : Sub S (x :: J9 e :: wm sb ab tb mb lb db ev :: HA :: HT :: HM :: HL :: HD :: HV :: (Es A ++ Es B)) G] :
 zB S [x, sH sb ab tb mb lb db ev HA HT HM HL HD HV (A ++ e :: B)] := zB.trans (zB.of (h := h)) ⟨[], by
 simp only [sH, List.flatten_cons, List.flatten_nil, qP, List.flatten_append, List.append_nil];refine .append_left x ?_;have := (xq [] (wm sb ab tb mb lb db ev ++ (HA ++ (HT ++ (HM ++ (HL ++ (HD ++ (HV ++ (Es A).flatten))))))) (J9 e) (Es B).flatten).symm;simpa only [List.nil_append, List.append_assoc] using this⟩
theorem zB.IC {S G : zx} {sb ab tb mb lb db : Nat} {ev : Value} {HA HT HM HL HD HV : List Chunk} {A B : List En} {e : En} [h : Sub S (J9 e :: wm sb ab tb mb lb db ev :: HA :: HT :: HM :: HL :: HD :: HV :: (Es A ++ Es B)) G] :
 zB S [sH sb ab tb mb lb db ev HA HT HM HL HD HV (A ++ e :: B)] := zB.trans (zB.of (h := h)) ⟨[], by
 simp only [sH, List.flatten_cons, List.flatten_nil, qP, List.flatten_append, List.append_nil];have := (xq [] (wm sb ab tb mb lb db ev ++ (HA ++ (HT ++ (HM ++ (HL ++ (HD ++ (HV ++ (Es A).flatten))))))) (J9 e) (Es B).flatten).symm;simpa only [List.nil_append, List.append_assoc] using this⟩
theorem zB.sd {S G : zx} {sb ab tb mb lb db : Nat} {ev : Value} {HA HT HM HL HD HV : List Chunk} {A B : List En} [h : Sub S (wm sb ab tb mb lb db ev :: HA :: HT :: HM :: HL :: HD :: HV :: (Es A ++ Es B)) G] :
 zB S [sH sb ab tb mb lb db ev HA HT HM HL HD HV (A ++ B)] := zB.trans (zB.of (h := h)) ⟨[], by simp [sH, qQ]⟩
theorem zB.op1 {x : List Chunk} {S G : zx} {sb ab tb mb lb db : Nat} {ev : Value} {HA HT HM HL HD HV : List Chunk} {W : List En} [h : Sub S [x, sH sb ab tb mb lb db ev HA HT HM HL HD HV W] G] : zB S (x :: wm sb ab tb mb lb db ev :: HA :: HT :: HM :: HL :: HD :: HV :: Es W) := zB.trans (zB.of (h := h)) ⟨[], by simp [sH]⟩
theorem nO {W : List En} {e : En} (hn : (keys (W.map (·.i))).Nodup) (he : e ∈ W) : KE (XB W) e.i.k W.length = (xB W e.i.k).length := by
 obtain ⟨A, B, h1, h2⟩ := WU hn he;have hf : (XB W e.i.k).isSome = true := by
  unfold XB Ym;cases h : W.find? (fun x => decide (x.i.k = e.i.k)) with
  | none => have := List.find?_eq_none.1 h e he; simp at this
  | some x => rfl
 unfold KE;rw [if_pos hf, h2, h1];simp
theorem UE {S : Ss} {W : List En} {D : List (Option Bt)} {L : List Nm} (hq : Sq S W D L) {k : Ky} {i : It} (h : wG S.I k = some i) : ∃ e, Ym W k = some e ∧ e ∈ W ∧ e.i = i ∧ i.k = k := by
 rw [← hq.its, aj] at h;obtain ⟨e, he, rfl⟩ := Option.map_eq_some_iff.1 h;exact ⟨e, he, (J6 he).1, rfl, (J6 he).2⟩
theorem Xa {S : Ss} {W : List En} {D : List (Option Bt)} {L : List Nm} (hq : Sq S W D L) {k : Ky} (h : wG S.I k = none) : Ym W k = none := by
 rw [← hq.its, aj] at h;exact Option.map_eq_none_iff.1 h
theorem JL {sb N : Nat} {S : Ss} {H : List Chunk} (hS : Sr sb N S H) {k : Ky} {i : It} (hk : wG S.I k = some i) :
 Tri Tryz.prog 77 #[.pointer (some ⟨sb, 0, none⟩), .agg (Wo k)] [H] (fun r S' => r = .tuple #[] ∧ ∃ H', Sr sb N (Xu k S) H' ∧ S' = [H']) := by
 have hnb := hS.nb;obtain ⟨W, D, L, ab, tb, mb, lb, db, ev, HA, HT, HM, HL, HD, HV, h, rfl⟩ := hS;obtain ⟨e, hf, he, rfl, hek⟩ := UE h.q hk;have hz : e.z ∈ W.map En.z := List.mem_map.2 ⟨e, he, rfl⟩;obtain ⟨hE, hs, hal⟩ := h.q.pk.ok _ hz;have hC := sS h.t h.a h.q.pk.inn h.q.pk.pos (KZ hz) hE hal hs;have hC : Tri Tryz.prog 23 #[.pointer (some ⟨ab, 0, none⟩), .pointer (some ⟨tb, 0, none⟩), .int .i64 e.h] _ _ := hC;obtain ⟨A, B, hW, hout⟩ := WU h.q.Af he;refine Tri.forget (Tri.lW (zq Tryz.GV (Nat.le_of_ble_eq_true rfl) ?_));unfold Tryz.L6;have hEs : Es W = Es (A ++ e :: B) := by rw [← hW]
 rw [hEs];refine ze (z8 ?_);refine zh (Zq rfl fun p3 => ?_);refine zf (za (zm zB.em (ze (zZ (zi (pP rfl) (zi (zJ rfl) (zi (zu rfl) (Z6 rfl rfl (zi (pP rfl) (zi (zJ rfl) (zi (zu rfl) (Z6 rfl rfl (zi (pP rfl) (zi (zJ rfl) (zi (zu rfl) (Z6 rfl rfl (WJ rfl rfl ?_)))))))))))))))));refine Zl (Vz h.m (by repeat (first | exact List.mem_cons_self | apply List.mem_cons_of_mem)) k UR o7 rJ rfl rfl (Ja hf) ⟨fun _ h => h, ?_⟩) zP;refine zi (zJ rfl) (zi (zu rfl) (Z6 rfl rfl ?_));refine zN (zk hC rfl rfl fun r S' h => ?_) zP;obtain ⟨rfl, HT1, HA1, D1, hT1, hA1, hI1, _, rfl⟩ := h;refine zL (za (ze (zZ (zi (pP rfl) (zi (zJ rfl) (zi (zu rfl) (Z6 rfl rfl (WJ rfl rfl ?_))))))));refine zN (dw h.m k UR o7 rfl rfl fun HM1 hM1 => ?_) zP;refine zL (za (ze (zZ (zi (pP rfl) (zi (zJ rfl) (zi (zu rfl) (Z6 rfl rfl (WJ rfl rfl ?_))))))));refine zN (zk (A8 h.l (by omega) (by omega) k) rfl rfl fun r S' h => ?_) zP;obtain ⟨rfl, HL1, hL1, rfl⟩ := h;refine zL (za (zZ (zi (pP rfl) (zi (zJ rfl) (zi (zu rfl) (Z6 rfl rfl (WJ rfl rfl ?_)))))));refine zN (zk (Ae h.d (by rw [List.length_map]; omega) k) rfl rfl fun r S' h => ?_) zP;obtain ⟨rfl, HD1, hD1, rfl⟩ := h;refine zL ?_;subst hek;have hq1 := h.q.gone he hI1;rw [← oq, nO h.q.Af he] at hM1;rw [kG h.q.kn] at hD1;have hR : Sp N (Xu e.i.k S) (xB W e.i.k) D1 _ ab tb mb lb db ev HA1 HT1 HM1 HL1 HD1 HV := ⟨hq1, hA1, hT1, hM1, hL1, hD1, h.v⟩
 have hR := Sr.mk (sb := sb) hR;rw [hout] at hR;exact wh wu ⟨_, zB.sd, rfl, _, hR, rfl⟩
theorem Qd {sb N : Nat} {S : Ss} {H : List Chunk} (hS : Sr sb N S H) {k : Ky} {i : It} (hk : wG S.I k = some i) (hv : S.V.length < 2 ^ 30) :
 Tri Tryz.prog 79 #[.pointer (some ⟨sb, 0, none⟩), .agg (Wo k)] [H] (fun r S' => r = .tuple #[] ∧ ∃ H', Sr sb N (Xb k S) H' ∧ S' = [H']) := by
 refine Tri.forget (zq Tryz.GR (Nat.le_of_ble_eq_true rfl) ?_);unfold Tryz.IY;refine ze (z8 ?_);refine zh (Zq rfl fun p3 => ?_);refine zf (za (ze (z8 (yp (pP rfl) ?_))));refine zh (Zx rfl rfl ?_);refine zh (zk (JL hS hk) rfl rfl fun r S' h => ?_);obtain ⟨rfl, H1, hS1, rfl⟩ := h;obtain ⟨W, D, L, ab, tb, mb, lb, db, ev, HA, HT, HM, HL, HD, HV, h, rfl⟩ := hS1;refine zf (za ?_);refine zm (S0 := [(p3, .cells (Wo k) 43)] :: wm sb ab tb mb lb db ev :: HA :: HT :: HM :: HL :: HD :: HV :: Es W) ?_ ?_
 ·exact zB.op1
 have hV := h.v;obtain ⟨a, c, rfl⟩ := hV.isSlice;refine zZ (zi (pP rfl) (zi (pP rfl) (zi (zJ rfl) (zi (zu rfl) (Z6 rfl rfl (WJ rfl rfl ?_))))));refine Zl (vE k rfl rfl (by decide) (by decide) rfl fun p13 => ⟨fun _ h => List.mem_cons_of_mem _ h, ?_⟩) zP;have hvl : (Xu k S).V.length < 2 ^ 30 := hv;refine zN (VK (Y := [k]) rfl rfl hV (.lit (by repeat (first | exact List.mem_cons_self | apply List.mem_cons_of_mem)) rfl) rfl (⟨[], 0⟩ : Ky) rfl (by rw [List.length_singleton]; omega) (by rw [List.length_singleton]; omega) fun v2 H2 hV2 => ?_) zP;obtain ⟨a2, c2, rfl⟩ := hV2.isSlice;refine zi (zJ rfl) (zi (zu rfl) ?_);refine zN (cO rfl rfl (Yt rfl) ?_) zP;refine zL ?_;exact wh wu ⟨_, zB.sp, rfl, _, Sr.mk (S := Xb k S) ⟨h.q.ev, h.a, h.t, h.m, h.l, h.d, hV2⟩, rfl⟩
end Go.Proofs.YtejmbmenbailmaaGreat
namespace Go.Proofs.YtejmbmenbailmaaGreat
open Go.Xs
open Enc (enc)
def Y0 (k : Ky) (S : Ss) : Ss × Int := match wG S.I (fk k) with
 | none => (S, 5)
 | some i => if 0 < i.pins then (S, 6) else (Xu (fk k) S, 0)
def WS (I : List It) (k : Ky) (p : Int) : List It := I.map fun i => if i.k = k then { i with pins := p } else i
def V3 (k : Ky) (by_ : Int) (S : Ss) : Ss × Int := match wG S.I (fk k) with
 | none => (S, 5)
 | some i => if j5 (i.pins + by_) 1000 = false then (S, 1) else (⟨WS S.I (fk k) (i.pins + by_), S.P, S.Q, S.V⟩, 0)
theorem U8 (I : List It) (k : Ky) (p : Int) : keys (WS I k p) = keys I := by
 unfold keys WS;rw [List.map_map];refine List.map_congr_left fun i _ => ?_
 show (if i.k = k then { i with pins := p } else i).k = i.k;split <;> rfl
theorem Qf (I : List It) (k : Ky) (p : Int) : (WS I k p).map It.de = I.map It.de := by
 unfold WS;rw [List.map_map];refine List.map_congr_left fun i _ => ?_
 show (if i.k = k then { i with pins := p } else i).de = i.de;split <;> rfl
abbrev JW (p : Int) (e : En) : En := { e with i := { e.i with pins := p } }
theorem eH {A B : List En} {e : En} (hn : (keys ((A ++ e :: B).map (·.i))).Nodup) (p : Int) : (A ++ JW p e :: B).map (·.i) = WS ((A ++ e :: B).map (·.i)) e.i.k p := by
 have hne : ∀ X : List En, (∀ y ∈ X, y.i.k ≠ e.i.k) → X.map (·.i) = WS (X.map (·.i)) e.i.k p := fun X hX => by
  unfold WS;rw [List.map_map];refine List.map_congr_left fun y hy => ?_
  show y.i = if y.i.k = e.i.k then _ else y.i
  rw [if_neg (hX y hy)]
 have hn : ((A ++ e :: B).map fun y => y.i.k).Nodup := by
  have : keys ((A ++ e :: B).map (·.i)) = (A ++ e :: B).map fun y => y.i.k := by unfold keys; rw [List.map_map]; rfl
  rw [← this]; exact hn
 rw [List.map_append, List.map_cons] at hn;obtain ⟨_, h2, h3⟩ := List.nodup_append.1 hn;have h4 := (List.nodup_cons.1 h2).1;have hA := hne A fun y hy q => h3 y.i.k (List.mem_map.2 ⟨y, hy, rfl⟩) e.i.k List.mem_cons_self q
 have hB := hne B fun y hy q => h4 (List.mem_map.2 ⟨y, hy, q⟩)
 have happ : ∀ X Y : List It, WS (X ++ Y) e.i.k p = WS X e.i.k p ++ WS Y e.i.k p := fun X Y => List.map_append
 rw [List.map_append, List.map_cons, List.map_append, List.map_cons, happ, hA, ← hA];congr 1;show _ = (if e.i.k = e.i.k then _ else e.i) :: WS (B.map (·.i)) e.i.k p;rw [if_pos rfl, ← hB]
theorem ow {A B : List En} {e : En} (p : Int) : XB (A ++ JW p e :: B) = XB (A ++ e :: B) := by
 funext x;unfold XB Ym;have hd : decide ((JW p e).i.k = x) = decide (e.i.k = x) := rfl;rw [List.find?_append, List.find?_append, List.find?_cons, List.find?_cons, hd];cases List.find? (fun y => decide (y.i.k = x)) A <;> cases decide (e.i.k = x) <;> rfl
theorem sI {sb N : Nat} {S : Ss} {H : List Chunk} (hS : Sr sb N S H) (k : Ky) (hkl : k.n.length < 2 ^ 62) :
 Tri Tryz.prog 42 #[.pointer (some ⟨sb, 0, none⟩), .agg (Wo k)] [H] (fun r S' => r = .int .i64 (Y0 k S).2 ∧ ∃ H', Sr sb N (Y0 k S).1 H' ∧ S' = [H']) := by
 have hS0 := hS;obtain ⟨W, D, L, ab, tb, mb, lb, db, ev, HA, HT, HM, HL, HD, HV, h, rfl⟩ := hS;refine Tri.forget (Tri.lW (zq Tryz.Dq (Nat.le_of_ble_eq_true rfl) ?_));unfold Tryz.FT;refine ze (z8 ?_);refine zh (Zq rfl fun p3 => ?_);refine yp pC (zf (za (ze (z8 (yp (pP rfl) ?_)))));refine zh (Zx rfl rfl ?_);refine zh (zk (Kc (ab := ab) (tb := tb) (lb := lb) (db := db) (ev := ev) h.m k hkl) rfl rfl fun r S' h => ?_);obtain ⟨rfl, rfl⟩ := h;cases hb : wG S.I (fk k) with
 | none =>
  rw [Xa h.q hb];unfold Y0;rw [hb];refine yp (v := .pointer none) rfl (zf (za (ze (zo (ze (z8 (yp (pP rfl) (yp (ZN rfl rfl) (yp (pB rfl) (zf (za (zG rfl (ze (z8 (yp pC (zf (za (zI (bret (zU ?_))))))))))))))))))));exact zH (rI rfl) ⟨_, zB.sp, rfl, _, hS0, rfl⟩
 | some i =>
  obtain ⟨e, hf, he, rfl, hek⟩ := UE h.q hb;rw [hf];rw [show Y0 k S = if 0 < e.i.pins then (S, 6) else (Xu (fk k) S, 0) from by unfold Y0; rw [hb]];refine yp (v := .pointer (some ⟨e.eb, 0, none⟩)) rfl (zf (za (ze (zo (ze (z8 (yp (pP rfl) (yp (ZN rfl rfl) (yp (pB rfl) (zf (za (zy rfl (ze (z8 (yp (pP rfl) (yp (zJ rfl) (yp (zu rfl) ?_)))))))))))))))));refine zh (uO (List.mem_cons_of_mem _ (List.mem_cons_of_mem _ (List.mem_cons_of_mem _ (List.mem_cons_of_mem _ (List.mem_cons_of_mem _ (List.mem_cons_of_mem _ (List.mem_cons_of_mem _ (List.mem_cons_of_mem _ (Xi he))))))))) rfl rfl ?_);refine yp (VE rfl rfl) (yp (pB rfl) (zf (za ?_)));by_cases hp : 0 < e.i.pins
  ·rw [decide_eq_true hp, if_pos hp];refine zG rfl (ze (z8 (yp pC (zf (za (zI (bret (zU ?_))))))));exact zH (rI rfl) ⟨_, zB.sp, rfl, _, hS0, rfl⟩
  ·rw [decide_eq_false hp, if_neg hp];refine zy rfl (zn (zS (za ?_)));refine zm (S0 := [[(p3, .cells (Wo k) 43)], sH sb ab tb mb lb db ev HA HT HM HL HD HV W]) ?_ ?_
   ·exact zB.M5
   refine ze (z8 (yp (pP rfl) ?_));refine zh (Zx rfl rfl ?_);refine zh (zk (Ka k hkl) rfl rfl fun r S' h => ?_);obtain ⟨rfl, rfl⟩ := h;refine zh (zk (JL hS0 hb) rfl rfl fun r S' h => ?_);obtain ⟨rfl, H1, hS1, rfl⟩ := h;refine zf (za (ze (z8 (yp pC (zf (za (zI ?_)))))));exact zH (rI rfl) ⟨[H1], .of, rfl, _, hS1, rfl⟩
theorem mR (k : Ky) : Tri Tryz.prog 42 #[.pointer none, .agg (Wo k)] [] (fun r S => r = .int .i64 5 ∧ S = []) := by
 refine Tri.forget (zq Tryz.Dq (Nat.le_of_ble_eq_true rfl) ?_);unfold Tryz.FT;refine ze (z8 ?_);refine zh (Zq rfl fun p3 => ?_);refine yp pC (zf (za (ze (z8 (yp (pP rfl) ?_)))));refine zh (Zx rfl rfl ?_);refine zh (zk (mQ k) rfl rfl fun r S' h => ?_);obtain ⟨rfl, rfl⟩ := h;refine yp (pP rfl) (zf (za (ze (zo (ze (z8 (yp (pP rfl) (yp (ZN rfl rfl) (yp (pB rfl) (zf (za (zG rfl (ze (z8 (yp pC (zf (za (zI (bret (zU ?_))))))))))))))))))));exact zH (rI rfl) ⟨_, .of, rfl, rfl⟩
theorem uj (n most : Int) : j5 n most = true ↔ 0 ≤ n ∧ n ≤ most := by unfold j5; simp
theorem pE {sb N : Nat} {S : Ss} {H : List Chunk} (hS : Sr sb N S H) (k : Ky) (hkl : k.n.length < 2 ^ 62) (by_ : Int) (hby : -1 ≤ by_ ∧ by_ ≤ 1) :
 Tri Tryz.prog 82 #[.pointer (some ⟨sb, 0, none⟩), .agg (Wo k), .int .i64 by_] [H] (fun r S' => r = .int .i64 (V3 k by_ S).2 ∧ ∃ H', Sr sb N (V3 k by_ S).1 H' ∧ S' = [H']) := by
 have hS0 := hS;obtain ⟨W, D, L, ab, tb, mb, lb, db, ev, HA, HT, HM, HL, HD, HV, h, rfl⟩ := hS;refine Tri.forget (Tri.lW (zq Tryz.GL (Nat.le_of_ble_eq_true rfl) ?_));unfold Tryz.IW;refine ze (z8 ?_);refine zh (Zq rfl fun p4 => ?_);refine yp pC (zf (za (ze (z8 (yp (pP rfl) ?_)))));refine zh (Zx rfl rfl ?_);refine zh (zk (Kc (ab := ab) (tb := tb) (lb := lb) (db := db) (ev := ev) h.m k hkl) rfl rfl fun r S' h => ?_);obtain ⟨rfl, rfl⟩ := h;cases hb : wG S.I (fk k) with
 | none =>
  rw [Xa h.q hb];unfold V3;rw [hb];refine yp (v := .pointer none) rfl (zf (za (ze (zo (ze (z8 (yp (pP rfl) (yp (ZN rfl rfl) (yp (pB rfl) (zf (za (zG rfl (ze (z8 (yp pC (zf (za (zI (bret (zU ?_))))))))))))))))))));exact zH (rI rfl) ⟨_, zB.sp, rfl, _, hS0, rfl⟩
 | some i =>
  obtain ⟨e, hf, he, rfl, hek⟩ := UE h.q hb;have hpn := h.q.pn e.i (by rw [← h.q.its]; exact List.mem_map.2 ⟨e, he, rfl⟩);rw [hf];rw [show V3 k by_ S = if j5 (e.i.pins + by_) 1000 = false then (S, 1) else (⟨WS S.I (fk k) (e.i.pins + by_), S.P, S.Q, S.V⟩, 0) from by unfold V3; rw [hb]];obtain ⟨A, B, rfl, hout⟩ := WU h.q.Af he;refine yp (v := .pointer (some ⟨e.eb, 0, none⟩)) rfl (zf (za ?_));refine zm (S0 := [(p4, .cells (Wo k) 43)] :: wm sb ab tb mb lb db ev :: HA :: HT :: HM :: HL :: HD :: HV :: Es (A ++ e :: B)) ?_ ?_
  ·exact zB.of
  refine zm zB.em (ze (zo (ze (z8 (yp (pP rfl) (yp (ZN rfl rfl) (yp (pB rfl) (zf (za (zy rfl (ze (z8 (yp (pP rfl) (yp (zJ rfl) (yp (zu rfl) ?_)))))))))))))));refine zh (zC rfl rfl ?_);refine yp (pI rfl) (yp (WL rfl rfl (by omega)) ?_);refine zh (zk (UW (e.i.pins + by_) 1000) rfl rfl fun r S' h => ?_);obtain ⟨rfl, rfl⟩ := h;refine yp (Zg rfl) (yp (pB rfl) (zf (za ?_)));cases hw : j5 (e.i.pins + by_) 1000 with
  | false =>
   rw [if_pos rfl];refine zG rfl (ze (z8 (yp pC (zf (za (zI (bret (zU ?_))))))));exact zH (rI rfl) ⟨_, zB.IC (e := e), rfl, _, hS0, rfl⟩
  | true =>
   rw [if_neg (by decide)];have hw2 := (uj _ _).1 hw;refine zy rfl (zn (zS (za (ze (z8 (yp (pP rfl) (yp (zJ rfl) (yp (zu rfl) ?_))))))));refine zh (zC rfl rfl ?_);refine yp (pI rfl) (yp (WL rfl rfl (by omega)) (yp (zJ rfl) (yp (zu rfl) ?_)));refine zh (cZ rfl rfl (uR rfl) ?_);refine zf (za (ze (z8 (yp pC (zf (za (zI ?_)))))));have hp2 : Sp N ⟨WS S.I (fk k) (e.i.pins + by_), S.P, S.Q, S.V⟩ (A ++ JW (e.i.pins + by_) e :: B) D L ab tb mb lb db ev HA HT HM HL HD HV := by
    refine ⟨⟨?_, ?_, ?_, ?_, ?_, ?_⟩, h.a, h.t, ?_, h.l, ?_, h.v⟩
    ·rw [eH h.q.Af, h.q.its, hek]
    ·have : (A ++ JW (e.i.pins + by_) e :: B).map En.z = (A ++ e :: B).map En.z := by rw [List.map_append, List.map_append]; rfl
     rw [this]; exact h.q.pk
    ·show (keys (WS _ _ _)).Nodup;rw [U8]; exact h.q.kn
    ·intro i hi;obtain ⟨j, hj, rfl⟩ := List.mem_map.1 hi;have := h.q.kz j hj;show (if j.k = fk k then { j with pins := e.i.pins + by_ } else j).k = Z8 (if j.k = fk k then { j with pins := e.i.pins + by_ } else j).s;split <;> exact this
    ·show (S.P ++ S.Q).Perm (keys (WS _ _ _));rw [U8]; exact h.q.pq
    ·intro i hi;obtain ⟨j, hj, rfl⟩ := List.mem_map.1 hi;show 0 ≤ (if j.k = fk k then { j with pins := e.i.pins + by_ } else j).pins ∧ (if j.k = fk k then { j with pins := e.i.pins + by_ } else j).pins ≤ 1000;split
     ·exact hw2
     ·exact h.q.pn j hj
    ·rw [ow];have : (A ++ JW (e.i.pins + by_) e :: B).length = (A ++ e :: B).length := by simp
     rw [this]; exact h.m
    ·rw [Qf]; exact h.d
   exact zH (rI rfl) ⟨_, zB.IC (e := JW (e.i.pins + by_) e), rfl, _, Sr.mk hp2, rfl⟩
theorem pG {sb N : Nat} {S : Ss} {H : List Chunk} (hS : Sr sb N S H) (k : Ky) (hkl : k.n.length < 2 ^ 62) :
 Tri Tryz.prog 31 #[.pointer (some ⟨sb, 0, none⟩), .agg (Wo k)] [H] (fun r S' => r = .int .i64 (V3 k 1 S).2 ∧ ∃ H', Sr sb N (V3 k 1 S).1 H' ∧ S' = [H']) := by
 refine Tri.forget (zq Tryz.Ik (Nat.le_of_ble_eq_true rfl) ?_);unfold Tryz.x31;refine ze (z8 ?_);refine zh (Zq rfl fun p3 => ?_);refine yp pC (zf (za (ze (z8 (yp (pP rfl) ?_)))));refine zh (Zx rfl rfl ?_);refine zh (zk (pE hS k hkl 1 (by decide)) rfl rfl fun r S' h => ?_);obtain ⟨rfl, H1, hS1, rfl⟩ := h;refine yp (pI rfl) (zf (za (zI ?_)));exact zH (rI rfl) ⟨[H1], .of, rfl, _, hS1, rfl⟩
theorem Qb {sb N : Nat} {S : Ss} {H : List Chunk} (hS : Sr sb N S H) (k : Ky) (hkl : k.n.length < 2 ^ 62) :
 Tri Tryz.prog 34 #[.pointer (some ⟨sb, 0, none⟩), .agg (Wo k)] [H] (fun r S' => r = .int .i64 (V3 k (-1) S).2 ∧ ∃ H', Sr sb N (V3 k (-1) S).1 H' ∧ S' = [H']) := by
 refine Tri.forget (zq Tryz.Ih (Nat.le_of_ble_eq_true rfl) ?_);unfold Tryz.x34;refine ze (z8 ?_);refine zh (Zq rfl fun p3 => ?_);refine yp pC (zf (za (ze (z8 (yp (pP rfl) ?_)))));refine zh (Zx rfl rfl ?_);refine zh (zk (pE hS k hkl (-1) (by decide)) rfl rfl fun r S' h => ?_);obtain ⟨rfl, H1, hS1, rfl⟩ := h;refine yp (pI rfl) (zf (za (zI ?_)));exact zH (rI rfl) ⟨[H1], .of, rfl, _, hS1, rfl⟩
end Go.Proofs.YtejmbmenbailmaaGreat
namespace Go.Proofs.YtejmbmenbailmaaGreat
open Go.Xs
open Enc (enc)
/-- what Peek tells -/
def lU (S : Ss) (k : Ky) (H : List Chunk) (r : Value) (S' : zx) : Prop :=
 (wG S.I (fk k) = none ∧ r = .tuple #[.agg bA, .bool false] ∧ S' = [H]) ∨ ∃ i v HR, wG S.I (fk k) = some i ∧ r = .tuple #[.agg (og i v), .bool true] ∧ Zb 88 v (ZA i.s).rrs HR ∧ S' = [HR, H]
theorem K9 {sb N : Nat} {S : Ss} {H : List Chunk} (hS : Sr sb N S H) (k : Ky) (hkl : k.n.length < 2 ^ 62) :
 Tri Tryz.prog 39 #[.pointer (some ⟨sb, 0, none⟩), .agg (Wo k)] [H] (lU S k H) := by
 obtain ⟨W, D, L, ab, tb, mb, lb, db, ev, HA, HT, HM, HL, HD, HV, h, rfl⟩ := hS;refine Tri.forget (Tri.lW (zq Tryz.Ib (Nat.le_of_ble_eq_true rfl) ?_));unfold Tryz.x39;refine ze (z8 ?_);refine zh (Zq rfl fun p3 => ?_);refine zh (Ze fun p4 => ?_);refine yp pC (zf (za (ze (z8 (yp (pP rfl) ?_)))));refine zh (Zx rfl rfl ?_);refine zh (zk (Kc (ab := ab) (tb := tb) (lb := lb) (db := db) (ev := ev) h.m k hkl) rfl rfl fun r S' h => ?_);obtain ⟨rfl, rfl⟩ := h;cases hb : wG S.I (fk k) with
 | none =>
  rw [Xa h.q hb];refine yp (v := .pointer none) rfl (zf (za (ze (ze (z8 (yp (pP rfl) (yp (ZN rfl rfl) (zf (za (zG rfl (ze (z8 (yp uo ?_)))))))))))));refine zh (WK rfl rfl rfl rfl rfl ?_);refine yp pC (zf (za (zI (zU ?_))));exact zH (x8 (eP (b := p4) qN JG rfl rfl) (pJ rfl)) ⟨_, zB.sp, .inl ⟨hb, rfl, rfl⟩⟩
 | some i =>
  obtain ⟨e, hf, he, rfl, hek⟩ := UE h.q hb;rw [hf];have hC := dY (sb := sb) (mb := mb) (lb := lb) (db := db) (ev := ev) h.q h.a h.t he;obtain ⟨A, B, rfl, hout⟩ := WU h.q.Af he;refine yp (v := .pointer (some ⟨e.eb, 0, none⟩)) rfl (zf (za ?_));refine zm (S0 := [(p4, .cells bA 76)] :: [(p3, .cells (Wo k) 43)] :: wm sb ab tb mb lb db ev :: HA :: HT :: HM :: HL :: HD :: HV :: Es (A ++ e :: B)) ?_ ?_
  ·exact zB.of
  refine zm (zB.cons zB.em) (ze (ze (z8 (yp (pP rfl) (yp (ZN rfl rfl) (zf (za (zy rfl (zn (za (ze (z8 (yp (pP rfl) (yp (pP rfl) ?_))))))))))))));refine zh (zk hC rfl rfl fun r S' h => ?_);obtain ⟨v, HR, rfl, hR, rfl⟩ := h;obtain ⟨a, c, rfl⟩ := hR.isSlice;refine zh (WK rfl rfl rfl rfl rfl ?_);refine yp pC (zf (za (zI ?_)));exact zH (x8 (eP (b := p4) qN JG rfl rfl) (pJ rfl)) ⟨_, zB.ec (x := HR) (e := e), .inr ⟨e.i, _, HR, hb, rfl, hR, rfl⟩⟩
/-- what Get tells, and makes of the store -/
def AF (sb N : Nat) (S : Ss) (k : Ky) (now : Int) (H : List Chunk) (r : Value) (S' : zx) : Prop :=
 ((∀ i, wG S.I (fk k) = some i → i.exp ≤ now) ∧ r = .tuple #[.agg bA, .bool false] ∧ S' = [H]) ∨ ∃ i v HR H', wG S.I (fk k) = some i ∧ now < i.exp ∧ r = .tuple #[.agg (og i v), .bool true] ∧ Zb 88 v (ZA i.s).rrs HR ∧ Sr sb N ⟨S.I, Uh ((N / 512 : Nat) : Int) (fk k) S.P S.Q, Ug ((N / 512 : Nat) : Int) (fk k) S.P S.Q, S.V⟩ H' ∧ S' = [HR, H']
theorem dZ {sb N : Nat} {S : Ss} {H : List Chunk} (hS : Sr sb N S H) (k : Ky) (hkl : k.n.length < 2 ^ 62) (now : Int) :
 Tri Tryz.prog 40 #[.pointer (some ⟨sb, 0, none⟩), .agg (Wo k), .int .i64 now] [H] (AF sb N S k now H) := by
 have hnb := hS.nb;obtain ⟨W, D, L, ab, tb, mb, lb, db, ev, HA, HT, HM, HL, HD, HV, h, rfl⟩ := hS;refine Tri.forget (Tri.lW (zq Tryz.Ia (Nat.le_of_ble_eq_true rfl) ?_));unfold Tryz.LJ;refine ze (z8 ?_);refine zh (Zq rfl fun p4 => ?_);refine zh (Ze fun p6 => ?_);refine yp pC (zf (za (ze (z8 (yp (pP rfl) ?_)))));refine zh (Zx rfl rfl ?_);refine zh (zk (Kc (ab := ab) (tb := tb) (lb := lb) (db := db) (ev := ev) h.m k hkl) rfl rfl fun r S' h => ?_);obtain ⟨rfl, rfl⟩ := h;cases hb : wG S.I (fk k) with
 | none =>
  rw [Xa h.q hb];refine yp (v := .pointer none) rfl (zf (za (ze (ze (z8 (yp (pP rfl) (yp (ZN rfl rfl) (yp (pB rfl) (zV rfl (zV rfl (zV rfl (zV rfl (zV rfl (zV rfl (yp (zM rfl rfl) (zf (za (zG rfl (ze (z8 (yp uo ?_)))))))))))))))))))));refine zh (WK rfl rfl rfl rfl rfl ?_);refine yp pC (zf (za (zI (zU ?_))));exact zH (x8 (eP (b := p6) qN JG rfl rfl) (pJ rfl)) ⟨_, zB.sp, .inl ⟨(fun i hi => by rw [hb] at hi; exact absurd hi (by simp)), rfl, rfl⟩⟩
 | some i =>
  obtain ⟨e, hf, he, rfl, hek⟩ := UE h.q hb;rw [hf];have hkm : fk k ∈ keys S.I := by rw [← hek]; exact List.mem_map.2 ⟨e.i, (u7 hb).1, rfl⟩
  have hC := dY (sb := sb) (mb := mb) (lb := lb) (db := db) (ev := ev) (h.q.touch (m := ((N / 512 : Nat) : Int)) hkm) h.a h.t he;obtain ⟨A, B, rfl, hout⟩ := WU h.q.Af he;refine yp (v := .pointer (some ⟨e.eb, 0, none⟩)) rfl (zf (za ?_));refine zm (S0 := [(p6, .cells bA 76)] :: [(p4, .cells (Wo k) 43)] :: wm sb ab tb mb lb db ev :: HA :: HT :: HM :: HL :: HD :: HV :: Es (A ++ e :: B)) ?_ ?_
  ·exact zB.of
  refine zm (zB.cons zB.em) (ze (ze (z8 (yp (pP rfl) (yp (ZN rfl rfl) (yp (pB rfl) (Z4 rfl (Z9 (pP rfl) (Z4 rfl (Z9 (zJ rfl) (Z4 rfl (Z9 (zu rfl) (Z4 rfl ?_)))))))))))));refine (zC rfl rfl ?_);refine Z4 rfl (Z9 (pI rfl) (Z4 rfl (Z9 (jO rfl rfl) (yp (zQ rfl rfl) (zf (za ?_))))));by_cases hx : e.i.exp ≤ now
  ·rw [decide_eq_true hx];refine zG rfl (ze (z8 (yp uo ?_)));refine zh (WK rfl rfl rfl rfl rfl ?_);refine yp pC (zf (za (zI (zU ?_))));exact zH (x8 (eP (b := p6) qN JG rfl rfl) (pJ rfl)) ⟨_, zB.IC (e := e), .inl ⟨(fun i hi => by rw [hb] at hi; obtain rfl := Option.some.inj hi; exact hx), rfl, rfl⟩⟩
  ·rw [decide_eq_false hx];refine zy rfl (zn (za (ze (zZ (zi (pP rfl) (zi (zJ rfl) (zi (zu rfl) (Z6 rfl rfl (WJ rfl rfl ?_)))))))));refine Zl (zk (Ka k hkl) rfl rfl fun r S' h => ?_) zP;obtain ⟨rfl, rfl⟩ := h;refine ⟨fun _ h => h, ?_⟩;refine zN (zk (nV h.l (by omega) (by omega) (fk k)) rfl rfl fun r S' h => ?_) zP;obtain ⟨rfl, HL1, hL1, rfl⟩ := h;refine zL (za (ze (z8 (yp (pP rfl) (yp (pP rfl) ?_)))));refine zh (zk hC rfl rfl fun r S' h => ?_);obtain ⟨v, HR, rfl, hR, rfl⟩ := h;obtain ⟨a, c, rfl⟩ := hR.isSlice;refine zh (WK rfl rfl rfl rfl rfl ?_);refine yp pC (zf (za (zI ?_)));exact zH (x8 (eP (b := p6) qN JG rfl rfl) (pJ rfl)) ⟨_, zB.ec (x := HR) (e := e), .inr ⟨e.i, _, HR, _, hb, by omega, rfl, hR, Sr.mk ⟨h.q.touch hkm, h.a, h.t, h.m, hL1, h.d, h.v⟩, rfl⟩⟩
end Go.Proofs.YtejmbmenbailmaaGreat
namespace Go.Proofs.YtejmbmenbailmaaGreat
open Go.Xs
open Enc (enc)
theorem AA : isAgg? Tryz.prog 4 = some false := by kernel_rfl
theorem pfx {α : Type} {L : List α} {f : α → Array Value} {pre : List (Array Value)} {x : Array Value} (h : pre ++ [x] <+: L.map f) : ∃ (hl : pre.length < L.length), x = f L[pre.length] := by
 obtain ⟨t, ht⟩ := h;have h1 : (L.map f)[pre.length]? = some x := by
  rw [← ht, List.append_assoc, List.getElem?_append_right (Nat.le_refl _), Nat.sub_self]; rfl
 rw [List.getElem?_map] at h1;obtain ⟨y, hy, rfl⟩ := Option.map_eq_some_iff.1 h1;obtain ⟨hl, rfl⟩ := List.getElem?_eq_some_iff.1 hy;exact ⟨hl, rfl⟩
theorem yX {f : Ky → Bool} : ∀ {l : List Ky} {n : Nat} {k : Ky}, (∀ x ∈ l.take n, f x = false) → l[n]? = some k → f k = true → l.find? f = some k
 | y :: l, 0, k, _, hk, hf => by
  rw [List.getElem?_cons_zero] at hk;obtain rfl := Option.some.inj hk;rw [List.find?_cons, hf]
 | y :: l, n + 1, k, hn, hk, hf => by
  rw [List.getElem?_cons_succ] at hk;rw [List.find?_cons, hn y (by simp)];exact yX (fun x hx => hn x (by rw [List.take_succ_cons]; exact List.mem_cons_of_mem _ hx)) hk hf
theorem kr {f : Ky → Bool} {l : List Ky} (h : ∀ x ∈ l, f x = false) : l.find? f = none := by
 rw [List.find?_eq_none];intro x hx;rw [h x hx]; decide
theorem jl {now : Int} {I : List It} {e : De} (h : e ∈ upto now (I.map It.de)) : e.k ∈ keys I := by
 unfold upto at h;have h1 := (List.mem_filter.1 h).1;have h2 := (yL (key := Ul) (I.map It.de)).mem_iff.1 h1;obtain ⟨i, hi, rfl⟩ := List.mem_map.1 h2;exact List.mem_map.2 ⟨i, hi, rfl⟩
theorem KM {S : Ss} {W : List En} {D : List (Option Bt)} {L : List Nm} (hq : Sq S W D L) {k : Ky} (h : k ∈ keys S.I) : ∃ e, Ym W k = some e ∧ e ∈ W ∧ wG S.I k = some e.i ∧ free S.I k = decide (e.i.pins = 0) := by
 cases hb : wG S.I k with
 | none => exact absurd h (ZJ.1 hb)
 | some i =>
  obtain ⟨e, hf, he, rfl, _⟩ := UE hq hb;exact ⟨e, hf, he, rfl, by unfold free; rw [hb]⟩
theorem gV {now : Int} {S : Ss} {n : Nat} {e : De} (hn : ∀ x ∈ (upto now (S.I.map It.de)).take n, free S.I x.k = false) (he : (upto now (S.I.map It.de))[n]? = some e) (hf : free S.I e.k = true) : wN now S = some e.k := by
 unfold wN due;rw [List.find?_append];have : ((upto now (S.I.map It.de)).map (·.k)).find? (free S.I) = some e.k := yX (n := n) (fun x hx => by
  rw [← List.map_take] at hx;obtain ⟨y, hy, rfl⟩ := List.mem_map.1 hx;exact hn y hy) (by rw [List.getElem?_map, he]; rfl) hf
 rw [this]; rfl
theorem gU {now : Int} {S : Ss} (hn : ∀ x ∈ upto now (S.I.map It.de), free S.I x.k = false) : wN now S = (S.P ++ S.Q).find? (free S.I) := by
 unfold wN due;rw [List.find?_append];have : ((upto now (S.I.map It.de)).map (·.k)).find? (free S.I) = none := kr fun x hx => by
  obtain ⟨y, hy, rfl⟩ := List.mem_map.1 hx;exact hn y hy
 rw [this]; rfl
theorem YC {α : Type} {L : List α} {n : Nat} (h : n < L.length) {p : α → Prop} (hp : ∀ x ∈ L.take n, p x) (hx : p L[n]) : ∀ x ∈ L.take (n + 1), p x := fun x hx' => by
 rw [List.take_succ_eq_append_getElem h] at hx';rcases List.mem_append.1 hx' with h1 | h1
 ·exact hp x h1
 ·rw [List.mem_singleton.1 h1]; exact hx
abbrev AO (p2 p4 p5 sb : Nat) (k : Ky) (b : Bool) : zx := [[(p2, .cells #[.pointer (some ⟨sb, 0, none⟩)] 63)], [(p4, .cells (Wo k) 43)], [(p5, .cells #[.bool b] 4)]]
theorem sF {sb N : Nat} {S : Ss} {H : List Chunk} (hS : Sr sb N S H) (now : Int) :
 Tri Tryz.prog 78 #[.pointer (some ⟨sb, 0, none⟩), .int .i64 now] [H] (fun r S' => r = .tuple #[.agg (Wo ((wN now S).getD ⟨[], 0⟩)), .bool (wN now S).isSome] ∧ S' = [H]) := by
 have hnb := hS.nb;obtain ⟨W, D, L, ab, tb, mb, lb, db, ev, HA, HT, HM, HL, HD, HV, h, rfl⟩ := hS;refine Tri.forget (Tri.lW (zq Tryz.GU (Nat.le_of_ble_eq_true rfl) ?_));unfold Tryz.IZ;refine ze (z8 ?_);refine zh (lV (Ju rfl) fun p2 => ?_);refine zh (Ze fun p4 => ?_);refine zh (Ze fun p5 => ?_);refine zf (za (ze (ze (z8 ?_))));refine zh (zC rfl rfl ?_);refine yp (zJ rfl) (yp (zu rfl) ?_);refine zh (zC rfl rfl ?_);refine yp (pI rfl) ?_;refine zh (zk iq rfl rfl fun r S' h => ?_);obtain ⟨bd, ba, rfl, rfl⟩ := h;refine zf (za (zo ?_));have hdl : (S.I.map It.de).length < 2 ^ 38 := by rw [List.length_map]; omega
 have hmemT : ∀ {e : En}, e ∈ W → ∀ {X : zx}, J9 e ∈ X ++ Es W := fun he X => List.mem_append.2 (.inr (Xi he))
 refine y5 (fun pre T => (∀ x ∈ (upto now (S.I.map It.de)).take pre.length, free S.I x.k = false) ∧ zB T (AO p2 p4 p5 sb ⟨[], 0⟩ false ++ (wm sb ab tb mb lb db ev :: HA :: HT :: HM :: HL :: HD :: HV :: Es W)))
  (fun e pre T => e = .ret ∧ ∃ k, wN now S = some k ∧ zB T (AO p2 p4 p5 sb k true ++ (wm sb ab tb mb lb db ev :: HA :: HT :: HM :: HL :: HD :: HV :: Es W)))
  rfl rfl (jW (db := db) (bd := bd) (ba := ba) (S0 := AO p2 p4 p5 sb ⟨[], 0⟩ false ++ (wm sb ab tb mb lb db ev :: HA :: HT :: HM :: HL :: HV :: Es W)) h.d hdl now) ⟨by simp, .of⟩ ?_ ?_ ?_ ?_
 ·intro pre x hx;obtain ⟨_, rfl⟩ := pfx hx;rfl
 ·rintro l pre x T hx ⟨hn, hJ⟩;obtain ⟨hl, rfl⟩ := pfx hx;have hm := List.getElem_mem hl;have hg : (upto now (S.I.map It.de))[pre.length]? = some (upto now (S.I.map It.de))[pre.length] := List.getElem?_eq_getElem hl;have hst := YC hl hn;generalize (upto now (S.I.map It.de))[pre.length] = d at hm hg hst;obtain ⟨e, hf, he, hb, hfr⟩ := KM h.q (jl hm);refine zm hJ (z8 ?_);refine zh (Ze fun p6 => ?_);refine zh (WK rfl rfl rfl rfl rfl ?_);refine zf (za (zo (ze (zZ (Z6 rfl rfl (zi (zJ rfl) (zi (zu rfl) (Z6 rfl rfl (WJ rfl rfl ?_)))))))));refine Zl (Vz h.m (by repeat (first | exact List.mem_cons_self | apply List.mem_cons_of_mem)) d.k UR o7 rJ rfl rfl (Ja hf) ⟨fun _ h => h, ?_⟩) zP;refine zi (zJ rfl) (zi (zu rfl) (mo (v := .int .i64 e.i.pins) (by repeat (first | exact Xi he | apply List.mem_cons_of_mem)) rfl rfl (zi (vB rfl rfl) (zL (za ?_)))));by_cases hp : e.i.pins = 0
  ·rw [decide_eq_true hp] at hfr ⊢;have hnx := gV hn hg hfr;refine zG rfl (ze (z8 ?_));refine zh (Zx rfl rfl ?_);refine zh (WK rfl rfl rfl rfl rfl ?_);refine zh (ZL rfl rfl (AL rfl) ?_);refine zf (za (zI (bret ?_)));exact ⟨rfl, d.k, hnx, .of⟩
  ·rw [decide_eq_false hp] at hfr ⊢;refine zy rfl (zn (zS ?_));exact ⟨by rw [List.length_append]; exact hst hfr, .of⟩
 ·rintro xs S' hd ⟨hn, hJ⟩;have hxl : xs.length = (upto now (S.I.map It.de)).length := by rw [hd, List.length_map]
  rw [hxl, List.take_length] at hn;have hnx := gU (now := now) (S := S) hn;refine zS (za ?_);refine zm hJ (ze (ze (z8 ?_)));refine zh (zC rfl rfl ?_);refine yp (zJ rfl) (yp (zu rfl) ?_);refine zh (zC rfl rfl ?_);refine zh (zk nW rfl rfl fun r S' h => ?_);obtain ⟨bl, rfl, rfl⟩ := h;refine zf (za (zo ?_));refine y5 (fun pre T => (∀ x ∈ (S.P ++ S.Q).take pre.length, free S.I x = false) ∧ zB T (AO p2 p4 p5 sb ⟨[], 0⟩ false ++ (wm sb ab tb mb lb db ev :: HA :: HT :: HM :: HL :: HD :: HV :: Es W)))
   (fun e pre T => e = .ret ∧ ∃ k, wN now S = some k ∧ zB T (AO p2 p4 p5 sb k true ++ (wm sb ab tb mb lb db ev :: HA :: HT :: HM :: HL :: HD :: HV :: Es W)))
   rfl rfl (aZ (bl := bl) (S0 := AO p2 p4 p5 sb ⟨[], 0⟩ false ++ (wm sb ab tb mb lb db ev :: HA :: HT :: HM :: HD :: HV :: Es W)) h.l (by omega) (by omega)) ⟨by simp, .of⟩ ?_ ?_ ?_ ?_
  ·intro pre x hx;obtain ⟨_, rfl⟩ := pfx hx;rfl
  ·rintro l pre x T hx ⟨hn2, hJ⟩;obtain ⟨hl, rfl⟩ := pfx hx;have hm := List.getElem_mem hl;have hg : (S.P ++ S.Q)[pre.length]? = some (S.P ++ S.Q)[pre.length] := List.getElem?_eq_getElem hl;have hst := YC hl hn2;generalize (S.P ++ S.Q)[pre.length] = d at hm hg hst;obtain ⟨e, hf, he, hb, hfr⟩ := KM h.q (h.q.pq.mem_iff.1 hm);refine zm hJ (z8 ?_);refine zh (Ze fun p7 => ?_);refine zh (WK rfl rfl rfl rfl rfl ?_);refine zf (za (zo (ze (zZ (Z6 rfl rfl (zi (zJ rfl) (zi (zu rfl) (Z6 rfl rfl (WJ rfl rfl ?_)))))))));refine Zl (Vz h.m (by repeat (first | exact List.mem_cons_self | apply List.mem_cons_of_mem)) d UR o7 rJ rfl rfl (Ja hf) ⟨fun _ h => h, ?_⟩) zP;refine zi (zJ rfl) (zi (zu rfl) (mo (v := .int .i64 e.i.pins) (by repeat (first | exact Xi he | apply List.mem_cons_of_mem)) rfl rfl (zi (vB rfl rfl) (zL (za ?_)))));by_cases hp : e.i.pins = 0
   ·rw [decide_eq_true hp] at hfr ⊢;refine zG rfl (ze (z8 ?_));refine zh (Zx rfl rfl ?_);refine zh (WK rfl rfl rfl rfl rfl ?_);refine zh (ZL rfl rfl (AL rfl) ?_);refine zf (za (zI (bret ?_)));exact ⟨rfl, d, by rw [hnx]; exact yX hn2 hg hfr, .of⟩
   ·rw [decide_eq_false hp] at hfr ⊢;refine zy rfl (zn (zS ?_));exact ⟨by rw [List.length_append]; exact hst hfr, .of⟩
  ·rintro xs S' hd ⟨hn2, hJ⟩;have hxl : xs.length = (S.P ++ S.Q).length := by rw [hd, List.length_map]
   rw [hxl, List.take_length] at hn2;rw [kr hn2] at hnx;refine zS (za ?_);refine zm hJ (ze (z8 (yp uo ?_)));refine zh (WK rfl rfl rfl rfl rfl ?_);refine zh (ZL rfl rfl (AL rfl) ?_);refine zf (za (zI ?_));rw [hnx];exact zH (x8 (eP (b := p4) oF Q9 rfl rfl) (FH (b := p5) AA rfl)) ⟨_, zB.sp, rfl, rfl⟩
  ·rintro e pre S' _ ⟨rfl, k, hk, hJ⟩;rw [hk];refine bret (zU ?_);exact zH (YM hJ (x8 (eP (b := p4) oF Q9 rfl rfl) (FH (b := p5) AA rfl))) ⟨_, hJ.trans zB.sp, rfl, rfl⟩
 ·rintro e pre S' _ ⟨rfl, k, hk, hJ⟩;rw [hk];refine bret (zU ?_);exact zH (YM hJ (x8 (eP (b := p4) oF Q9 rfl rfl) (FH (b := p5) AA rfl))) ⟨_, hJ.trans zB.sp, rfl, rfl⟩
end Go.Proofs.YtejmbmenbailmaaGreat
namespace Go.Proofs.YtejmbmenbailmaaGreat
open Go.Xs
open Enc (enc)
instance (priority := low) Sub.appSuf {A S : zx} : Sub (A ++ S) S A := ⟨by rw [List.flatten_append]; exact List.perm_append_comm⟩
theorem zB.M8 {sb ab tb mb lb db : Nat} {ev : Value} {HA HT HM HL HD HV : List Chunk} {W : List En} {S0 : zx} : zB (sH sb ab tb mb lb db ev HA HT HM HL HD HV W :: S0) (wm sb ab tb mb lb db ev :: HA :: HT :: HM :: HL :: HD :: HV :: (Es W ++ S0)) := ⟨[], by simp [sH]⟩
theorem zB.add {x : List Chunk} {S G S0 : zx} {sb ab tb mb lb db : Nat} {ev : Value} {HA HT HM HL HD HV : List Chunk} {W : List En} {e : En} (hx : x = J9 e) [h : Sub S (x :: wm sb ab tb mb lb db ev :: HA :: HT :: HM :: HL :: HD :: HV :: (Es W ++ S0)) G] :
 zB S (sH sb ab tb mb lb db ev HA HT HM HL HD HV (W ++ [e]) :: S0) := zB.trans (zB.of (h := h)) ⟨[], by
 subst hx;have e1 : Es (W ++ [e]) = Es W ++ [J9 e] := qQ W [e];simp only [sH, e1, List.flatten_cons, List.flatten_nil, List.flatten_append, List.append_nil, List.append_assoc];have := (xq [] (wm sb ab tb mb lb db ev ++ (HA ++ (HT ++ (HM ++ (HL ++ (HD ++ (HV ++ (Es W).flatten))))))) (J9 e) S0.flatten).symm;simpa only [List.nil_append, List.append_assoc] using this⟩
theorem zB.Ma {x y : List Chunk} {S G S0 : zx} {sb ab tb mb lb db : Nat} {ev : Value} {HA HT HM HL HD HV : List Chunk} {W : List En} [h : Sub S (x :: y :: wm sb ab tb mb lb db ev :: HA :: HT :: HM :: HL :: HD :: HV :: (Es W ++ S0)) G] : zB S (x :: y :: sH sb ab tb mb lb db ev HA HT HM HL HD HV W :: S0) := zB.trans (zB.of (h := h)) ⟨[], by simp [sH]⟩
theorem zB.Mj {S G S0 : zx} {sb ab tb mb lb db : Nat} {ev : Value} {HA HT HM HL HD HV : List Chunk} {W : List En} [h : Sub S (wm sb ab tb mb lb db ev :: HA :: HT :: HM :: HL :: HD :: HV :: (Es W ++ S0)) G] : zB S (sH sb ab tb mb lb db ev HA HT HM HL HD HV W :: S0) := zB.trans (zB.of (h := h)) ⟨[], by simp [sH]⟩
theorem Tri.op {P : Program} {f : FuncId} {args : Array Value} {R : Value → zx → Prop} {sb ab tb mb lb db : Nat} {ev : Value} {HA HT HM HL HD HV : List Chunk} {W : List En} (h : Tri P f args [sH sb ab tb mb lb db ev HA HT HM HL HD HV W] R) : Tri P f args (wm sb ab tb mb lb db ev :: HA :: HT :: HM :: HL :: HD :: HV :: Es W) R := h.perm (by simp [sH])
theorem mP {sb ab tb mb lb db N : Nat} {ev : Value} {D : List (Option Bt)} {HA : List Chunk} (hA : Ar ab N D HA) : Tri Tryz.prog 37 #[.pointer (some ⟨sb, 0, none⟩)] [wm sb ab tb mb lb db ev, HA] (fun r S' => r = .int .i64 ((N - Zd D : Nat) : Int) ∧ S' = [wm sb ab tb mb lb db ev, HA]) := by
 refine Tri.forget (zq Tryz.Dr (Nat.le_of_ble_eq_true rfl) ?_);unfold Tryz.FU;refine ze (z8 (yp pC (zf (za (ze (ze (z8 (yp (pP rfl) (yp (ZN rfl rfl) (zf (za (zy rfl (zn (za (ze (z8 (yp (pP rfl) (yp (zJ rfl) (yp (zu rfl) ?_)))))))))))))))))));refine zh (zC rfl rfl ?_);refine zh (zk (aB hA) rfl rfl fun r S' h => ?_);obtain ⟨rfl, rfl⟩ := h;refine yp (pI rfl) (zf (za (zI ?_)));exact zH (rI rfl) ⟨_, .of, rfl, rfl⟩
theorem KD {now : Int} {S : Ss} {k : Ky} (h : wN now S = some k) : ∃ i, wG S.I k = some i ∧ i.pins = 0 := by
 have hf := List.find?_some h;unfold free at hf;cases hb : wG S.I k with
 | none => rw [hb] at hf; cases hf
 | some i => rw [hb] at hf; exact ⟨i, rfl, of_decide_eq_true hf⟩
theorem VP {I : List It} (hn : (keys I).Nodup) {k : Ky} {i : It} (h : wG I k = some i) : I.length = (Wx I k).length + 1 := by
 obtain ⟨hi, rfl⟩ := u7 h;clear h
 induction I with
 | nil => simp at hi
 | cons j I ih =>
  have hn2 := List.nodup_cons.1 hn;unfold Wx at ih ⊢;rw [List.filter_cons];by_cases hj : j.k = i.k
  ·rw [if_neg (by simp [hj]), List.filter_eq_self.2, List.length_cons];intro y hy;have : y.k ≠ i.k := fun q => hn2.1 (List.mem_map.2 ⟨y, hy, q.trans hj.symm⟩)
   simpa using this
  ·rw [if_pos (by simp [hj]), List.length_cons, List.length_cons, ih hn2.2 ?_];rcases List.mem_cons.1 hi with rfl | hi
   ·exact absurd rfl hj
   ·exact hi
theorem QY {I : List It} {k k' : Ky} (h : wG I k = none) : wG (Wx I k') k = none := by
 rw [ZJ] at h ⊢;rw [Vf];exact fun hm => h (List.mem_filter.1 hm).1
theorem Jg (I : List It) (k : Ky) : wG (Wx I k) k = none := by
 rw [ZJ, Vf];intro hm;have := (List.mem_filter.1 hm).2;simp at this
theorem jF {N : Nat} {K k : Ky} {s : St} {rank now exp : Int} {S : Ss} {i : It} (hn : (keys S.I).Nodup) (h : uV N S < uL (sets S.I) s) (hk : wN now S = some k) (hb : wG S.I k = some i) : Uw N K s rank now exp S = Uw N K s rank now exp (Xb k S) := by
 have hl := VP hn hb;unfold Uw;have e1 : uS N now s S.I.length S = uS N now s (Xb k S).I.length (Xb k S) := by
  rw [hl, uS, if_pos h, hk]; rfl
 rw [e1]
theorem eG {N : Nat} {K : Ky} {s : St} {rank now exp : Int} {S : Ss} (h : uV N S < uL (sets S.I) s) (hk : wN now S = none) : Uw N K s rank now exp S = (S, 4) := by
 unfold Uw;have e1 : uS N now s S.I.length S = (S, false) := by
  cases S.I.length with
  | zero => rw [uS, decide_eq_false (by omega)]
  | succ n => rw [uS, if_pos h, hk]
 rw [e1]
theorem eF {N : Nat} {K : Ky} {s : St} {rank now exp : Int} {S : Ss} (h : ¬ uV N S < uL (sets S.I) s) : Uw N K s rank now exp S = (⟨S.I ++ [⟨K, s, rank, now, exp, 0⟩], S.P ++ [K], S.Q, S.V⟩, 0) := by
 unfold Uw;have e1 : uS N now s S.I.length S = (S, true) := by
  cases S.I.length with
  | zero => rw [uS, decide_eq_true (by omega)]
  | succ n => rw [uS, if_neg h]
 rw [e1]
theorem Sr.kn {sb N : Nat} {S : Ss} {H : List Chunk} (h : Sr sb N S H) : (keys S.I).Nodup := by
 obtain ⟨W, D, L, ab, tb, mb, lb, db, ev, HA, HT, HM, HL, HD, HV, h, rfl⟩ := h;exact h.q.kn
abbrev fH (p6 : Nat) (s : St) (v : Value) : List Chunk := [(p6, .cells (bX s v) 46)]
abbrev iA (p : Nat) (k : Ky) : List Chunk := [(p, .cells (Wo k) 43)]
set_option maxRecDepth 10000 in
set_option maxHeartbeats 1000000 in
theorem jy {sb N : Nat} {S : Ss} {H : List Chunk} {S0 : zx} {s : St} {v : Value} (hS : Sr sb N S H) (hs : Jr s) (hv : Src S0 v s.rrs) (hV : S.V.length + S.I.length < 2 ^ 30) (rank now exp : Int) :
 Tri Tryz.prog 29 #[.pointer (some ⟨sb, 0, none⟩), .agg (bX s v), .int .i64 rank, .int .i64 now, .int .i64 exp] (H :: S0) (fun r S' => r = .int .i64 (VO N s rank now exp S).2 ∧ ∃ H', Sr sb N (VO N s rank now exp S).1 H' ∧ S' = H' :: S0) := by
 have hsn := hs.name;refine Tri.forget (zq Tryz.Im (Nat.le_of_ble_eq_true rfl) ?_);unfold Tryz.x29;obtain ⟨va, vc, rfl⟩ := hv.isSlice;refine ze (z8 ?_);refine zh (Zq rfl fun p6 => ?_);refine yp pC (zf (za (ze (ze (z8 ?_)))));refine zh (Zx rfl rfl ?_);refine zh (zk (Kr hs hv) rfl rfl fun r S' h => ?_);obtain ⟨rfl, h⟩ := h;have h := h.symm;subst h;rcases Decidable.em (wF s ≠ 0) with hE | hE
 ·have hP : VO N s rank now exp S = (S, wF s) := by unfold VO; rw [if_pos hE]
  rw [hP];refine yp (pU rfl) (yp (pExt rfl rfl) (yp (pExt rfl rfl) (yp (pI rfl) (yp (pI rfl) (zf (za (ze (z8 (yp (pI rfl) (yp (Uq rfl rfl) (zf (za ?_))))))))))));rw [decide_eq_false hE];refine zG rfl (ze (z8 (yp (pI rfl) (yp (pI rfl) (zf (za (zI (zU ?_))))))));exact zH (rI rfl) ⟨_, .of, rfl, _, hS, rfl⟩
 have hE := Decidable.not_not.1 hE;have hP0 : VO N s rank now exp S = if Yu rank now exp = false then (S, 1) else JV N s rank now exp S := by unfold VO; rw [if_neg (by rw [hE]; decide)]
 rw [hE];refine yp (pU rfl) (yp (pExt rfl rfl) (yp (pExt rfl rfl) (yp (pI rfl) (yp (pI rfl) (zf (za (ze (z8 (yp (pI rfl) (yp (Uq rfl rfl) (zf (za (zy rfl (zn (za ?_)))))))))))))));refine Xk (fun E S' => Has E [(0, .pointer (some ⟨sb, 0, none⟩)), (2, .int .i64 rank), (3, .int .i64 now), (4, .int .i64 exp), (6, .pointer (some ⟨p6, 0, none⟩))] ∧ Yu rank now exp = true ∧ zB S' (fH p6 s (.slice va s.rrs.length vc) :: H :: S0)) ?_ fun E S' ⟨hE2, hok, hJ⟩ => ?_
 ·have hbad : Yu rank now exp = false → VO N s rank now exp S = (S, 1) := fun h => by rw [hP0, if_pos h]
  refine ze (z8 (yp (pI rfl) ?_));refine zh (zk (UW now 1099511627776) rfl rfl fun r S' h => ?_);obtain ⟨rfl, rfl⟩ := h;cases h1 : j5 now 1099511627776 with
  | false =>
   rw [hbad (by unfold Yu; rw [h1]; rfl)];refine yp (Zg rfl) (yp (pB rfl) (zV rfl (zV rfl (zV rfl (yp (zM rfl rfl) (yp (pB rfl) (zV rfl (zV rfl (zV rfl (yp (zM rfl rfl) (yp (pB rfl) (zV rfl (zV rfl (zV rfl (yp (zM rfl rfl) (zf (za (zG rfl (ze (z8 (yp pC (zf (za (zI (zU ?_)))))))))))))))))))))))));exact zH (rI rfl) ⟨_, .of, rfl, _, hS, rfl⟩
  | true =>
   refine yp (Zg rfl) (yp (pB rfl) (Z4 rfl (Z9 (pI rfl) (Z4 rfl ?_))));refine zk (UW exp 1099511627776) rfl rfl fun r S' h => ?_
   obtain ⟨rfl, rfl⟩ := h;cases h2 : j5 exp 1099511627776 with
   | false =>
    rw [hbad (by unfold Yu; rw [h1, h2]; rfl)];refine Z4 rfl (Z9 (Zg rfl) (yp (zQ rfl rfl) (yp (pB rfl) (zV rfl (zV rfl (zV rfl (yp (zM rfl rfl) (yp (pB rfl) (zV rfl (zV rfl (zV rfl (yp (zM rfl rfl) (zf (za (zG rfl (ze (z8 (yp pC (zf (za (zI (zU ?_))))))))))))))))))))));exact zH (rI rfl) ⟨_, .of, rfl, _, hS, rfl⟩
   | true =>
    refine Z4 rfl (Z9 (Zg rfl) (yp (zQ rfl rfl) (yp (pB rfl) (Z4 rfl (Z9 (pI rfl) (Z4 rfl (Z9 (pI rfl) (Z4 rfl (Z9 (jO rfl rfl) (yp (zQ rfl rfl) (yp (pB rfl) ?_)))))))))));by_cases h3 : exp ≤ now
    ·rw [hbad (by unfold Yu; rw [h1, h2, decide_eq_true h3]; rfl)];rw [decide_eq_true h3];refine zV rfl (zV rfl (zV rfl (yp (zM rfl rfl) (zf (za (zG rfl (ze (z8 (yp pC (zf (za (zI (zU ?_)))))))))))));exact zH (rI rfl) ⟨_, .of, rfl, _, hS, rfl⟩
    ·rw [decide_eq_false h3];refine Z4 rfl (Z9 (pI rfl) (Z4 rfl ?_));refine zk (UW rank 9) rfl rfl fun r S' h => ?_
     obtain ⟨rfl, rfl⟩ := h;cases h4 : j5 rank 9 with
     | false =>
      rw [hbad (by unfold Yu; rw [h4]; simp)];refine Z4 rfl (Z9 (Zg rfl) (yp (zQ rfl rfl) (zf (za (zG rfl (ze (z8 (yp pC (zf (za (zI (zU ?_))))))))))));exact zH (rI rfl) ⟨_, .of, rfl, _, hS, rfl⟩
     | true =>
      refine Z4 rfl (Z9 (Zg rfl) (yp (zQ rfl rfl) (zf (za (zy rfl (zn (za ?_)))))));exact ⟨⟨rfl, rfl, rfl, rfl, rfl, trivial⟩, by unfold Yu; rw [h1, h2, decide_eq_false h3, h4]; rfl, .of⟩
 rw [hok, if_neg (by decide)] at hP0;obtain ⟨E0, e0⟩ := zw hE2; subst e0; clear hE2;refine zm hJ (ze (ze (z8 (yp (pP rfl) (yp (ZN rfl rfl) (zf (za (zy rfl (zn (za (ze (z8 (yp (zu rfl) ?_)))))))))))));refine zh (ZT (l := [sv s.name, .int .i64 s.typ]) rfl rfl rfl ?_);refine zh (zk (Ka ⟨s.name, s.typ⟩ (by show s.name.length < _; omega)) rfl rfl fun r S' h => ?_);obtain ⟨rfl, rfl⟩ := h;show YL _ _ _ _ _ (Zf _ (.agg (Wo (Z8 s))) _) _;refine zh (Ze fun p13 => ?_);refine zh (WK rfl rfl rfl rfl rfl ?_);refine zf (za ?_);refine Xk (fun E S' => Has E [(0, .pointer (some ⟨sb, 0, none⟩)), (2, .int .i64 rank), (3, .int .i64 now), (4, .int .i64 exp), (6, .pointer (some ⟨p6, 0, none⟩)), (13, .pointer (some ⟨p13, 0, none⟩))] ∧ ∃ S1 H1, Sr sb N S1 H1 ∧ wG S1.I (Z8 s) = none ∧ VO N s rank now exp S = Uw N (Z8 s) s rank now exp S1 ∧ S1.V.length + S1.I.length < 2 ^ 30 ∧ zB S' (iA p13 (Z8 s) :: fH p6 s (.slice va s.rrs.length vc) :: H1 :: S0)) ?_ fun E S' ⟨hE2, S1, H1, hS1, hb1, hP1, hV1, hJ⟩ => ?_
 ·have hS' := hS;obtain ⟨W, D, L, ab, tb, mb, lb, db, ev, HA, HT, HM, HL, HD, HV, h, rfl⟩ := hS;refine zm (S0 := iA p13 (Z8 s) :: fH p6 s (.slice va s.rrs.length vc) :: sH sb ab tb mb lb db ev HA HT HM HL HD HV W :: S0) zB.of (zm (zB.cons (zB.cons zB.M8)) (ze (zZ (zi (pP rfl) (zi (zJ rfl) (zi (zu rfl) (Z6 rfl rfl (WJ rfl rfl ?_))))))));cases hb : wG S.I (Z8 s) with
  | none =>
   refine zN (Vz h.m (by repeat (first | exact List.mem_cons_self | apply List.mem_cons_of_mem)) (Z8 s) UR o7 rJ rfl rfl (Fh (Xa h.q hb)) ?_) zP;refine zi (pP rfl) (zL (za (ze (z8 (yp (pP rfl) (yp (Kv rfl rfl) (zf (za (zy rfl (zn (za ?_)))))))))));exact ⟨⟨rfl, rfl, rfl, rfl, rfl, rfl, trivial⟩, S, _, hS', hb, hP0.trans (Ua hb), hV, zB.Ma⟩
  | some i =>
   have hP1 := hP0.trans (YP hb);obtain ⟨e, hf, he, rfl, hek⟩ := UE h.q hb;refine zN (Vz h.m (by repeat (first | exact List.mem_cons_self | apply List.mem_cons_of_mem)) (Z8 s) UR o7 rJ rfl rfl (Ja hf) ?_) zP;refine zi (pP rfl) (zL (za (ze (z8 (yp (pP rfl) (yp (Kv rfl rfl) (zf (za (zG rfl (ze (ze (z8 (yp (pP rfl) (yp (zJ rfl) (yp (zu rfl) ?_)))))))))))))));refine zh (uO (v := .int .i64 e.i.pins) (by repeat (first | exact List.mem_append.2 (.inl (Xi he)) | apply List.mem_cons_of_mem)) rfl rfl ?_);refine yp (VE rfl rfl) (zf (za ?_));by_cases hp : 0 < e.i.pins
   ·rw [decide_eq_true hp];rw [if_pos hp] at hP1;rw [hP1];refine zG rfl (ze (z8 (yp pC (zf (za (zI (zU (zU ?_))))))));exact zH (rI rfl) ⟨_, zB.Mj, rfl, _, hS', rfl⟩
   ·rw [decide_eq_false hp];rw [if_neg hp] at hP1;refine zy rfl (zn (za (z8 (yp (pP rfl) ?_))));refine zh (Zx rfl rfl ?_);refine zh (zk (Tri.op (JL hS' hb)) rfl rfl fun r S' h => ?_);obtain ⟨rfl, H1, hS1, rfl⟩ := h;refine zf (za ?_);have hol := VP hS'.kn hb;exact ⟨⟨rfl, rfl, rfl, rfl, rfl, rfl, trivial⟩, _, H1, hS1, Jg _ _, hP1, by show S.V.length + (Wx S.I (Z8 s)).length < _; omega, .of⟩
 rw [hP1];clear hP1 hP0 hS hV;obtain ⟨E0, e0⟩ := zw hE2; subst e0; clear hE2;refine zm hJ ?_;generalize hR : Uw N (Z8 s) s rank now exp S1 = R;refine ze (zo ?_);refine Z5 (σ := Ss) (fun S2 E S' => Has E [(0, .pointer (some ⟨sb, 0, none⟩)), (2, .int .i64 rank), (3, .int .i64 now), (4, .int .i64 exp), (6, .pointer (some ⟨p6, 0, none⟩)), (13, .pointer (some ⟨p13, 0, none⟩))] ∧ wG S2.I (Z8 s) = none ∧ Uw N (Z8 s) s rank now exp S2 = R ∧ S2.V.length + S2.I.length < 2 ^ 30 ∧ ∃ H2, Sr sb N S2 H2 ∧ zB S' (iA p13 (Z8 s) :: fH p6 s (.slice va s.rrs.length vc) :: H2 :: S0)) (fun S2 => S2.I.length) S1 ⟨⟨rfl, rfl, rfl, rfl, rfl, rfl, trivial⟩, hb1, hR, hV1, H1, hS1, .of⟩ fun S2 E S' ⟨hE2, hb2, hP2, hV2, H2, hS2, hJ⟩ => ?_
 clear hS1 hb1 hV1 hR;have hS2' := hS2;obtain ⟨W, D, L, ab, tb, mb, lb, db, ev, HA, HT, HM, HL, HD, HV, h, rfl⟩ := hS2;have hnb := h.nb;obtain ⟨E0, e0⟩ := zw hE2; subst e0; clear hE2;refine zm hJ (zm (zB.cons (zB.cons zB.M8)) (ze (ze (zZ (zi (pP rfl) (zi (zJ rfl) (zi (zu rfl) (Z6 rfl rfl (WJ rfl rfl (zi (pP rfl) ?_))))))))));have hv' : Src (Es W ++ S0) (.slice va s.rrs.length vc) s.rrs := Src.mono hv fun _ hs => List.mem_append.2 (.inr hs)
 refine zN (zk (sU (S := Es W ++ S0) h.t hs hv') rfl rfl fun r S' h => ?_) zP;obtain ⟨rfl, rfl⟩ := h;refine zN (zk (mP (sb := sb) (tb := tb) (mb := mb) (lb := lb) (db := db) (ev := ev) h.a) rfl rfl fun r S' h => ?_) zP;obtain ⟨rfl, rfl⟩ := h;rw [h.q.cost, h.q.left];refine zi (VE rfl rfl) (zL (za ?_));by_cases hc : uV N S2 < uL (sets S2.I) s
 ·rw [decide_eq_true hc];refine zG rfl (zn (za (zo ?_)));refine zm (S0 := iA p13 (Z8 s) :: fH p6 s (.slice va s.rrs.length vc) :: sH sb ab tb mb lb db ev HA HT HM HL HD HV W :: S0) ?_ ?_
  ·exact zB.Ma
  refine ze (z8 (yp (pP rfl) (yp (pI rfl) ?_)));refine zh (zk (sF hS2' now) rfl rfl fun r S' h => ?_);obtain ⟨rfl, rfl⟩ := h;cases hn : wN now S2 with
  | none =>
   rw [← hP2, eG hc hn];refine yp (pU rfl) (yp (pExt rfl rfl) (yp (pExt rfl rfl) ?_));refine zh (Ze fun p15 => ?_);refine zh (WK rfl rfl rfl rfl rfl ?_);refine yp (pB rfl) (zf (za (ze (ze (z8 (yp (pB rfl) (yp (Zg rfl) (zf (za (zG rfl (ze (z8 (yp pC (zf (za (zI (zU (bret (zU (bret (zU ?_)))))))))))))))))))));exact zH (rI rfl) ⟨_, .of, rfl, _, hS2', rfl⟩
  | some k =>
   obtain ⟨i, hi, _⟩ := KD hn;refine yp (pU rfl) (yp (pExt rfl rfl) (yp (pExt rfl rfl) ?_));refine zh (Ze fun p15 => ?_);refine zh (WK rfl rfl rfl rfl rfl ?_);refine yp (pB rfl) (zf (za (ze (ze (z8 (yp (pB rfl) (yp (Zg rfl) (zf (za (zy rfl (zn (za (z8 (yp (pP rfl) ?_))))))))))))));refine zh (Zx rfl rfl ?_);refine zh (zk (Qd hS2' hi (by omega)) rfl rfl fun r S' h => ?_);obtain ⟨rfl, H3, hS3, rfl⟩ := h;refine zf (zS (za ?_));have hol := VP hS2'.kn hi;refine ⟨Xb k S2, ⟨⟨rfl, rfl, rfl, rfl, rfl, rfl, trivial⟩, QY hb2, (jF hS2'.kn hc hn hi).symm.trans hP2, ?_, H3, hS3, .of⟩, ?_⟩
   ·show (S2.V ++ [k]).length + (Wx S2.I k).length < _;rw [List.length_append, List.length_singleton]; omega
   ·show (Wx S2.I k).length < _;omega
 ·rw [decide_eq_false hc];have hR := eF (K := Z8 s) (rank := rank) (now := now) (exp := exp) hc;rw [← hP2, hR];have hus := h.q.us hnb.2.1 hnb.1;refine zy rfl (zW (zF (zF (zX (za (ze (zZ (zi (pP rfl) (zi (zJ rfl) (zi (zu rfl) (Z6 rfl rfl (zi (pP rfl) (zi (zJ rfl) (zi (zu rfl) (Z6 rfl rfl (WJ rfl rfl ?_))))))))))))))));refine zN (zk (sP (S := Es W ++ S0) h.t h.a h.q.pk.inn h.q.pk.pos h.q.pk.hs hus hs hv') rfl rfl fun r S' hp => ?_) zP;have hfit : fits N D L s := by
   unfold fits;rw [h.q.cost];have := h.q.left (N := N);omega
  rcases hp with ⟨hp, _⟩ | ⟨_, hp, _⟩ | ⟨_, _, HT1, HA1, D1, rfl, hT1, hA1, hI1, hB1, _, rfl⟩
  ·exact absurd hE hp
  ·exact absurd hfit hp
  have hex := (J7 hE hnb.2.1 ⟨by have := Qe (VZ hE).1; omega, (VZ hE).2⟩ (yG (VZ hE).1)).1 hfit;refine zi (pU rfl) (zi (pExt rfl rfl) (zi (pExt rfl rfl) (zi (pI rfl) (zi (pI rfl) (zL (za (ze (ze (z8 (yp (pI rfl) (yp (Uq rfl rfl) (zf (za (zy rfl (zn (za (ze (zZ (zi (pP rfl) (zi (zJ rfl) (zi (zu rfl) (Z6 rfl rfl (WJ rfl rfl (zi (pI rfl) (zi (pI rfl) (zi (pI rfl) (zi (pI rfl) (zi (v := .agg #[.int .i64 ((hnd (wK N D L (Z7 s)).D : Nat) : Int), .int .i64 rank, .int .i64 now, .int .i64 exp, .int .i64 0]) rfl ?_))))))))))))))))))))))))))));refine Zl (Zq rfl fun p112 => ⟨(by first | exact fun _ h => List.mem_cons_of_mem _ h | simp), ?_⟩) zP;refine zN (oK h.m (Z8 s) (⟨some p112⟩ : Ptr) UR o7 rfl rfl rfl fun HM1 hM1 => ?_) zP;refine zL (za (ze (zZ (zi (pP rfl) (zi (zJ rfl) (zi (zu rfl) (Z6 rfl rfl (WJ rfl rfl ?_))))))));refine zN (zk (D9 h.l (by omega) (by omega) (Z8 s)) rfl rfl fun r S' h => ?_) zP;obtain ⟨rfl, HL1, hL1, rfl⟩ := h;refine zL (za (ze (zZ (zi (pP rfl) (zi (zJ rfl) (zi (zu rfl) (Z6 rfl rfl (WJ rfl rfl (zi (pI rfl) ?_)))))))));refine zN (zk (Da h.d (by rw [List.length_map]; omega) (Z8 s) exp) rfl rfl fun r S' h => ?_) zP;obtain ⟨rfl, HD1, hD1, rfl⟩ := h;refine zL (za (ze (z8 (yp pC (zf (za (zI ?_)))))));have hfn := Xa h.q hb2;have hnk := ZJ.1 hb2;have hnP : ¬ (Z8 s ∈ S2.P ∨ Z8 s ∈ S2.Q) := fun hm => hnk (h.q.pq.mem_iff.1 (List.mem_append.2 hm))
  rw [lT, if_neg hnP] at hL1;rw [qz hb2] at hD1;have hq := h.q.put hE hs hex.1 hI1 hB1 hb2 rank now exp p112;generalize hen : (⟨⟨Z8 s, s, rank, now, exp, 0⟩, ((hnd (wK N D L (Z7 s)).D : Nat) : Int), (wK N D L (Z7 s)).ids, p112⟩ : En) = en at hq;have hM2 : Mp mb (XB (W ++ [en])) (W ++ [en]).length HM1 := by
   have e1 : XB (W ++ [en]) = wP (XB W) (Z8 s) (some (⟨some p112⟩ : Ptr)) := by rw [oz (by rw [← hen]; exact hfn), ← hen]
   have e2 : Xy (XB W) (Z8 s) W.length = (W ++ [en]).length := by
    unfold Xy XB;rw [hfn, List.length_append]; rfl
   rw [e1, ← e2]; exact hM1
  have hD2 : Du db ((S2.I ++ [(⟨Z8 s, s, rank, now, exp, 0⟩ : It)]).map It.de) HD1 := by rw [List.map_append]; exact hD1
  have hse : J9 en = [(p112, .cells #[.int .i64 ((hnd (wK N D L (Z7 s)).D : Nat) : Int), .int .i64 rank, .int .i64 now, .int .i64 exp, .int .i64 0] 137)] := by rw [← hen]
  refine zH (rI rfl) ⟨_, ?_, rfl, _, Sr.mk ⟨hq, hA1, hT1, hM2, hL1, hD2, h.v⟩, rfl⟩;exact zB.add hse.symm
end Go.Proofs.YtejmbmenbailmaaGreat
namespace Go.Proofs.YtejmbmenbailmaaGreat
open Go.Xs
open Enc (enc)
def swp (f : Ss × Nat) (k : Ky) : Ss × Nat := if free f.1.I k = true then (Xb k f.1, f.2 + 1) else f
def UU (now : Int) (S : Ss) (n : Nat) : Ss × Nat := ((due now S.I).take n).foldl swp (S, 0)
def yt (now : Int) (S : Ss) : Ss × Nat := (due now S.I).foldl swp (S, 0)
theorem Xc {now : Int} {I : List It} (h : (keys I).Nodup) : (due now I).Nodup := by
 unfold due upto;have h1 := ((yL (key := Ul) (I.map It.de)).map (·.k)).nodup_iff.2 (by rw [List.map_map]; exact h);exact (List.filter_sublist.map De.k).nodup h1
theorem KP {now : Int} {I : List It} {k : Ky} (h : k ∈ due now I) : k ∈ keys I := by
 obtain ⟨e, he, rfl⟩ := List.mem_map.1 h;exact jl he
structure Mk (now : Int) (S : Ss) (n : Nat) (R : Ss × Nat) : Prop where
 kn : (keys R.1.I).Nodup
 mem : ∀ x ∈ (due now S.I).drop n, x ∈ keys R.1.I
 len : R.1.V.length + R.1.I.length = S.V.length + S.I.length
 cnt : R.2 ≤ n
theorem om {S : Ss} {k : Ky} {i : It} (hn : (keys S.I).Nodup) (h : wG S.I k = some i) : (Xb k S).V.length + (Xb k S).I.length = S.V.length + S.I.length := by
 have := VP hn h;show (S.V ++ [k]).length + (Wx S.I k).length = _;rw [List.length_append, List.length_singleton]; omega
theorem QM {I : List It} {k : Ky} (h : free I k = true) : ∃ i, wG I k = some i ∧ i.pins = 0 := by
 unfold free at h;cases hb : wG I k with
 | none => rw [hb] at h; cases h
 | some i => rw [hb] at h; exact ⟨i, rfl, of_decide_eq_true h⟩
theorem M0 {now : Int} {S : Ss} (hn : (keys S.I).Nodup) : ∀ n, n ≤ (due now S.I).length → Mk now S n (UU now S n)
 | 0, _ => ⟨hn, fun x hx => KP hx, rfl, Nat.le_refl 0⟩
 | n + 1, hl => by
  have ih := M0 (now := now) hn n (by omega);have hl' : n < (due now S.I).length := by omega
  have e1 : UU now S (n + 1) = swp (UU now S n) (due now S.I)[n] := by
   unfold UU;rw [List.take_succ_eq_append_getElem hl', List.foldl_append]; rfl
  have hd : (due now S.I).drop n = (due now S.I)[n] :: (due now S.I).drop (n + 1) := List.drop_eq_getElem_cons hl';have hnd := (List.drop_sublist n _).nodup (Xc (now := now) hn);rw [hd] at hnd;have hnd := (List.nodup_cons.1 hnd).1;have hm := ih.mem;rw [hd] at hm;rw [e1];generalize (due now S.I)[n] = k at *
  generalize UU now S n = R at *
  unfold swp;split
  ·next hf =>
   obtain ⟨i, hb, _⟩ := QM hf;refine ⟨((WC R.1.I k).map _).nodup ih.kn, fun x hx => ?_, (om ih.kn hb).trans ih.len, by show R.2 + 1 ≤ n + 1; have := ih.cnt; omega⟩;show x ∈ keys (Wx R.1.I k);rw [Vf, List.mem_filter];refine ⟨hm x (List.mem_cons_of_mem _ hx), ?_⟩;have : x ≠ k := fun e => hnd (e ▸ hx)
   simpa using this
  ·exact ⟨ih.kn, fun x hx => hm x (List.mem_cons_of_mem _ hx), ih.len, by have := ih.cnt; omega⟩
theorem dU {now : Int} {S : Ss} {n : Nat} (h : n < (due now S.I).length) : UU now S (n + 1) = swp (UU now S n) (due now S.I)[n] := by
 unfold UU;rw [List.take_succ_eq_append_getElem h, List.foldl_append]; rfl
theorem FD : isAgg? Tryz.prog 3 = some false := by kernel_rfl
theorem zB.op2 {x y : List Chunk} {sb ab tb mb lb db : Nat} {ev : Value} {HA HT HM HL HD HV : List Chunk} {W : List En} : zB [x, y, sH sb ab tb mb lb db ev HA HT HM HL HD HV W] (x :: y :: wm sb ab tb mb lb db ev :: HA :: HT :: HM :: HL :: HD :: HV :: Es W) := ⟨[], by simp [sH]⟩
theorem zB.M9 {x y : List Chunk} {S G : zx} {sb ab tb mb lb db : Nat} {ev : Value} {HA HT HM HL HD HV : List Chunk} {W : List En} [h : Sub S (x :: y :: wm sb ab tb mb lb db ev :: HA :: HT :: HM :: HL :: HD :: HV :: Es W) G] : zB S [x, y, sH sb ab tb mb lb db ev HA HT HM HL HD HV W] := zB.trans (zB.of (h := h)) ⟨[], by simp [sH]⟩
abbrev mO (p2 p4 sb c : Nat) : zx := [[(p2, .cells #[.pointer (some ⟨sb, 0, none⟩)] 63)], [(p4, .cells #[.int .i64 (c : Int)] 3)]]
theorem Qc {sb N : Nat} {S : Ss} {H : List Chunk} (hS : Sr sb N S H) (now : Int) (hV : S.V.length + S.I.length < 2 ^ 30) :
 Tri Tryz.prog 41 #[.pointer (some ⟨sb, 0, none⟩), .int .i64 now] [H] (fun r S' => r = .int .i64 ((yt now S).2 : Nat) ∧ ∃ H', Sr sb N (yt now S).1 H' ∧ S' = [H']) := by
 have hnb := hS.nb;have hS0 := hS;have hkn := hS.kn;obtain ⟨W, D, L, ab, tb, mb, lb, db, ev, HA, HT, HM, HL, HD, HV, h, rfl⟩ := hS;refine Tri.forget (Tri.lW (zq Tryz.I9 (Nat.le_of_ble_eq_true rfl) ?_));unfold Tryz.LH;refine ze (z8 ?_);refine zh (lV (Ju rfl) fun p2 => ?_);refine zh (Ze fun p4 => ?_);refine zf (za (ze (ze (z8 ?_))));refine zh (zC rfl rfl ?_);refine yp (ZN rfl rfl) (zf (za (zy rfl (zn (za (ze (ze (z8 ?_))))))));refine zh (zC rfl rfl ?_);refine yp (zJ rfl) (yp (zu rfl) ?_);refine zh (zC rfl rfl ?_);refine yp (pI rfl) ?_;refine zh (zk iq rfl rfl fun r S' h => ?_);obtain ⟨bd, ba, rfl, rfl⟩ := h;refine zf (za (zo ?_));have hdl : (S.I.map It.de).length < 2 ^ 38 := by rw [List.length_map]; omega
 have hdue : (due now S.I).length = (upto now (S.I.map It.de)).length := by unfold due; rw [List.length_map]
 refine y5 (fun pre T => pre.length ≤ (due now S.I).length ∧ ∃ H', Sr sb N (UU now S pre.length).1 H' ∧ zB T (mO p2 p4 sb (UU now S pre.length).2 ++ [H']))
  (fun e pre T => False)
  rfl rfl (jW (db := db) (bd := bd) (ba := ba) (S0 := mO p2 p4 sb 0 ++ (wm sb ab tb mb lb db ev :: HA :: HT :: HM :: HL :: HV :: Es W)) h.d hdl now) ⟨Nat.zero_le _, _, hS0, (show (mO p2 p4 sb (UU now S ([] : List (Array Value)).length).2) = mO p2 p4 sb 0 from rfl) ▸ zB.M9⟩ ?_ ?_ ?_ ?_
 ·intro pre x hx;obtain ⟨_, rfl⟩ := pfx hx;rfl
 ·rintro l pre x T hx ⟨hle, H1, hS1, hJ⟩;obtain ⟨hl, rfl⟩ := pfx hx;have hl2 : pre.length < (due now S.I).length := by omega
  have hI := M0 (now := now) hkn pre.length hle;have hst := dU hl2;have hmem := hI.mem;rw [List.drop_eq_getElem_cons hl2] at hmem;have hk0 : (due now S.I)[pre.length] = (upto now (S.I.map It.de))[pre.length].k := by simp only [due, List.getElem_map]
  rw [hk0] at hst hmem;generalize (upto now (S.I.map It.de))[pre.length] = d at hst hmem;have hkm := hmem d.k (by simp);have hcnt := hI.cnt;have hlen := hI.len;have hpl : (pre ++ [bY d]).length = pre.length + 1 := by rw [List.length_append]; rfl
  generalize UU now S pre.length = R at hS1 hJ hst hkm hcnt hlen;have hle2 : (pre ++ [bY d]).length ≤ (due now S.I).length := by omega
  have hS1' := hS1;obtain ⟨W1, D1, L1, ab1, tb1, mb1, lb1, db1, ev1, HA1, HT1, HM1, HL1, HD1, HV1, h1, rfl⟩ := hS1;obtain ⟨e, hf, he, hb, hfr⟩ := KM h1.q hkm;refine zm hJ (zm zB.op2 (z8 ?_));refine zh (Ze fun p5 => ?_);refine zh (WK rfl rfl rfl rfl rfl ?_);refine zf (za (zo (ze (zZ (Z6 rfl rfl (zi (zJ rfl) (zi (zu rfl) (Z6 rfl rfl (WJ rfl rfl ?_)))))))));refine Zl (Vz h1.m (by repeat (first | exact List.mem_cons_self | apply List.mem_cons_of_mem)) d.k UR o7 rJ rfl rfl (Ja hf) ⟨fun _ h => h, ?_⟩) zP;refine zi (zJ rfl) (zi (zu rfl) (mo (v := .int .i64 e.i.pins) (by repeat (first | exact Xi he | apply List.mem_cons_of_mem)) rfl rfl (zi (vB rfl rfl) (zL (za ?_)))));by_cases hp : e.i.pins = 0
  ·rw [decide_eq_true hp] at hfr ⊢;have e1 : swp R d.k = (Xb d.k R.1, R.2 + 1) := by unfold swp; rw [if_pos hfr]
   refine zG rfl (ze (z8 ?_));refine zh (zC rfl rfl ?_);refine zh (Zx rfl rfl ?_);refine zh (zk (Tri.op (Qd hS1' hb (by omega))) rfl rfl fun r S' h => ?_);obtain ⟨rfl, H2, hS2, rfl⟩ := h;have hR2 : R.2 < 2 ^ 40 := by
    have : (due now S.I).length ≤ S.I.length := by
     have := (Xc (now := now) hkn).length_le_of_subset (fun x hx => KP hx : due now S.I ⊆ keys S.I);unfold keys at this;rw [List.length_map] at this;exact this
    omega
   refine zf (za (z8 ?_));refine zh (zC rfl rfl ?_);refine yp (Zc rfl rfl (by omega)) ?_;refine zh (ZL rfl rfl (uR rfl) ?_);refine zf (zS ?_);refine ⟨hle2, H2, ?_, ?_⟩
   ·rw [hpl, hst, e1]; exact hS2
   ·rw [hpl, hst, e1]; exact .of
  ·rw [decide_eq_false hp] at hfr ⊢;have e1 : swp R d.k = R := by unfold swp; rw [if_neg (by rw [hfr]; decide)]
   refine zy rfl (zn (zS ?_));refine ⟨hle2, sH sb ab1 tb1 mb1 lb1 db1 ev1 HA1 HT1 HM1 HL1 HD1 HV1 W1, ?_, ?_⟩
   ·rw [hpl, hst, e1]; exact hS1'
   ·rw [hpl, hst, e1]; exact zB.M9
 ·rintro xs S' hd ⟨hn, H1, hS1, hJ⟩;have hxl : xs.length = (due now S.I).length := by rw [hd, List.length_map, hdue]
  have e1 : UU now S xs.length = yt now S := by unfold UU yt; rw [hxl, List.take_length]
  rw [e1] at hS1 hJ;refine zS (za ?_);refine zm hJ (ze (z8 ?_));refine zh (zC rfl rfl ?_);refine zh (ZL rfl rfl (uR rfl) ?_);refine zf (za (zI ?_));exact zH (jK (FH (b := p4) FD rfl)) ⟨[H1], .of, rfl, _, hS1, rfl⟩
 ·rintro e pre S' _ h;exact h.elim
end Go.Proofs.YtejmbmenbailmaaGreat
