/- Stores (chapter 10), plainly: what is there, who goes next, what each act makes of it. Stores (chapter 10): their memory; New, Used, Left, Count, Evicted. Stores (chapter 10): find, item, gone, evict. Stores (chapter 10): gone, evict, Drop, pin, Peek, Get. Stores (chapter 10): Drop, Pin, Unpin, Peek, Get. Stores (chapter 10): Peek, Get. Stores (chapter 10): who goes next. Stores (chapter 10): Put. Stores (chapter 10): Sweep. -/
import Derived.Test.YtejmbmenbailmaaGreatP4
import Derived.Test.YtejmbmenbailmaaGreatL1
import Derived.Test.YtejmbmenbailmaaGreatI1
import Derived.Test.YtejmbmenbailmaaGreatFStore
namespace Go.Proofs.YtejmbmenbailmaaGreat
open Go.Xs
open Enc (enc)
structure Ptr where
 a : Option Nat
instance : Vv Ptr := ⟨fun p => .pointer (p.a.map fun b => ⟨b, 0, none⟩)⟩
/-- an item -/
structure It where
 k : Ky
 s : St
 rank : Int
 came : Int
 exp : Int
 pins : Int
/-- .. its handle, its names' handles, its place -/
structure En where
 i : It
 h : Int
 ids : List Int
 eb : Nat
def En.z (e : En) : LS := ⟨e.h, e.i.s, e.ids⟩
def It.de (i : It) : De := ⟨i.k, i.exp⟩
def fk (k : Ky) : Ky := ⟨zx k.n, k.t⟩
structure Ss where
 I : List It
 P : List Ky
 Q : List Ky
 V : List Ky
def keys (I : List It) : List Ky := I.map (·.k)
def sets (I : List It) : List St := I.map (·.s)
def Wo (I : List It) (k : Ky) : Option It := I.find? fun i => decide (i.k = k)
def WS (I : List It) (k : Ky) : List It := I.filter fun i => !decide (i.k = k)
def free (I : List It) (k : Ky) : Bool := match Wo I k with | some i => decide (i.pins = 0) | none => false
def Xj (k : Ky) (S : Ss) : Ss := ⟨WS S.I k, S.P.erase k, S.Q.erase k, S.V⟩
def Jf (k : Ky) (S : Ss) : Ss := ⟨WS S.I k, S.P.erase k, S.Q.erase k, S.V ++ [k]⟩
def due (now : Int) (I : List It) : List Ky := (upto now (I.map It.de)).map (·.k)
def VK (now : Int) (S : Ss) : Option Ky := (due now S.I ++ (S.P ++ S.Q)).find? (free S.I)
def UZ (N : Nat) (S : Ss) : Int := ((N - Ud (sets S.I) : Nat) : Int)
def uM (N : Nat) (now : Int) (s : St) : Nat → Ss → Ss × Bool
 | 0, S => (S, decide (uE (sets S.I) s ≤ UZ N S))
 | f + 1, S => if UZ N S < uE (sets S.I) s then (match VK now S with | none => (S, false) | some k => uM N now s f (Jf k S)) else (S, true)
def Uk (N : Nat) (k : Ky) (s : St) (rank now exp : Int) (S : Ss) : Ss × Int := match uM N now s S.I.length S with
 | (S', true) => (⟨S'.I ++ [⟨k, s, rank, now, exp, 0⟩], S'.P ++ [k], S'.Q, S'.V⟩, 0)
 | (S', false) => (S', 4)
def KW (n most : Int) : Bool := decide (0 ≤ n) && decide (n ≤ most)
def Je (rank now exp : Int) : Bool := KW now 1099511627776 && KW exp 1099511627776 && !decide (exp ≤ now) && KW rank 9
def Za (s : St) : Ky := fk ⟨s.name, s.typ⟩
def JC (N : Nat) (s : St) (rank now exp : Int) (S : Ss) : Ss × Int := match Wo S.I (Za s) with
 | some i => if 0 < i.pins then (S, 6) else Uk N (Za s) s rank now exp (Xj (Za s) S)
 | none => Uk N (Za s) s rank now exp S
theorem YE {N : Nat} {s : St} {rank now exp : Int} {S : Ss} {i : It} (h : Wo S.I (Za s) = some i) : JC N s rank now exp S = if 0 < i.pins then (S, 6) else Uk N (Za s) s rank now exp (Xj (Za s) S) := by unfold JC; rw [h]
theorem YF {N : Nat} {s : St} {rank now exp : Int} {S : Ss} (h : Wo S.I (Za s) = none) : JC N s rank now exp S = Uk N (Za s) s rank now exp S := by unfold JC; rw [h]
def UM (N : Nat) (s : St) (rank now exp : Int) (S : Ss) : Ss × Int :=
 if wz s ≠ 0 then (S, wz s) else if Je rank now exp = false then (S, 1) else JC N s rank now exp S
/-! ### who is there -/
def Ya (W : List En) (k : Ky) : Option En := W.find? fun e => decide (e.i.k = k)
def Xr (W : List En) (k : Ky) : Option Ptr := (Ya W k).map fun e => ⟨some e.eb⟩
def UQ (W : List En) (k : Ky) : List En := W.filter fun e => !decide (e.i.k = k)
theorem jO {W : List En} {k : Ky} {e : En} (h : Ya W k = some e) : e ∈ W ∧ e.i.k = k := ⟨List.mem_of_find?_eq_some h, by simpa using List.find?_some h⟩
theorem QC (W : List En) (k : Ky) : Wo (W.map (·.i)) k = (Ya W k).map (·.i) := by
 unfold Wo Ya;rw [List.find?_map];rfl
theorem jY {I : List It} {k : Ky} {i : It} (h : Wo I k = some i) : i ∈ I ∧ i.k = k := ⟨List.mem_of_find?_eq_some h, by simpa using List.find?_some h⟩
theorem QB {I : List It} (hn : (keys I).Nodup) {i : It} (hi : i ∈ I) : Wo I i.k = some i := by
 induction I with
 | nil => simp at hi
 | cons j I ih =>
  have hn2 := List.nodup_cons.1 hn;unfold Wo;rw [List.find?_cons];rcases List.mem_cons.1 hi with rfl | hi
  ·rw [decide_eq_true rfl]
  ·have : j.k ≠ i.k := fun e => hn2.1 (by rw [show (keys I) = I.map (·.k) from rfl] at *; exact List.mem_map.2 ⟨i, hi, e.symm⟩)
   rw [decide_eq_false this];exact ih hn2.2 hi
theorem WB {I : List It} {k : Ky} : Wo I k = none ↔ k ∉ keys I := by
 unfold Wo;rw [List.find?_eq_none];constructor
 ·intro h hk;obtain ⟨i, hi, rfl⟩ := List.mem_map.1 hk;have := h i hi;simp at this
 ·intro h i hi;have : i.k ≠ k := fun e => h (List.mem_map.2 ⟨i, hi, e⟩)
  simpa using this
theorem sN (W : List En) (k : Ky) : (UQ W k).map (·.i) = WS (W.map (·.i)) k := by
 unfold UQ WS;rw [List.filter_map];rfl
theorem U3 (I : List It) (k : Ky) : keys (WS I k) = (keys I).filter fun x => !decide (x = k) := by
 unfold WS keys;rw [List.filter_map];rfl
theorem gT {W : List En} {k x : Ky} (h : x ≠ k) : Ya (UQ W k) x = Ya W x := by
 unfold Ya UQ
 induction W with
 | nil => rfl
 | cons e W ih =>
  rw [List.filter_cons, List.find?_cons];by_cases hk : e.i.k = k
  ·rw [if_neg (by simp [hk]), ih, decide_eq_false (show ¬ e.i.k = x from fun q => h (q.symm.trans hk))]
  ·rw [if_pos (by simp [hk]), List.find?_cons, ih]
theorem aK (W : List En) (k : Ky) : Ya (UQ W k) k = none := by
 unfold Ya;rw [List.find?_eq_none];intro e he;have := (List.mem_filter.1 he).2;simpa using this
theorem nG (W : List En) (k : Ky) : Xr (UQ W k) = wK (Xr W) k none := by
 funext x;unfold Xr wK;split
 ·next e => rw [e, aK]; rfl
 ·next e => rw [gT e]
theorem nI {W : List En} {e : En} (h : Ya W e.i.k = none) : Xr (W ++ [e]) = wK (Xr W) e.i.k (some ⟨some e.eb⟩) := by
 funext x;unfold Xr wK Ya;rw [List.find?_append, List.find?_singleton];by_cases q : x = e.i.k
 ·subst q;have h2 : W.find? (fun y => decide (y.i.k = e.i.k)) = none := h;rw [if_pos rfl, if_pos (decide_eq_true rfl), h2];rfl
 ·rw [if_neg q, if_neg (by simpa using fun r => q r.symm), Option.or_none]
theorem eT {W : List En} {k : Ky} (h : ∀ e ∈ W, e.i.k ≠ k) : UQ W k = W := List.filter_eq_self.2 fun e he => by simpa using h e he
/-- one of them, and the others -/
theorem WR : ∀ {W : List En} {e : En}, (keys (W.map (·.i))).Nodup → e ∈ W → ∃ A B, W = A ++ e :: B ∧ UQ W e.i.k = A ++ B
 | y :: W, e, hn, he => by
  have hn2 := List.nodup_cons.1 hn;rcases List.mem_cons.1 he with rfl | he
  ·refine ⟨[], W, rfl, ?_⟩;unfold UQ;rw [List.filter_cons, if_neg (by simp)];exact eT fun x hx q => hn2.1 (List.mem_map.2 ⟨x.i, List.mem_map.2 ⟨x, hx, rfl⟩, q⟩)
  ·obtain ⟨A, B, h1, h2⟩ := WR hn2.2 he;refine ⟨y :: A, B, by rw [h1]; rfl, ?_⟩;have : y.i.k ≠ e.i.k := fun q => hn2.1 (List.mem_map.2 ⟨e.i, List.mem_map.2 ⟨e, he, rfl⟩, q.symm⟩)
   unfold UQ at h2 ⊢;rw [List.filter_cons, if_pos (by simpa using this), h2]; rfl
theorem YW : ∀ {I : List It} {k : Ky}, (keys I).Nodup → Vo k (I.map It.de) = (WS I k).map It.de
 | [], _, _ => rfl
 | i :: I, k, hn => by
  have hn2 := List.nodup_cons.1 hn;have ih := YW (k := k) hn2.2;unfold Vo at ih ⊢;unfold WS at ih ⊢;rw [List.map_cons, idx];by_cases hk : i.k = k
  ·rw [if_pos (show i.de.k = k from hk), List.filter_cons, if_neg (by simp [hk])];have : I.filter (fun i => !decide (i.k = k)) = I := List.filter_eq_self.2 fun j hj => by
    have : j.k ≠ k := fun e => hn2.1 (List.mem_map.2 ⟨j, hj, e.trans hk.symm⟩)
    simpa using this
   rw [this]; rfl
  ·rw [if_neg (show ¬ i.de.k = k from hk), List.filter_cons, if_pos (by simp [hk])];cases hx : idx k (I.map It.de) with
   | none => rw [hx] at ih; simp only [Option.map_none, List.map_cons]; rw [← ih]
   | some j => rw [hx] at ih; simp only [Option.map_some, List.map_cons, List.eraseIdx_cons_succ]; rw [← ih]
theorem q8 {I : List It} {k : Ky} (h : Wo I k = none) : Vo k (I.map It.de) = I.map It.de := by
 have : ∀ J : List It, k ∉ keys J → idx k (J.map It.de) = none := fun J => by
  induction J with
  | nil => intro _; rfl
  | cons i J ih =>
   intro hk;have h1 : i.de.k ≠ k := fun e => hk (List.mem_map.2 ⟨i, by simp, e⟩)
   rw [List.map_cons, idx, if_neg h1, ih fun hj => hk (List.mem_cons_of_mem _ hj)]; rfl
 unfold Vo;rw [this I (WB.1 h)]
theorem JY {P Q : List Ky} {I : List It} {k : Ky} (hn : (keys I).Nodup) (h : (P ++ Q).Perm (keys I)) : (P.erase k ++ Q.erase k).Perm (keys (WS I k)) := by
 have hp := h.nodup_iff.2 hn;obtain ⟨h1, h2, _⟩ := List.nodup_append.1 hp;rw [U3, h1.erase_eq_filter, h2.erase_eq_filter, ← List.filter_append];have := h.filter fun x => !decide (x = k)
 refine .trans (.of_eq ?_) this;congr 1
theorem cu {m : Int} {P Q : List Ky} {k : Ky} (hn : (P ++ Q).Nodup) (hk : k ∈ P ∨ k ∈ Q) : (Ye m k P Q ++ Yd m k P Q).Perm (P ++ Q) := by
 have h0 : (P.erase k ++ (Q.erase k ++ [k])).Perm (P ++ Q) := by
  obtain ⟨h1, h2, h3⟩ := List.nodup_append.1 hn;rcases hk with hk | hk
  ·have hq : k ∉ Q := fun q => h3 k hk k q rfl
   rw [List.erase_of_not_mem hq];refine .trans ?_ ((List.perm_cons_erase hk).symm.append_right Q);rw [← List.append_assoc];exact List.perm_append_singleton _ _
  ·have hp : k ∉ P := fun p => h3 k p k hk rfl
   rw [List.erase_of_not_mem hp];refine .append_left P (.trans ?_ (List.perm_cons_erase hk).symm);exact List.perm_append_singleton _ _
 unfold Ye Yd;rw [if_pos hk, if_pos hk];split
 ·next hm =>
  refine .trans ?_ h0;rw [List.append_assoc];refine .append_left _ ?_;cases hQ : Q.erase k ++ [k] with
  | nil => simp at hQ
  | cons x l => simp
 ·exact h0
/-! ### what is there, by the arena's blocks -/
theorem Pk.LY {D : List (Option Bt)} {L : List Nm} {Z Z' : List LS} (h : Pk D L Z) (p : Z.Perm Z') : Pk D L Z' := by
 have pB : (Y5 Z).Perm (Y5 Z') := p.map _;refine ⟨⟨h.inn.dis, h.inn.blk, fun x hx => h.inn.oth x (pB.mem_iff.2 hx), fun i b hb => (h.inn.all i b hb).imp id fun ⟨x, hx, h2⟩ => ⟨x, pB.mem_iff.1 hx, h2⟩, h.inn.us, h.inn.fold⟩, ⟨h.liv.dis, fun e he => ?_, h.liv.pos, fun i hi => h.liv.ids i ?_⟩, ?_, fun z hz => h.ok z (p.mem_iff.2 hz)⟩
 ·rw [h.liv.us e he];exact ((p.map _).flatten).count_eq _
 ·exact ((p.map _).flatten).mem_iff.2 hi
 ·exact (pB.map _).nodup_iff.1 h.hs
structure Sq (S : Ss) (W : List En) (D : List (Option Bt)) (L : List Nm) : Prop where
 its : W.map (·.i) = S.I
 pk : Pk D L (W.map En.z)
 kn : (keys S.I).Nodup
 kz : ∀ i ∈ S.I, i.k = Za i.s
 pq : (S.P ++ S.Q).Perm (keys S.I)
 pn : ∀ i ∈ S.I, 0 ≤ i.pins ∧ i.pins ≤ 1000
theorem Sq.sets {S : Ss} {W : List En} {D : List (Option Bt)} {L : List Nm} (h : Sq S W D L) : (W.map En.z).map (·.s) = sets S.I := by
 unfold Go.Proofs.YtejmbmenbailmaaGreat.sets;rw [← h.its, List.map_map, List.map_map];rfl
theorem Sq.used {S : Ss} {W : List En} {D : List (Option Bt)} {L : List Nm} (h : Sq S W D L) : Zd D = Ud (Go.Proofs.YtejmbmenbailmaaGreat.sets S.I) := by rw [h.pk.use, h.sets]
theorem Sq.left {N : Nat} {S : Ss} {W : List En} {D : List (Option Bt)} {L : List Nm} (h : Sq S W D L) : ((N - Zd D : Nat) : Int) = UZ N S := by rw [h.used]; rfl
theorem Sq.cost {S : Ss} {W : List En} {D : List (Option Bt)} {L : List Nm} (h : Sq S W D L) (s : St) : uR L s = uE (Go.Proofs.YtejmbmenbailmaaGreat.sets S.I) s := by rw [h.pk.cst, h.sets]
theorem Sq.few {N : Nat} {S : Ss} {W : List En} {D : List (Option Bt)} {L : List Nm} (h : Sq S W D L) (hN : Zd D ≤ N) : 16 * W.length ≤ N := by
 have h1 := h.pk.inn.used h.pk.hs;have h2 : ∀ B : List (Int × Bs), 16 * B.length ≤ (B.map fun x => zY x.2.length).sum := fun B => by
  induction B with
  | nil => exact Nat.le_refl _
  | cons x B ih =>
   have := yP x.2.length;rw [List.map_cons, List.sum_cons, List.length_cons]; omega
 have h3 := h2 (Y5 (W.map En.z));have h4 : (Y5 (W.map En.z)).length = W.length := by unfold Y5; simp
 omega
theorem Ag {L : List Nm} {Z : List LS} (h : ∀ z ∈ Z, wz z.s = 0 ∧ Ja z.s ∧ Al L z.ids ((Z6 z.s).map zx)) : (KM Z).length ≤ 66 * Z.length := by
 induction Z with
 | nil => exact Nat.le_refl _
 | cons z Z ih =>
  have h1 := ih fun y hy => h y (List.mem_cons_of_mem _ hy)
  obtain ⟨h2, _, h3⟩ := h z (by simp);have h4 := h3.len;have h5 := VI z.s;have h6 := (VN (VR h2).1).2.2.2.2.2.2.1;rw [List.length_map] at h4;unfold KM at h1 ⊢;rw [List.map_cons, List.flatten_cons, List.length_append, List.length_cons];omega
theorem Sq.us {N : Nat} {S : Ss} {W : List En} {D : List (Option Bt)} {L : List Nm} (h : Sq S W D L) (hN : Zd D ≤ N) (hb : N ≤ 1048576) : ∀ e ∈ L, e.u < 2 ^ 50 := fun e he => by
 have h1 := h.few hN;have h2 := Ag (L := L) h.pk.ok;rw [List.length_map] at h2;have := h.pk.us h2 e he;omega
theorem Sq.len {S : Ss} {W : List En} {D : List (Option Bt)} {L : List Nm} (h : Sq S W D L) : W.length = S.I.length ∧ S.P.length + S.Q.length = S.I.length := by
 refine ⟨by rw [← h.its, List.length_map], ?_⟩;have := h.pq.length_eq;rw [List.length_append] at this;unfold keys at this;rw [List.length_map] at this;exact this
theorem Sq.tJ {S : Ss} {W : List En} {D : List (Option Bt)} {L : List Nm} (h : Sq S W D L) : (keys (W.map (·.i))).Nodup := by rw [h.its]; exact h.kn
theorem Sq.Fv {S : Ss} {W : List En} {D : List (Option Bt)} {L : List Nm} (h : Sq S W D L) {e : En} (he : e ∈ W) : u6 (W.map En.z) e.h = (UQ W e.i.k).map En.z := by
 obtain ⟨A, B, h1, h2⟩ := WR h.tJ he;rw [h2, h1];have hh := h.pk.hs;unfold Hs Y5 at hh;rw [h1, List.map_map, List.map_map, List.map_append, List.map_cons] at hh;obtain ⟨_, h4, h5⟩ := List.nodup_append.1 hh;have h6 := (List.nodup_cons.1 h4).1;unfold u6;rw [List.map_append, List.filter_append, List.map_cons, List.filter_cons, if_neg (by show ¬ ((En.z e).h != e.h) = true; simp [En.z]), List.map_append];congr 1
 ·refine List.filter_eq_self.2 fun z hz => ?_
  obtain ⟨y, hy, rfl⟩ := List.mem_map.1 hz;have : y.h ≠ e.h := h5 y.h (List.mem_map.2 ⟨y, hy, rfl⟩) e.h (by show e.h ∈ e.h :: _; exact List.mem_cons_self);simpa [En.z] using this
 ·refine List.filter_eq_self.2 fun z hz => ?_
  obtain ⟨y, hy, rfl⟩ := List.mem_map.1 hz;have : y.h ≠ e.h := fun q => h6 (List.mem_map.2 ⟨y, hy, q⟩)
  simpa [En.z] using this
theorem vE (I : List It) (k : Ky) : (WS I k).Sublist I := List.filter_sublist
theorem Sq.gone {S : Ss} {W : List En} {D D' : List (Option Bt)} {L : List Nm} (h : Sq S W D L) {e : En} (he : e ∈ W) (hI : WX D' (drops L e.ids) (jB (Y5 (W.map En.z)) e.h)) : Sq (Xj e.i.k S) (UQ W e.i.k) D' (drops L e.ids) := by
 have hz : e.z ∈ W.map En.z := List.mem_map.2 ⟨e, he, rfl⟩;have h1 := h.pk.drop hz hI;have h2 : u6 (W.map En.z) e.z.h = _ := h.Fv he;rw [h2] at h1;refine ⟨?_, h1, ?_, fun i hi => h.kz i ((vE _ _).subset hi), JY h.kn h.pq, fun i hi => h.pn i ((vE _ _).subset hi)⟩
 ·rw [sN, h.its]; rfl
 ·exact ((vE S.I e.i.k).map _).nodup h.kn
theorem Sq.ev {S : Ss} {W : List En} {D : List (Option Bt)} {L : List Nm} {V : List Ky} (h : Sq S W D L) : Sq ⟨S.I, S.P, S.Q, V⟩ W D L := ⟨h.its, h.pk, h.kn, h.kz, h.pq, h.pn⟩
theorem Sq.touch {S : Ss} {W : List En} {D : List (Option Bt)} {L : List Nm} {m : Int} {k : Ky} (h : Sq S W D L) (hk : k ∈ keys S.I) : Sq ⟨S.I, Ye m k S.P S.Q, Yd m k S.P S.Q, S.V⟩ W D L :=
 ⟨h.its, h.pk, h.kn, h.kz, .trans (cu (h.pq.nodup_iff.2 h.kn) (List.mem_append.1 (h.pq.mem_iff.2 hk))) h.pq, h.pn⟩
theorem Sq.nil : Sq ⟨[], [], [], []⟩ [] [] [] := ⟨rfl, Pk.nil, List.nodup_nil, fun i hi => by simp at hi, .nil, fun i hi => by simp at hi⟩
theorem Sq.put {N : Nat} {S : Ss} {W : List En} {D D' : List (Option Bt)} {L : List Nm} (h : Sq S W D L) {s : St} (hE : wz s = 0) (hs : Ja s) (he : (wF N D L (Z6 s)).e = 0)
 (hI : WX D' (wF N D L (Z6 s)).L ((((hnd (wF N D L (Z6 s)).D : Nat) : Int), Wi s (wF N D L (Z6 s)).ids) :: Y5 (W.map En.z))) (hh : Hs ((((hnd (wF N D L (Z6 s)).D : Nat) : Int), Wi s (wF N D L (Z6 s)).ids) :: Y5 (W.map En.z)))
 (hk : Wo S.I (Za s) = none) (rank came exp : Int) (eb : Nat) :
 Sq ⟨S.I ++ [⟨Za s, s, rank, came, exp, 0⟩], S.P ++ [Za s], S.Q, S.V⟩ (W ++ [⟨⟨Za s, s, rank, came, exp, 0⟩, ((hnd (wF N D L (Z6 s)).D : Nat) : Int), (wF N D L (Z6 s)).ids, eb⟩]) D' (wF N D L (Z6 s)).L := by
 have h1 := h.pk.put hE hs he hI hh;refine ⟨by rw [List.map_append, h.its]; rfl, ?_, ?_, ?_, ?_, ?_⟩
 ·rw [List.map_append];exact h1.LY (List.perm_append_singleton _ _).symm
 ·unfold keys;rw [List.map_append];refine List.nodup_append.2 ⟨h.kn, by simp, fun a ha b hb q => ?_⟩;simp at hb;exact WB.1 hk (by rw [← hb, ← q]; exact ha)
 ·intro i hi;rcases List.mem_append.1 hi with hi | hi
  ·exact h.kz i hi
  ·rw [List.mem_singleton.1 hi]
 ·unfold keys;rw [List.map_append];have : ((S.P ++ [Za s]) ++ S.Q).Perm ((S.P ++ S.Q) ++ [Za s]) := by
   rw [List.append_assoc, List.append_assoc];exact .append_left _ List.perm_append_comm
  exact this.trans (h.pq.append_right _)
 ·intro i hi;rcases List.mem_append.1 hi with hi | hi
  ·exact h.pn i hi
  ·rw [List.mem_singleton.1 hi];exact ⟨Int.le_refl 0, by show (0 : Int) ≤ 1000; omega⟩
end Go.Proofs.YtejmbmenbailmaaGreat
namespace Go.Proofs.YtejmbmenbailmaaGreat
open Go.Xs
open Enc (enc)
theorem Ue : Tryz.prog.underlying 127 = some (.map 43 135) := by kernel_rfl
theorem nu : Key.ok Ky Tryz.prog 43 := show oJ Tryz.prog 43 = true by kernel_rfl
theorem pz : (Tryz.prog.info? 135).bind (·.zero) = some (.pointer none) := by kernel_rfl
theorem nN : isAgg? Tryz.prog 43 = some true := by kernel_rfl
abbrev M5 (e : En) : Array Value := #[.int .i64 e.h, .int .i64 e.i.rank, .int .i64 e.i.came, .int .i64 e.i.exp, .int .i64 e.i.pins]
abbrev jR (e : En) : List Chunk := [(e.eb, .cells (M5 e) 137)]
def Es (W : List En) : zu := W.map jR
theorem qy (A B : List En) : Es (A ++ B) = Es A ++ Es B := List.map_append
theorem X6 {W : List En} {e : En} (h : e ∈ W) : jR e ∈ Es W := List.mem_map.2 ⟨e, h, rfl⟩
abbrev ZW (sb ab tb mb lb db : Nat) (ev : Value) : List Chunk := [(sb, .cells #[.pointer (some ⟨ab, 0, none⟩), .pointer (some ⟨tb, 0, none⟩), .map (some mb), .pointer (some ⟨lb, 0, none⟩), .pointer (some ⟨db, 0, none⟩), ev] 133)]
def sH (sb ab tb mb lb db : Nat) (ev : Value) (HA HT HM HL HD HV : List Chunk) (W : List En) : List Chunk := ZW sb ab tb mb lb db ev ++ (HA ++ (HT ++ (HM ++ (HL ++ (HD ++ (HV ++ (Es W).flatten))))))
structure Sp (N : Nat) (S : Ss) (W : List En) (D : List (Option Bt)) (L : List Nm) (ab tb mb lb db : Nat) (ev : Value) (HA HT HM HL HD HV : List Chunk) : Prop where
 q : Sq S W D L
 a : Ar ab N D HA
 t : Tb tb ab L HT
 m : Mp mb (Xr W) W.length HM
 l : Lr lb ((N / 512 : Nat) : Int) S.P S.Q HL
 d : Du db (S.I.map It.de) HD
 v : Zb 43 ev S.V HV
/-- a store of N bytes, as one piece of memory -/
def Sr (sb N : Nat) (S : Ss) (H : List Chunk) : Prop := ∃ (W : List En) (D : List (Option Bt)) (L : List Nm) (ab tb mb lb db : Nat) (ev : Value) (HA HT HM HL HD HV : List Chunk), Sp N S W D L ab tb mb lb db ev HA HT HM HL HD HV ∧ H = sH sb ab tb mb lb db ev HA HT HM HL HD HV W
theorem Sr.mk {sb N : Nat} {S : Ss} {W : List En} {D : List (Option Bt)} {L : List Nm} {ab tb mb lb db : Nat} {ev : Value} {HA HT HM HL HD HV : List Chunk} (h : Sp N S W D L ab tb mb lb db ev HA HT HM HL HD HV) : Sr sb N S (sH sb ab tb mb lb db ev HA HT HM HL HD HV W) := ⟨W, D, L, ab, tb, mb, lb, db, ev, HA, HT, HM, HL, HD, HV, h, rfl⟩
theorem Sp.nb {N : Nat} {S : Ss} {W : List En} {D : List (Option Bt)} {L : List Nm} {ab tb mb lb db : Nat} {ev : Value} {HA HT HM HL HD HV : List Chunk} (h : Sp N S W D L ab tb mb lb db ev HA HT HM HL HD HV) : N ≤ 1048576 ∧ Zd D ≤ N ∧ 16 * S.I.length ≤ N ∧ W.length = S.I.length ∧ S.P.length + S.Q.length = S.I.length := by
 obtain ⟨h1, h2, h3, _⟩ := h.a.kL;obtain ⟨h4, h5⟩ := h.q.len;exact ⟨h3, h1, by have := h.q.few h1; omega, h4, h5⟩
theorem Sr.nb {sb N : Nat} {S : Ss} {H : List Chunk} (h : Sr sb N S H) : N ≤ 1048576 ∧ 16 * S.I.length ≤ N ∧ S.P.length + S.Q.length = S.I.length ∧ Ud (sets S.I) ≤ N := by
 obtain ⟨W, D, L, ab, tb, mb, lb, db, ev, HA, HT, HM, HL, HD, HV, h, rfl⟩ := h;obtain ⟨h1, h2, h3, h4, h5⟩ := h.nb;exact ⟨h1, h3, h5, by rw [← h.q.used]; exact h2⟩
/-- opened, and closed again -/
theorem Tri.sp {P : Program} {f : FuncId} {args : Array Value} {R : Value → zu → Prop} {S0 : zu} {sb ab tb mb lb db : Nat} {ev : Value} {HA HT HM HL HD HV : List Chunk} {W : List En} (h : Tri P f args (ZW sb ab tb mb lb db ev :: HA :: HT :: HM :: HL :: HD :: HV :: (Es W ++ S0)) R) : Tri P f args (sH sb ab tb mb lb db ev HA HT HM HL HD HV W :: S0) R := h.perm (by simp [sH])
theorem Tri.iU {P : Program} {f : FuncId} {args : Array Value} {R : Value → zu → Prop} {sb ab tb mb lb db : Nat} {ev : Value} {HA HT HM HL HD HV : List Chunk} {W : List En} (h : Tri P f args (ZW sb ab tb mb lb db ev :: HA :: HT :: HM :: HL :: HD :: HV :: Es W) R) : Tri P f args [sH sb ab tb mb lb db ev HA HT HM HL HD HV W] R := h.perm (by simp [sH])
theorem zB.sp {S G : zu} {sb ab tb mb lb db : Nat} {ev : Value} {HA HT HM HL HD HV : List Chunk} {W : List En} [h : Sub S (ZW sb ab tb mb lb db ev :: HA :: HT :: HM :: HL :: HD :: HV :: Es W) G] : zB S [sH sb ab tb mb lb db ev HA HT HM HL HD HV W] := zB.trans (zB.of (h := h)) ⟨[], by simp [sH]⟩
theorem zB.LM {x : List Chunk} {S G : zu} {sb ab tb mb lb db : Nat} {ev : Value} {HA HT HM HL HD HV : List Chunk} {W : List En} [h : Sub S (x :: ZW sb ab tb mb lb db ev :: HA :: HT :: HM :: HL :: HD :: HV :: Es W) G] : zB S [x, sH sb ab tb mb lb db ev HA HT HM HL HD HV W] := zB.trans (zB.of (h := h)) ⟨[], by simp [sH]⟩
theorem zB.op {S S1 G : zu} {sb ab tb mb lb db : Nat} {ev : Value} {HA HT HM HL HD HV : List Chunk} {W : List En} [h : Sub S (sH sb ab tb mb lb db ev HA HT HM HL HD HV W :: S1) G] : zB S (ZW sb ab tb mb lb db ev :: HA :: HT :: HM :: HL :: HD :: HV :: (Es W ++ S1)) := zB.trans (zB.of (h := h)) ⟨[], by simp [sH]⟩
theorem jS {W : List En} {k : Ky} {e : En} (h : Ya W k = some e) : ((Xr W k).map Vv.vv).getD (.pointer none) = .pointer (some ⟨e.eb, 0, none⟩) := by unfold Xr; rw [h]; rfl
theorem ER {W : List En} {k : Ky} (h : Ya W k = none) : ((Xr W k).map Vv.vv).getD (.pointer none) = .pointer none := by unfold Xr; rw [h]; rfl
set_option maxRecDepth 10000 in
theorem oh {n : Nat} (hn : 2048 ≤ n ∧ n ≤ 1048576) {z : Int} (hz : z = n) : Tri Tryz.prog 28 #[.int .i64 z] [] (fun r S => ∃ sb H, r = .tuple #[.pointer (some ⟨sb, 0, none⟩), .int .i64 0] ∧ Sr sb n ⟨[], [], [], []⟩ H ∧ S = [H]) := by
 subst hz;refine Tri.forget (zm Tryz.Dc (Nat.le_of_ble_eq_true rfl) ?_);unfold Tryz.x28;refine ze (z8 (yp pC (yp pC (zf (za (ze (ze (z8 (yp (pI rfl) (yp (ZP rfl rfl) (yp (pB rfl) ?_)))))))))));rw [decide_eq_false (show ¬ (n : Int) < 2048 from by omega)];refine Z4 rfl (Z9 (pI rfl) (Z4 rfl (Z9 (VH rfl rfl) (yp (zS rfl rfl) (zf (za ?_))))));rw [decide_eq_false (show ¬ (1048576 : Int) < (n : Int) from by omega)];refine zA rfl (zq (za (ze (z8 (yp (pI rfl) ?_)))));refine zh (zk (Ab (n := n) (by omega) rfl) rfl rfl fun r S' h => ?_);obtain ⟨ab, HA, rfl, hA, rfl⟩ := h;refine yp (pU rfl) (yp (pExt rfl rfl) (yp (pExt rfl rfl) (yp (pP rfl) (yp (pI rfl) (zf (za (ze (z8 (yp (pP rfl) (yp (pP rfl) ?_))))))))));refine zh (zk (BS (ab := ab)) rfl rfl fun r S' h => ?_);obtain ⟨tb, HT, rfl, hT, rfl⟩ := h;refine zh (kH Ky Ptr fun mb HM hM => ?_);refine yp (pI rfl) (yp (Cu rfl rfl (by decide) (by omega)) ?_);rw [show (n : Int).tdiv 512 = ((n / 512 : Nat) : Int) from rfl];refine zh (zk (CQ ((n / 512 : Nat) : Int)) rfl rfl fun r S' h => ?_);obtain ⟨lb, HL, rfl, hL, rfl⟩ := h;refine zh (zk CV rfl rfl fun r S' h => ?_);obtain ⟨db, HD, rfl, hD, rfl⟩ := h;rw [show max ((n / 512 : Nat) : Int) 0 = ((n / 512 : Nat) : Int) from by omega] at hL;refine yp (v := .agg #[.pointer (some ⟨ab, 0, none⟩), .pointer (some ⟨tb, 0, none⟩), .map (some mb), .pointer (some ⟨lb, 0, none⟩), .pointer (some ⟨db, 0, none⟩), .slice none 0 0]) rfl ?_;refine zh (Zq rfl fun p26 => ?_);refine yp (pP rfl) (yp pC (zf (za (zJ ?_))));exact zI (Fp rfl rfl) ⟨_, zB.re (S1 := [ZW p26 ab tb mb lb db (.slice none 0 0), HA, HT, HM, HL, HD]) (S2 := [sH p26 ab tb mb lb db (.slice none 0 0) HA HT HM HL HD [] []]) (by simp [sH, Es]), p26, _, rfl, Sr.mk ⟨Sq.nil, hA, hT, hM, hL, hD, .nil⟩, rfl⟩
set_option maxRecDepth 10000 in
theorem rD {n : Int} (hn : n < 2048 ∨ 1048576 < n) : Tri Tryz.prog 28 #[.int .i64 n] [] (fun r S => r = .tuple #[.pointer none, .int .i64 1] ∧ S = []) := by
 refine Tri.forget (zm Tryz.Dc (Nat.le_of_ble_eq_true rfl) ?_);unfold Tryz.x28;refine ze (z8 (yp pC (yp pC (zf (za (ze (ze (z8 (yp (pI rfl) (yp (ZP rfl rfl) (yp (pB rfl) ?_)))))))))));by_cases h1 : n < 2048
 ·rw [decide_eq_true h1];refine zW rfl (zW rfl (yp (zM rfl rfl) (zf (za (zH rfl (ze (z8 (yp pC (yp pC (zf (za (zJ (zU ?_)))))))))))));exact zI (Fp rfl rfl) ⟨_, .of, rfl, rfl⟩
 ·rw [decide_eq_false h1];refine Z4 rfl (Z9 (pI rfl) (Z4 rfl (Z9 (VH rfl rfl) (yp (zS rfl rfl) (zf (za ?_))))));rw [decide_eq_true (show 1048576 < n from by omega)];refine zH rfl (ze (z8 (yp pC (yp pC (zf (za (zJ (zU ?_))))))));exact zI (Fp rfl rfl) ⟨_, .of, rfl, rfl⟩
theorem rz {sb N : Nat} {S : Ss} {H : List Chunk} (hS : Sr sb N S H) : Tri Tryz.prog 36 #[.pointer (some ⟨sb, 0, none⟩)] [H] (fun r S' => r = .int .i64 (Ud (sets S.I) : Nat) ∧ S' = [H]) := by
 obtain ⟨W, D, L, ab, tb, mb, lb, db, ev, HA, HT, HM, HL, HD, HV, h, rfl⟩ := hS;refine Tri.forget (Tri.iU (zm Tryz.HY (Nat.le_of_ble_eq_true rfl) ?_));unfold Tryz.Ls;refine ze (z8 (yp pC (zf (za (ze (ze (z8 (yp (pP rfl) (yp (ZM rfl rfl) (zf (za (zA rfl (zq (za (ze (z8 (yp (pP rfl) (yp (zG rfl) (yp (zn rfl) ?_)))))))))))))))))));refine zh (zD rfl rfl ?_);refine zh (zk (QH h.a) rfl rfl fun r S' h => ?_);obtain ⟨rfl, rfl⟩ := h;refine yp (pI rfl) (zf (za (zJ ?_)));rw [h.q.used];exact zI (rI rfl) ⟨_, zB.sp, rfl, rfl⟩
theorem lJ {sb N : Nat} {S : Ss} {H : List Chunk} (hS : Sr sb N S H) : Tri Tryz.prog 33 #[.pointer (some ⟨sb, 0, none⟩)] [H] (fun r S' => r = .int .i64 (S.I.length : Nat) ∧ S' = [H]) := by
 obtain ⟨W, D, L, ab, tb, mb, lb, db, ev, HA, HT, HM, HL, HD, HV, h, rfl⟩ := hS;refine Tri.forget (Tri.iU (zm Tryz.Db (Nat.le_of_ble_eq_true rfl) ?_));unfold Tryz.FD;refine ze (z8 (yp pC (zf (za (ze (ze (z8 (yp (pP rfl) (yp (ZM rfl rfl) (zf (za (zA rfl (zq (za (ze (z8 (yp (pP rfl) (yp (zG rfl) (yp (zn rfl) ?_)))))))))))))))))));refine zh (zD rfl rfl ?_);refine zh (Aq h.m (by repeat (first | exact List.mem_cons_self | apply List.mem_cons_of_mem)) Ue rfl ?_);rw [h.q.len.1];refine yp (pI rfl) (zf (za (zJ ?_)));exact zI (rI rfl) ⟨_, zB.sp, rfl, rfl⟩
theorem dD : Tri Tryz.prog 33 #[.pointer none] [] (fun r S => r = .int .i64 0 ∧ S = []) := by
 refine Tri.forget (zm Tryz.Db (Nat.le_of_ble_eq_true rfl) ?_);unfold Tryz.FD;refine ze (z8 (yp pC (zf (za (ze (ze (z8 (yp (pP rfl) (yp (ZM rfl rfl) (zf (za (zH rfl (ze (z8 (yp pC (zf (za (zJ (zU ?_)))))))))))))))))));exact zI (rI rfl) ⟨_, .of, rfl, rfl⟩
theorem xJ {sb N : Nat} {S : Ss} {H : List Chunk} (hS : Sr sb N S H) : Tri Tryz.prog 32 #[.pointer (some ⟨sb, 0, none⟩)] [H] (fun r S' => ∃ H' HV, Zb 43 r S.V HV ∧ Sr sb N ⟨S.I, S.P, S.Q, []⟩ H' ∧ S' = [HV, H']) := by
 obtain ⟨W, D, L, ab, tb, mb, lb, db, ev, HA, HT, HM, HL, HD, HV, h, rfl⟩ := hS;refine Tri.forget (Tri.iU (zm Tryz.I5 (Nat.le_of_ble_eq_true rfl) ?_));unfold Tryz.x32;have hV := h.v;obtain ⟨a, c, rfl⟩ := hV.isSlice;refine ze (z8 (yp pC (zf (za (ze (ze (z8 (yp (pP rfl) (yp (ZM rfl rfl) (zf (za (zA rfl (zq (za (ze (z8 (yp (pP rfl) (yp (zG rfl) (yp (zn rfl) ?_)))))))))))))))))));refine zh (zD rfl rfl ?_);refine yp (pS rfl) (zf (za (ze (z8 (yp (pP rfl) (yp (zG rfl) (yp (zn rfl) ?_)))))));refine zh (bF rfl rfl (Yg rfl) ?_);refine zf (za (ze (z8 (yp (pS rfl) (yp (pS rfl) (zf (za (zJ ?_))))))));exact zI (rS rfl) ⟨_, zB.LM (HV := []), _, HV, hV, Sr.mk (W := W) ⟨h.q.ev, h.a, h.t, h.m, h.l, h.d, .nil⟩, rfl⟩
end Go.Proofs.YtejmbmenbailmaaGreat
namespace Go.Proofs.YtejmbmenbailmaaGreat
open Go.Xs
open Enc (enc)
theorem qO : sizeOf? Tryz.prog 43 = some 2 := by kernel_rfl
theorem qp : isAgg? Tryz.prog 76 = some true := by kernel_rfl
theorem Js : sizeOf? Tryz.prog 76 = some 9 := by kernel_rfl
theorem kT (k : Ky) (hk : k.n.length < 2 ^ 62) : Tri Tryz.prog 76 #[.agg (W9 k)] [] (fun r S => r = .agg (W9 (fk k)) ∧ S = []) := by
 refine Tri.forget (zm Tryz.GA (Nat.le_of_ble_eq_true rfl) ?_);unfold Tryz.IK;refine ze (z8 ?_);refine zh (Zq rfl fun p1 => ?_);refine zh (Zf fun p2 => ?_);refine zf (za (ze (zX (zi (zn rfl) (Z5 rfl rfl (zi (zn rfl) (Z5 rfl rfl ?_)))))));refine Zj (zk (Kh k.n hk) rfl rfl fun r S' h => ?_) zO;obtain ⟨rfl, rfl⟩ := h;refine ⟨by simp, ?_⟩;refine zi (vX (iV rfl) (uK rfl)) ?_;refine zP (WL rfl rfl rfl rfl rfl ?_) zO;refine zL (za (zJ ?_));exact zI (jl (dL (b := p2) nN qO rfl rfl)) ⟨[], .of, rfl, rfl⟩
theorem UF (n most : Int) : Tri Tryz.prog 75 #[.int .i64 n, .int .i64 most] [] (fun r S => r = .bool (KW n most) ∧ S = []) := by
 refine Tri.forget (zm Tryz.GD (Nat.le_of_ble_eq_true rfl) ?_);unfold Tryz.IL KW;refine ze (z8 (yp pC (zf (za (ze (z8 (yp (pI rfl) (yp (Y9 rfl rfl) (yp (pB rfl) ?_)))))))));by_cases h : 0 ≤ n
 ·rw [decide_eq_true h];refine Z4 rfl (Z9 (pI rfl) (Z4 rfl (Z9 (pI rfl) (Z4 rfl (Z9 (jy rfl rfl) (yp (zM rfl rfl) (yp (pB rfl) (zf (za (zJ ?_))))))))));exact zI (rB rfl) ⟨_, .of, rfl, rfl⟩
 ·rw [decide_eq_false h];refine zW rfl (zW rfl (zW rfl (yp (zS rfl rfl) (yp (pB rfl) (zf (za (zJ ?_)))))));exact zI (rB rfl) ⟨_, .of, rfl, rfl⟩
def Fq (o : Option En) : Value := .pointer (o.map fun e => ⟨e.eb, 0, none⟩)
theorem EP (W : List En) (k : Ky) : ((Xr W k).map Vv.vv).getD (.pointer none) = Fq (Ya W k) := by
 unfold Xr Fq;cases Ya W k <;> rfl
theorem kU {sb ab tb mb lb db n : Nat} {ev : Value} {W : List En} {HM : List Chunk} (hM : Mp mb (Xr W) n HM) (k : Ky) (hk : k.n.length < 2 ^ 62) :
 Tri Tryz.prog 84 #[.pointer (some ⟨sb, 0, none⟩), .agg (W9 k)] [ZW sb ab tb mb lb db ev, HM] (fun r S => r = Fq (Ya W (fk k)) ∧ S = [ZW sb ab tb mb lb db ev, HM]) := by
 refine Tri.forget (zm Tryz.D8 (Nat.le_of_ble_eq_true rfl) ?_);unfold Tryz.Fz;refine ze (z8 ?_);refine zh (Zq rfl fun p3 => ?_);refine yp pC (zf (za (ze (ze (z8 (yp (pP rfl) (yp (ZM rfl rfl) (zf (za (zA rfl (zq (za (ze (zX (zi (pP rfl) (zi (zG rfl) (zi (zn rfl) (Z5 rfl rfl (WG rfl rfl ?_)))))))))))))))))));refine Zj (zk (kT k hk) rfl rfl fun r S' h => ?_) zO;obtain ⟨rfl, rfl⟩ := h;refine ⟨by simp, ?_⟩;refine zP (Vs hM (by repeat (first | exact List.mem_cons_self | apply List.mem_cons_of_mem)) (fk k) Ue nu pz rfl rfl (EP W (fk k)) ?_) zO;refine zi (v := Fq (Ya W (fk k))) rfl (zL (za (zJ ?_)));exact zI (rP rfl) ⟨_, .of, rfl, rfl⟩
theorem lH (k : Ky) : Tri Tryz.prog 84 #[.pointer none, .agg (W9 k)] [] (fun r S => r = .pointer none ∧ S = []) := by
 refine Tri.forget (zm Tryz.D8 (Nat.le_of_ble_eq_true rfl) ?_);unfold Tryz.Fz;refine ze (z8 ?_);refine zh (Zq rfl fun p3 => ?_);refine yp pC (zf (za (ze (ze (z8 (yp (pP rfl) (yp (ZM rfl rfl) (zf (za (zH rfl (ze (z8 (yp pC (zf (za (zJ (zU ?_)))))))))))))))));exact zI (rP rfl) ⟨_, .of, rfl, rfl⟩
/-- an item as it is told -/
abbrev gF (i : It) (v : Value) : Array Value := #[sv (Zy i.s).name, .int .i64 (Zy i.s).typ, v, .int .i64 (Zy i.s).kind, sv (Zy i.s).zone, .int .i64 i.rank, .int .i64 i.came, .int .i64 i.exp, .int .i64 i.pins]
abbrev aG : Array Value := #[.string ⟨#[]⟩, .int .i64 0, .slice none 0 0, .int .i64 0, .string ⟨#[]⟩, .int .i64 0, .int .i64 0, .int .i64 0, .int .i64 0]
theorem dA {sb N ab tb mb lb db : Nat} {ev : Value} {S : Ss} {W : List En} {D : List (Option Bt)} {L : List Nm} {HA HT : List Chunk} (hq : Sq S W D L) (hA : Ar ab N D HA) (hT : Tb tb ab L HT) {e : En} (he : e ∈ W) :
 Tri Tryz.prog 85 #[.pointer (some ⟨sb, 0, none⟩), .pointer (some ⟨e.eb, 0, none⟩)] [ZW sb ab tb mb lb db ev, HA, HT, jR e] (fun r S => ∃ v HR, r = .agg (gF e.i v) ∧ Zb 88 v (Zy e.i.s).rrs HR ∧ S = [HR, ZW sb ab tb mb lb db ev, HA, HT, jR e]) := by
 have hz : e.z ∈ W.map En.z := List.mem_map.2 ⟨e, he, rfl⟩;obtain ⟨hE, hs, hal⟩ := hq.pk.ok _ hz;have hC := Cb hT hA hq.pk.inn (KH hz) hE hal;refine Tri.forget (zm Tryz.Gt (Nat.le_of_ble_eq_true rfl) ?_);unfold Tryz.IB;refine ze (z8 ?_);refine zh (Zf fun p4 => ?_);refine zf (za (ze (vP (R := [ZW sb ab tb mb lb db ev, jR e]) (by simp) (zi (pP rfl) (zi (zG rfl) (zi (zn rfl) (Z5 rfl rfl (zi (pP rfl) (zi (zG rfl) (zi (zn rfl) (Z5 rfl rfl (zi (pP rfl) (zi (zG rfl) (zi (zn rfl) (Z5 rfl rfl ?_)))))))))))))));refine zP (zk hC rfl rfl fun r S' h => ?_) (Zj (Zf fun p5 => ⟨by simp, ?_⟩) zO)
 ·obtain ⟨v, HR, rfl, hR, rfl⟩ := h;obtain ⟨a, c, rfl⟩ := hR.isSlice;refine zi (pU rfl) (zi (pExt rfl rfl) (zi (pExt rfl rfl) ?_));refine Zj (Zf fun p5 => ⟨(by first | exact fun _ h => List.mem_cons_of_mem _ h | simp), ?_⟩) zO;refine zP (WL rfl rfl rfl rfl rfl ?_) zO;refine zi (pI rfl) (zL (za (ze (zX (WG rfl rfl (zi (pP rfl) (zi (zG rfl) (zi (zn rfl) (Z5 rfl rfl (zi (pP rfl) (zi (zG rfl) (zi (zn rfl) (Z5 rfl rfl (zi (pP rfl) (zi (zG rfl) (zi (zn rfl) (Z5 rfl rfl (zi (pP rfl) (zi (zG rfl) (zi (zn rfl) (Z5 rfl rfl (zi (v := .agg (gF e.i (.slice a (Zy e.z.s).rrs.length c))) rfl ?_))))))))))))))))))))));refine zP (WL rfl rfl rfl rfl rfl ?_) zO;refine zL (za (zJ ?_));exact zI (jl (dL (b := p4) qp Js rfl rfl)) ⟨_, .of, _, HR, rfl, hR, rfl⟩
 ·refine zP (zk hC rfl rfl fun r S' h => ?_) zO;obtain ⟨v, HR, rfl, hR, rfl⟩ := h;obtain ⟨a, c, rfl⟩ := hR.isSlice;refine zi (pU rfl) (zi (pExt rfl rfl) (zi (pExt rfl rfl) ?_));refine zP (WL rfl rfl rfl rfl rfl ?_) zO;refine zi (pI rfl) (zL (za (ze (zX (WG rfl rfl (zi (pP rfl) (zi (zG rfl) (zi (zn rfl) (Z5 rfl rfl (zi (pP rfl) (zi (zG rfl) (zi (zn rfl) (Z5 rfl rfl (zi (pP rfl) (zi (zG rfl) (zi (zn rfl) (Z5 rfl rfl (zi (pP rfl) (zi (zG rfl) (zi (zn rfl) (Z5 rfl rfl (zi (v := .agg (gF e.i (.slice a (Zy e.z.s).rrs.length c))) rfl ?_))))))))))))))))))))));refine zP (WL rfl rfl rfl rfl rfl ?_) zO;refine zL (za (zJ ?_));exact zI (jl (dL (b := p4) qp Js rfl rfl)) ⟨_, .of, _, HR, rfl, hR, rfl⟩
end Go.Proofs.YtejmbmenbailmaaGreat
namespace Go.Proofs.YtejmbmenbailmaaGreat
open Go.Xs
open Enc (enc)
theorem UN (X A B C : List Chunk) : (X ++ (A ++ (B ++ C))).Perm (X ++ (B ++ (A ++ C))) := by
 refine .append_left X ?_;rw [← List.append_assoc, ← List.append_assoc];exact List.perm_append_comm.append_right C
theorem qx (A B : List En) (e : En) : (Es (A ++ e :: B)).flatten = (Es A).flatten ++ (jR e ++ (Es B).flatten) := by
 rw [qy, List.flatten_append]; rfl
/-- one entry taken out of the others; put back, or left -/
theorem zB.cons {x : List Chunk} {S T : zu} (h : zB S T) : zB (x :: S) (x :: T) := by
 obtain ⟨G, h⟩ := h;refine ⟨G, ?_⟩;rw [List.flatten_cons, List.flatten_cons, List.append_assoc];exact h.append_left x
theorem zB.em {x : List Chunk} {sb ab tb mb lb db : Nat} {ev : Value} {HA HT HM HL HD HV : List Chunk} {A B : List En} {e : En} :
 zB (x :: ZW sb ab tb mb lb db ev :: HA :: HT :: HM :: HL :: HD :: HV :: Es (A ++ e :: B)) (x :: jR e :: ZW sb ab tb mb lb db ev :: HA :: HT :: HM :: HL :: HD :: HV :: (Es A ++ Es B)) := ⟨[], by
 simp only [List.flatten_cons, qx, List.flatten_append, List.append_nil];refine .append_left x ?_;have := UN [] (ZW sb ab tb mb lb db ev ++ (HA ++ (HT ++ (HM ++ (HL ++ (HD ++ (HV ++ (Es A).flatten))))))) (jR e) (Es B).flatten;simpa only [List.nil_append, List.append_assoc] using this⟩
theorem zB.ec {x : List Chunk} {S G : zu} {sb ab tb mb lb db : Nat} {ev : Value} {HA HT HM HL HD HV : List Chunk} {A B : List En} {e : En} [h : Sub S (x :: jR e :: ZW sb ab tb mb lb db ev :: HA :: HT :: HM :: HL :: HD :: HV :: (Es A ++ Es B)) G] :
 zB S [x, sH sb ab tb mb lb db ev HA HT HM HL HD HV (A ++ e :: B)] := zB.trans (zB.of (h := h)) ⟨[], by
 simp only [sH, List.flatten_cons, List.flatten_nil, qx, List.flatten_append, List.append_nil];refine .append_left x ?_;have := (UN [] (ZW sb ab tb mb lb db ev ++ (HA ++ (HT ++ (HM ++ (HL ++ (HD ++ (HV ++ (Es A).flatten))))))) (jR e) (Es B).flatten).symm;simpa only [List.nil_append, List.append_assoc] using this⟩
theorem zB.Il {S G : zu} {sb ab tb mb lb db : Nat} {ev : Value} {HA HT HM HL HD HV : List Chunk} {A B : List En} {e : En} [h : Sub S (jR e :: ZW sb ab tb mb lb db ev :: HA :: HT :: HM :: HL :: HD :: HV :: (Es A ++ Es B)) G] :
 zB S [sH sb ab tb mb lb db ev HA HT HM HL HD HV (A ++ e :: B)] := zB.trans (zB.of (h := h)) ⟨[], by
 simp only [sH, List.flatten_cons, List.flatten_nil, qx, List.flatten_append, List.append_nil];have := (UN [] (ZW sb ab tb mb lb db ev ++ (HA ++ (HT ++ (HM ++ (HL ++ (HD ++ (HV ++ (Es A).flatten))))))) (jR e) (Es B).flatten).symm;simpa only [List.nil_append, List.append_assoc] using this⟩
theorem zB.sd {S G : zu} {sb ab tb mb lb db : Nat} {ev : Value} {HA HT HM HL HD HV : List Chunk} {A B : List En} [h : Sub S (ZW sb ab tb mb lb db ev :: HA :: HT :: HM :: HL :: HD :: HV :: (Es A ++ Es B)) G] :
 zB S [sH sb ab tb mb lb db ev HA HT HM HL HD HV (A ++ B)] := zB.trans (zB.of (h := h)) ⟨[], by simp [sH, qy]⟩
theorem zB.op1 {x : List Chunk} {S G : zu} {sb ab tb mb lb db : Nat} {ev : Value} {HA HT HM HL HD HV : List Chunk} {W : List En} [h : Sub S [x, sH sb ab tb mb lb db ev HA HT HM HL HD HV W] G] : zB S (x :: ZW sb ab tb mb lb db ev :: HA :: HT :: HM :: HL :: HD :: HV :: Es W) := zB.trans (zB.of (h := h)) ⟨[], by simp [sH]⟩
theorem mK {W : List En} {e : En} (hn : (keys (W.map (·.i))).Nodup) (he : e ∈ W) : Ki (Xr W) e.i.k W.length = (UQ W e.i.k).length := by
 obtain ⟨A, B, h1, h2⟩ := WR hn he;have hf : (Xr W e.i.k).isSome = true := by
  unfold Xr Ya;cases h : W.find? (fun x => decide (x.i.k = e.i.k)) with
  | none => have := List.find?_eq_none.1 h e he; simp at this
  | some x => rfl
 unfold Ki;rw [if_pos hf, h2, h1];simp
theorem Ut {S : Ss} {W : List En} {D : List (Option Bt)} {L : List Nm} (hq : Sq S W D L) {k : Ky} {i : It} (h : Wo S.I k = some i) : ∃ e, Ya W k = some e ∧ e ∈ W ∧ e.i = i ∧ i.k = k := by
 rw [← hq.its, QC] at h;obtain ⟨e, he, rfl⟩ := Option.map_eq_some_iff.1 h;exact ⟨e, he, (jO he).1, rfl, (jO he).2⟩
theorem xV {S : Ss} {W : List En} {D : List (Option Bt)} {L : List Nm} (hq : Sq S W D L) {k : Ky} (h : Wo S.I k = none) : Ya W k = none := by
 rw [← hq.its, QC] at h;exact Option.map_eq_none_iff.1 h
theorem Ju {sb N : Nat} {S : Ss} {H : List Chunk} (hS : Sr sb N S H) {k : Ky} {i : It} (hk : Wo S.I k = some i) :
 Tri Tryz.prog 77 #[.pointer (some ⟨sb, 0, none⟩), .agg (W9 k)] [H] (fun r S' => r = .tuple #[] ∧ ∃ H', Sr sb N (Xj k S) H' ∧ S' = [H']) := by
 have hnb := hS.nb;obtain ⟨W, D, L, ab, tb, mb, lb, db, ev, HA, HT, HM, HL, HD, HV, h, rfl⟩ := hS;obtain ⟨e, hf, he, rfl, hek⟩ := Ut h.q hk;have hz : e.z ∈ W.map En.z := List.mem_map.2 ⟨e, he, rfl⟩;obtain ⟨hE, hs, hal⟩ := h.q.pk.ok _ hz;have hC := rV h.t h.a h.q.pk.inn h.q.pk.pos (KH hz) hE hal hs;have hC : Tri Tryz.prog 23 #[.pointer (some ⟨ab, 0, none⟩), .pointer (some ⟨tb, 0, none⟩), .int .i64 e.h] _ _ := hC;obtain ⟨A, B, hW, hout⟩ := WR h.q.tJ he;refine Tri.forget (Tri.iU (zm Tryz.Gz (Nat.le_of_ble_eq_true rfl) ?_));unfold Tryz.IJ;have hEs : Es W = Es (A ++ e :: B) := by rw [← hW]
 rw [hEs];refine ze (z8 ?_);refine zh (Zq rfl fun p3 => ?_);refine zf (za (zo zB.em (ze (zX (zi (pP rfl) (zi (zG rfl) (zi (zn rfl) (Z5 rfl rfl (zi (pP rfl) (zi (zG rfl) (zi (zn rfl) (Z5 rfl rfl (zi (pP rfl) (zi (zG rfl) (zi (zn rfl) (Z5 rfl rfl (WG rfl rfl ?_)))))))))))))))));refine Zj (Vs h.m (by repeat (first | exact List.mem_cons_self | apply List.mem_cons_of_mem)) k Ue nu pz rfl rfl (jS hf) ⟨fun _ h => h, ?_⟩) zO;refine zi (zG rfl) (zi (zn rfl) (Z5 rfl rfl ?_));refine zP (zk hC rfl rfl fun r S' h => ?_) zO;obtain ⟨rfl, HT1, HA1, D1, hT1, hA1, hI1, _, rfl⟩ := h;refine zL (za (ze (zX (zi (pP rfl) (zi (zG rfl) (zi (zn rfl) (Z5 rfl rfl (WG rfl rfl ?_))))))));refine zP (bI h.m k Ue nu rfl rfl fun HM1 hM1 => ?_) zO;refine zL (za (ze (zX (zi (pP rfl) (zi (zG rfl) (zi (zn rfl) (Z5 rfl rfl (WG rfl rfl ?_))))))));refine zP (zk (sZ h.l (by omega) (by omega) k) rfl rfl fun r S' h => ?_) zO;obtain ⟨rfl, HL1, hL1, rfl⟩ := h;refine zL (za (zX (zi (pP rfl) (zi (zG rfl) (zi (zn rfl) (Z5 rfl rfl (WG rfl rfl ?_)))))));refine zP (zk (tH h.d (by rw [List.length_map]; omega) k) rfl rfl fun r S' h => ?_) zO;obtain ⟨rfl, HD1, hD1, rfl⟩ := h;refine zL ?_;subst hek;have hq1 := h.q.gone he hI1;rw [← nG, mK h.q.tJ he] at hM1;rw [YW h.q.kn] at hD1;have hR : Sp N (Xj e.i.k S) (UQ W e.i.k) D1 _ ab tb mb lb db ev HA1 HT1 HM1 HL1 HD1 HV := ⟨hq1, hA1, hT1, hM1, hL1, hD1, h.v⟩
 have hR := Sr.mk (sb := sb) hR;rw [hout] at hR;exact ZV ZY ⟨_, zB.sd, rfl, _, hR, rfl⟩
theorem qR {sb N : Nat} {S : Ss} {H : List Chunk} (hS : Sr sb N S H) {k : Ky} {i : It} (hk : Wo S.I k = some i) (hv : S.V.length < 2 ^ 30) :
 Tri Tryz.prog 79 #[.pointer (some ⟨sb, 0, none⟩), .agg (W9 k)] [H] (fun r S' => r = .tuple #[] ∧ ∃ H', Sr sb N (Jf k S) H' ∧ S' = [H']) := by
 refine Tri.forget (zm Tryz.Gx (Nat.le_of_ble_eq_true rfl) ?_);unfold Tryz.IG;refine ze (z8 ?_);refine zh (Zq rfl fun p3 => ?_);refine zf (za (ze (z8 (yp (pP rfl) ?_))));refine zh (Zp rfl rfl ?_);refine zh (zk (Ju hS hk) rfl rfl fun r S' h => ?_);obtain ⟨rfl, H1, hS1, rfl⟩ := h;obtain ⟨W, D, L, ab, tb, mb, lb, db, ev, HA, HT, HM, HL, HD, HV, h, rfl⟩ := hS1;refine zf (za ?_);refine zo (S0 := [(p3, .cells (W9 k) 43)] :: ZW sb ab tb mb lb db ev :: HA :: HT :: HM :: HL :: HD :: HV :: Es W) ?_ ?_
 ·exact zB.op1
 have hV := h.v;obtain ⟨a, c, rfl⟩ := hV.isSlice;refine zX (zi (pP rfl) (zi (pP rfl) (zi (zG rfl) (zi (zn rfl) (Z5 rfl rfl (WG rfl rfl ?_))))));refine Zj (Wp k rfl rfl (by decide) (by decide) rfl fun p13 => ⟨fun _ h => List.mem_cons_of_mem _ h, ?_⟩) zO;have hvl : (Xj k S).V.length < 2 ^ 30 := hv;refine zP (Vt (Y := [k]) rfl rfl hV (.lit (by repeat (first | exact List.mem_cons_self | apply List.mem_cons_of_mem)) rfl) rfl (⟨[], 0⟩ : Ky) rfl (by rw [List.length_singleton]; omega) (by rw [List.length_singleton]; omega) fun v2 H2 hV2 => ?_) zO;obtain ⟨a2, c2, rfl⟩ := hV2.isSlice;refine zi (zG rfl) (zi (zn rfl) ?_);refine zP (bF rfl rfl (Yg rfl) ?_) zO;refine zL ?_;exact ZV ZY ⟨_, zB.sp, rfl, _, Sr.mk (S := Jf k S) ⟨h.q.ev, h.a, h.t, h.m, h.l, h.d, hV2⟩, rfl⟩
end Go.Proofs.YtejmbmenbailmaaGreat
namespace Go.Proofs.YtejmbmenbailmaaGreat
open Go.Xs
open Enc (enc)
def yN (k : Ky) (S : Ss) : Ss × Int := match Wo S.I (fk k) with
 | none => (S, 5)
 | some i => if 0 < i.pins then (S, 6) else (Xj (fk k) S, 0)
def WM (I : List It) (k : Ky) (p : Int) : List It := I.map fun i => if i.k = k then { i with pins := p } else i
def Uo (k : Ky) (by_ : Int) (S : Ss) : Ss × Int := match Wo S.I (fk k) with
 | none => (S, 5)
 | some i => if KW (i.pins + by_) 1000 = false then (S, 1) else (⟨WM S.I (fk k) (i.pins + by_), S.P, S.Q, S.V⟩, 0)
theorem xL (I : List It) (k : Ky) (p : Int) : keys (WM I k p) = keys I := by
 unfold keys WM;rw [List.map_map];refine List.map_congr_left fun i _ => ?_
 show (if i.k = k then { i with pins := p } else i).k = i.k;split <;> rfl
theorem qV (I : List It) (k : Ky) (p : Int) : (WM I k p).map It.de = I.map It.de := by
 unfold WM;rw [List.map_map];refine List.map_congr_left fun i _ => ?_
 show (if i.k = k then { i with pins := p } else i).de = i.de;split <;> rfl
abbrev JD (p : Int) (e : En) : En := { e with i := { e.i with pins := p } }
theorem dJ {A B : List En} {e : En} (hn : (keys ((A ++ e :: B).map (·.i))).Nodup) (p : Int) : (A ++ JD p e :: B).map (·.i) = WM ((A ++ e :: B).map (·.i)) e.i.k p := by
 have hne : ∀ X : List En, (∀ y ∈ X, y.i.k ≠ e.i.k) → X.map (·.i) = WM (X.map (·.i)) e.i.k p := fun X hX => by
  unfold WM;rw [List.map_map];refine List.map_congr_left fun y hy => ?_
  show y.i = if y.i.k = e.i.k then _ else y.i
  rw [if_neg (hX y hy)]
 have hn : ((A ++ e :: B).map fun y => y.i.k).Nodup := by
  have : keys ((A ++ e :: B).map (·.i)) = (A ++ e :: B).map fun y => y.i.k := by unfold keys; rw [List.map_map]; rfl
  rw [← this]; exact hn
 rw [List.map_append, List.map_cons] at hn;obtain ⟨_, h2, h3⟩ := List.nodup_append.1 hn;have h4 := (List.nodup_cons.1 h2).1;have hA := hne A fun y hy q => h3 y.i.k (List.mem_map.2 ⟨y, hy, rfl⟩) e.i.k List.mem_cons_self q
 have hB := hne B fun y hy q => h4 (List.mem_map.2 ⟨y, hy, q⟩)
 have happ : ∀ X Y : List It, WM (X ++ Y) e.i.k p = WM X e.i.k p ++ WM Y e.i.k p := fun X Y => List.map_append
 rw [List.map_append, List.map_cons, List.map_append, List.map_cons, happ, hA, ← hA];congr 1;show _ = (if e.i.k = e.i.k then _ else e.i) :: WM (B.map (·.i)) e.i.k p;rw [if_pos rfl, ← hB]
theorem nH {A B : List En} {e : En} (p : Int) : Xr (A ++ JD p e :: B) = Xr (A ++ e :: B) := by
 funext x;unfold Xr Ya;have hd : decide ((JD p e).i.k = x) = decide (e.i.k = x) := rfl;rw [List.find?_append, List.find?_append, List.find?_cons, List.find?_cons, hd];cases List.find? (fun y => decide (y.i.k = x)) A <;> cases decide (e.i.k = x) <;> rfl
theorem rE {sb N : Nat} {S : Ss} {H : List Chunk} (hS : Sr sb N S H) (k : Ky) (hkl : k.n.length < 2 ^ 62) :
 Tri Tryz.prog 42 #[.pointer (some ⟨sb, 0, none⟩), .agg (W9 k)] [H] (fun r S' => r = .int .i64 (yN k S).2 ∧ ∃ H', Sr sb N (yN k S).1 H' ∧ S' = [H']) := by
 have hS0 := hS;obtain ⟨W, D, L, ab, tb, mb, lb, db, ev, HA, HT, HM, HL, HD, HV, h, rfl⟩ := hS;refine Tri.forget (Tri.iU (zm Tryz.Da (Nat.le_of_ble_eq_true rfl) ?_));unfold Tryz.FC;refine ze (z8 ?_);refine zh (Zq rfl fun p3 => ?_);refine yp pC (zf (za (ze (z8 (yp (pP rfl) ?_)))));refine zh (Zp rfl rfl ?_);refine zh (zk (kU (ab := ab) (tb := tb) (lb := lb) (db := db) (ev := ev) h.m k hkl) rfl rfl fun r S' h => ?_);obtain ⟨rfl, rfl⟩ := h;cases hb : Wo S.I (fk k) with
 | none =>
  rw [xV h.q hb];unfold yN;rw [hb];refine yp (v := .pointer none) rfl (zf (za (ze (zw (ze (z8 (yp (pP rfl) (yp (ZM rfl rfl) (yp (pB rfl) (zf (za (zH rfl (ze (z8 (yp pC (zf (za (zJ (bret (zU ?_))))))))))))))))))));exact zI (rI rfl) ⟨_, zB.sp, rfl, _, hS0, rfl⟩
 | some i =>
  obtain ⟨e, hf, he, rfl, hek⟩ := Ut h.q hb;rw [hf];rw [show yN k S = if 0 < e.i.pins then (S, 6) else (Xj (fk k) S, 0) from by unfold yN; rw [hb]];refine yp (v := .pointer (some ⟨e.eb, 0, none⟩)) rfl (zf (za (ze (zw (ze (z8 (yp (pP rfl) (yp (ZM rfl rfl) (yp (pB rfl) (zf (za (zA rfl (ze (z8 (yp (pP rfl) (yp (zG rfl) (yp (zn rfl) ?_)))))))))))))))));refine zh (uH (List.mem_cons_of_mem _ (List.mem_cons_of_mem _ (List.mem_cons_of_mem _ (List.mem_cons_of_mem _ (List.mem_cons_of_mem _ (List.mem_cons_of_mem _ (List.mem_cons_of_mem _ (List.mem_cons_of_mem _ (X6 he))))))))) rfl rfl ?_);refine yp (VH rfl rfl) (yp (pB rfl) (zf (za ?_)));by_cases hp : 0 < e.i.pins
  ·rw [decide_eq_true hp, if_pos hp];refine zH rfl (ze (z8 (yp pC (zf (za (zJ (bret (zU ?_))))))));exact zI (rI rfl) ⟨_, zB.sp, rfl, _, hS0, rfl⟩
  ·rw [decide_eq_false hp, if_neg hp];refine zA rfl (zq (zR (za ?_)));refine zo (S0 := [[(p3, .cells (W9 k) 43)], sH sb ab tb mb lb db ev HA HT HM HL HD HV W]) ?_ ?_
   ·exact zB.LM
   refine ze (z8 (yp (pP rfl) ?_));refine zh (Zp rfl rfl ?_);refine zh (zk (kT k hkl) rfl rfl fun r S' h => ?_);obtain ⟨rfl, rfl⟩ := h;refine zh (zk (Ju hS0 hb) rfl rfl fun r S' h => ?_);obtain ⟨rfl, H1, hS1, rfl⟩ := h;refine zf (za (ze (z8 (yp pC (zf (za (zJ ?_)))))));exact zI (rI rfl) ⟨[H1], .of, rfl, _, hS1, rfl⟩
theorem lI (k : Ky) : Tri Tryz.prog 42 #[.pointer none, .agg (W9 k)] [] (fun r S => r = .int .i64 5 ∧ S = []) := by
 refine Tri.forget (zm Tryz.Da (Nat.le_of_ble_eq_true rfl) ?_);unfold Tryz.FC;refine ze (z8 ?_);refine zh (Zq rfl fun p3 => ?_);refine yp pC (zf (za (ze (z8 (yp (pP rfl) ?_)))));refine zh (Zp rfl rfl ?_);refine zh (zk (lH k) rfl rfl fun r S' h => ?_);obtain ⟨rfl, rfl⟩ := h;refine yp (pP rfl) (zf (za (ze (zw (ze (z8 (yp (pP rfl) (yp (ZM rfl rfl) (yp (pB rfl) (zf (za (zH rfl (ze (z8 (yp pC (zf (za (zJ (bret (zU ?_))))))))))))))))))));exact zI (rI rfl) ⟨_, .of, rfl, rfl⟩
theorem VX (n most : Int) : KW n most = true ↔ 0 ≤ n ∧ n ≤ most := by unfold KW; simp
theorem o9 {sb N : Nat} {S : Ss} {H : List Chunk} (hS : Sr sb N S H) (k : Ky) (hkl : k.n.length < 2 ^ 62) (by_ : Int) (hby : -1 ≤ by_ ∧ by_ ≤ 1) :
 Tri Tryz.prog 82 #[.pointer (some ⟨sb, 0, none⟩), .agg (W9 k), .int .i64 by_] [H] (fun r S' => r = .int .i64 (Uo k by_ S).2 ∧ ∃ H', Sr sb N (Uo k by_ S).1 H' ∧ S' = [H']) := by
 have hS0 := hS;obtain ⟨W, D, L, ab, tb, mb, lb, db, ev, HA, HT, HM, HL, HD, HV, h, rfl⟩ := hS;refine Tri.forget (Tri.iU (zm Tryz.Gu (Nat.le_of_ble_eq_true rfl) ?_));unfold Tryz.IC;refine ze (z8 ?_);refine zh (Zq rfl fun p4 => ?_);refine yp pC (zf (za (ze (z8 (yp (pP rfl) ?_)))));refine zh (Zp rfl rfl ?_);refine zh (zk (kU (ab := ab) (tb := tb) (lb := lb) (db := db) (ev := ev) h.m k hkl) rfl rfl fun r S' h => ?_);obtain ⟨rfl, rfl⟩ := h;cases hb : Wo S.I (fk k) with
 | none =>
  rw [xV h.q hb];unfold Uo;rw [hb];refine yp (v := .pointer none) rfl (zf (za (ze (zw (ze (z8 (yp (pP rfl) (yp (ZM rfl rfl) (yp (pB rfl) (zf (za (zH rfl (ze (z8 (yp pC (zf (za (zJ (bret (zU ?_))))))))))))))))))));exact zI (rI rfl) ⟨_, zB.sp, rfl, _, hS0, rfl⟩
 | some i =>
  obtain ⟨e, hf, he, rfl, hek⟩ := Ut h.q hb;have hpn := h.q.pn e.i (by rw [← h.q.its]; exact List.mem_map.2 ⟨e, he, rfl⟩);rw [hf];rw [show Uo k by_ S = if KW (e.i.pins + by_) 1000 = false then (S, 1) else (⟨WM S.I (fk k) (e.i.pins + by_), S.P, S.Q, S.V⟩, 0) from by unfold Uo; rw [hb]];obtain ⟨A, B, rfl, hout⟩ := WR h.q.tJ he;refine yp (v := .pointer (some ⟨e.eb, 0, none⟩)) rfl (zf (za ?_));refine zo (S0 := [(p4, .cells (W9 k) 43)] :: ZW sb ab tb mb lb db ev :: HA :: HT :: HM :: HL :: HD :: HV :: Es (A ++ e :: B)) ?_ ?_
  ·exact zB.of
  refine zo zB.em (ze (zw (ze (z8 (yp (pP rfl) (yp (ZM rfl rfl) (yp (pB rfl) (zf (za (zA rfl (ze (z8 (yp (pP rfl) (yp (zG rfl) (yp (zn rfl) ?_)))))))))))))));refine zh (zD rfl rfl ?_);refine yp (pI rfl) (yp (Wv rfl rfl (by omega)) ?_);refine zh (zk (UF (e.i.pins + by_) 1000) rfl rfl fun r S' h => ?_);obtain ⟨rfl, rfl⟩ := h;refine yp (Zg rfl) (yp (pB rfl) (zf (za ?_)));cases hw : KW (e.i.pins + by_) 1000 with
  | false =>
   rw [if_pos rfl];refine zH rfl (ze (z8 (yp pC (zf (za (zJ (bret (zU ?_))))))));exact zI (rI rfl) ⟨_, zB.Il (e := e), rfl, _, hS0, rfl⟩
  | true =>
   rw [if_neg (by decide)];have hw2 := (VX _ _).1 hw;refine zA rfl (zq (zR (za (ze (z8 (yp (pP rfl) (yp (zG rfl) (yp (zn rfl) ?_))))))));refine zh (zD rfl rfl ?_);refine yp (pI rfl) (yp (Wv rfl rfl (by omega)) (yp (zG rfl) (yp (zn rfl) ?_)));refine zh (bG rfl rfl (uK rfl) ?_);refine zf (za (ze (z8 (yp pC (zf (za (zJ ?_)))))));have hp2 : Sp N ⟨WM S.I (fk k) (e.i.pins + by_), S.P, S.Q, S.V⟩ (A ++ JD (e.i.pins + by_) e :: B) D L ab tb mb lb db ev HA HT HM HL HD HV := by
    refine ⟨⟨?_, ?_, ?_, ?_, ?_, ?_⟩, h.a, h.t, ?_, h.l, ?_, h.v⟩
    ·rw [dJ h.q.tJ, h.q.its, hek]
    ·have : (A ++ JD (e.i.pins + by_) e :: B).map En.z = (A ++ e :: B).map En.z := by rw [List.map_append, List.map_append]; rfl
     rw [this]; exact h.q.pk
    ·show (keys (WM _ _ _)).Nodup;rw [xL]; exact h.q.kn
    ·intro i hi;obtain ⟨j, hj, rfl⟩ := List.mem_map.1 hi;have := h.q.kz j hj;show (if j.k = fk k then { j with pins := e.i.pins + by_ } else j).k = Za (if j.k = fk k then { j with pins := e.i.pins + by_ } else j).s;split <;> exact this
    ·show (S.P ++ S.Q).Perm (keys (WM _ _ _));rw [xL]; exact h.q.pq
    ·intro i hi;obtain ⟨j, hj, rfl⟩ := List.mem_map.1 hi;show 0 ≤ (if j.k = fk k then { j with pins := e.i.pins + by_ } else j).pins ∧ (if j.k = fk k then { j with pins := e.i.pins + by_ } else j).pins ≤ 1000;split
     ·exact hw2
     ·exact h.q.pn j hj
    ·rw [nH];have : (A ++ JD (e.i.pins + by_) e :: B).length = (A ++ e :: B).length := by simp
     rw [this]; exact h.m
    ·rw [qV]; exact h.d
   exact zI (rI rfl) ⟨_, zB.Il (e := JD (e.i.pins + by_) e), rfl, _, Sr.mk hp2, rfl⟩
theorem og {sb N : Nat} {S : Ss} {H : List Chunk} (hS : Sr sb N S H) (k : Ky) (hkl : k.n.length < 2 ^ 62) :
 Tri Tryz.prog 31 #[.pointer (some ⟨sb, 0, none⟩), .agg (W9 k)] [H] (fun r S' => r = .int .i64 (Uo k 1 S).2 ∧ ∃ H', Sr sb N (Uo k 1 S).1 H' ∧ S' = [H']) := by
 refine Tri.forget (zm Tryz.I6 (Nat.le_of_ble_eq_true rfl) ?_);unfold Tryz.x31;refine ze (z8 ?_);refine zh (Zq rfl fun p3 => ?_);refine yp pC (zf (za (ze (z8 (yp (pP rfl) ?_)))));refine zh (Zp rfl rfl ?_);refine zh (zk (o9 hS k hkl 1 (by decide)) rfl rfl fun r S' h => ?_);obtain ⟨rfl, H1, hS1, rfl⟩ := h;refine yp (pI rfl) (zf (za (zJ ?_)));exact zI (rI rfl) ⟨[H1], .of, rfl, _, hS1, rfl⟩
theorem qQ {sb N : Nat} {S : Ss} {H : List Chunk} (hS : Sr sb N S H) (k : Ky) (hkl : k.n.length < 2 ^ 62) :
 Tri Tryz.prog 34 #[.pointer (some ⟨sb, 0, none⟩), .agg (W9 k)] [H] (fun r S' => r = .int .i64 (Uo k (-1) S).2 ∧ ∃ H', Sr sb N (Uo k (-1) S).1 H' ∧ S' = [H']) := by
 refine Tri.forget (zm Tryz.I4 (Nat.le_of_ble_eq_true rfl) ?_);unfold Tryz.x34;refine ze (z8 ?_);refine zh (Zq rfl fun p3 => ?_);refine yp pC (zf (za (ze (z8 (yp (pP rfl) ?_)))));refine zh (Zp rfl rfl ?_);refine zh (zk (o9 hS k hkl (-1) (by decide)) rfl rfl fun r S' h => ?_);obtain ⟨rfl, H1, hS1, rfl⟩ := h;refine yp (pI rfl) (zf (za (zJ ?_)));exact zI (rI rfl) ⟨[H1], .of, rfl, _, hS1, rfl⟩
end Go.Proofs.YtejmbmenbailmaaGreat
namespace Go.Proofs.YtejmbmenbailmaaGreat
open Go.Xs
open Enc (enc)
/-- what Peek tells -/
def oW (S : Ss) (k : Ky) (H : List Chunk) (r : Value) (S' : zu) : Prop :=
 (Wo S.I (fk k) = none ∧ r = .tuple #[.agg aG, .bool false] ∧ S' = [H]) ∨ ∃ i v HR, Wo S.I (fk k) = some i ∧ r = .tuple #[.agg (gF i v), .bool true] ∧ Zb 88 v (Zy i.s).rrs HR ∧ S' = [HR, H]
theorem rA {sb N : Nat} {S : Ss} {H : List Chunk} (hS : Sr sb N S H) (k : Ky) (hkl : k.n.length < 2 ^ 62) :
 Tri Tryz.prog 39 #[.pointer (some ⟨sb, 0, none⟩), .agg (W9 k)] [H] (oW S k H) := by
 obtain ⟨W, D, L, ab, tb, mb, lb, db, ev, HA, HT, HM, HL, HD, HV, h, rfl⟩ := hS;refine Tri.forget (Tri.iU (zm Tryz.Hu (Nat.le_of_ble_eq_true rfl) ?_));unfold Tryz.x39;refine ze (z8 ?_);refine zh (Zq rfl fun p3 => ?_);refine zh (Zf fun p4 => ?_);refine yp pC (zf (za (ze (z8 (yp (pP rfl) ?_)))));refine zh (Zp rfl rfl ?_);refine zh (zk (kU (ab := ab) (tb := tb) (lb := lb) (db := db) (ev := ev) h.m k hkl) rfl rfl fun r S' h => ?_);obtain ⟨rfl, rfl⟩ := h;cases hb : Wo S.I (fk k) with
 | none =>
  rw [xV h.q hb];refine yp (v := .pointer none) rfl (zf (za (ze (ze (z8 (yp (pP rfl) (yp (ZM rfl rfl) (zf (za (zH rfl (ze (z8 (yp VZ ?_)))))))))))));refine zh (WL rfl rfl rfl rfl rfl ?_);refine yp pC (zf (za (zJ (zU ?_))));exact zI (UJ (dL (b := p4) qp Js rfl rfl) (om rfl)) ⟨_, zB.sp, .inl ⟨hb, rfl, rfl⟩⟩
 | some i =>
  obtain ⟨e, hf, he, rfl, hek⟩ := Ut h.q hb;rw [hf];have hC := dA (sb := sb) (mb := mb) (lb := lb) (db := db) (ev := ev) h.q h.a h.t he;obtain ⟨A, B, rfl, hout⟩ := WR h.q.tJ he;refine yp (v := .pointer (some ⟨e.eb, 0, none⟩)) rfl (zf (za ?_));refine zo (S0 := [(p4, .cells aG 76)] :: [(p3, .cells (W9 k) 43)] :: ZW sb ab tb mb lb db ev :: HA :: HT :: HM :: HL :: HD :: HV :: Es (A ++ e :: B)) ?_ ?_
  ·exact zB.of
  refine zo (zB.cons zB.em) (ze (ze (z8 (yp (pP rfl) (yp (ZM rfl rfl) (zf (za (zA rfl (zq (za (ze (z8 (yp (pP rfl) (yp (pP rfl) ?_))))))))))))));refine zh (zk hC rfl rfl fun r S' h => ?_);obtain ⟨v, HR, rfl, hR, rfl⟩ := h;obtain ⟨a, c, rfl⟩ := hR.isSlice;refine zh (WL rfl rfl rfl rfl rfl ?_);refine yp pC (zf (za (zJ ?_)));exact zI (UJ (dL (b := p4) qp Js rfl rfl) (om rfl)) ⟨_, zB.ec (x := HR) (e := e), .inr ⟨e.i, _, HR, hb, rfl, hR, rfl⟩⟩
/-- what Get tells, and makes of the store -/
def nQ (sb N : Nat) (S : Ss) (k : Ky) (now : Int) (H : List Chunk) (r : Value) (S' : zu) : Prop :=
 ((∀ i, Wo S.I (fk k) = some i → i.exp ≤ now) ∧ r = .tuple #[.agg aG, .bool false] ∧ S' = [H]) ∨ ∃ i v HR H', Wo S.I (fk k) = some i ∧ now < i.exp ∧ r = .tuple #[.agg (gF i v), .bool true] ∧ Zb 88 v (Zy i.s).rrs HR ∧ Sr sb N ⟨S.I, Ye ((N / 512 : Nat) : Int) (fk k) S.P S.Q, Yd ((N / 512 : Nat) : Int) (fk k) S.P S.Q, S.V⟩ H' ∧ S' = [HR, H']
theorem dB {sb N : Nat} {S : Ss} {H : List Chunk} (hS : Sr sb N S H) (k : Ky) (hkl : k.n.length < 2 ^ 62) (now : Int) :
 Tri Tryz.prog 40 #[.pointer (some ⟨sb, 0, none⟩), .agg (W9 k), .int .i64 now] [H] (nQ sb N S k now H) := by
 have hnb := hS.nb;obtain ⟨W, D, L, ab, tb, mb, lb, db, ev, HA, HT, HM, HL, HD, HV, h, rfl⟩ := hS;refine Tri.forget (Tri.iU (zm Tryz.Ht (Nat.le_of_ble_eq_true rfl) ?_));unfold Tryz.Lm;refine ze (z8 ?_);refine zh (Zq rfl fun p4 => ?_);refine zh (Zf fun p6 => ?_);refine yp pC (zf (za (ze (z8 (yp (pP rfl) ?_)))));refine zh (Zp rfl rfl ?_);refine zh (zk (kU (ab := ab) (tb := tb) (lb := lb) (db := db) (ev := ev) h.m k hkl) rfl rfl fun r S' h => ?_);obtain ⟨rfl, rfl⟩ := h;cases hb : Wo S.I (fk k) with
 | none =>
  rw [xV h.q hb];refine yp (v := .pointer none) rfl (zf (za (ze (ze (z8 (yp (pP rfl) (yp (ZM rfl rfl) (yp (pB rfl) (zW rfl (zW rfl (zW rfl (zW rfl (zW rfl (zW rfl (yp (zM rfl rfl) (zf (za (zH rfl (ze (z8 (yp VZ ?_)))))))))))))))))))));refine zh (WL rfl rfl rfl rfl rfl ?_);refine yp pC (zf (za (zJ (zU ?_))));exact zI (UJ (dL (b := p6) qp Js rfl rfl) (om rfl)) ⟨_, zB.sp, .inl ⟨(fun i hi => by rw [hb] at hi; exact absurd hi (by simp)), rfl, rfl⟩⟩
 | some i =>
  obtain ⟨e, hf, he, rfl, hek⟩ := Ut h.q hb;rw [hf];have hkm : fk k ∈ keys S.I := by rw [← hek]; exact List.mem_map.2 ⟨e.i, (jY hb).1, rfl⟩
  have hC := dA (sb := sb) (mb := mb) (lb := lb) (db := db) (ev := ev) (h.q.touch (m := ((N / 512 : Nat) : Int)) hkm) h.a h.t he;obtain ⟨A, B, rfl, hout⟩ := WR h.q.tJ he;refine yp (v := .pointer (some ⟨e.eb, 0, none⟩)) rfl (zf (za ?_));refine zo (S0 := [(p6, .cells aG 76)] :: [(p4, .cells (W9 k) 43)] :: ZW sb ab tb mb lb db ev :: HA :: HT :: HM :: HL :: HD :: HV :: Es (A ++ e :: B)) ?_ ?_
  ·exact zB.of
  refine zo (zB.cons zB.em) (ze (ze (z8 (yp (pP rfl) (yp (ZM rfl rfl) (yp (pB rfl) (Z4 rfl (Z9 (pP rfl) (Z4 rfl (Z9 (zG rfl) (Z4 rfl (Z9 (zn rfl) (Z4 rfl ?_)))))))))))));refine (zD rfl rfl ?_);refine Z4 rfl (Z9 (pI rfl) (Z4 rfl (Z9 (jy rfl rfl) (yp (zS rfl rfl) (zf (za ?_))))));by_cases hx : e.i.exp ≤ now
  ·rw [decide_eq_true hx];refine zH rfl (ze (z8 (yp VZ ?_)));refine zh (WL rfl rfl rfl rfl rfl ?_);refine yp pC (zf (za (zJ (zU ?_))));exact zI (UJ (dL (b := p6) qp Js rfl rfl) (om rfl)) ⟨_, zB.Il (e := e), .inl ⟨(fun i hi => by rw [hb] at hi; obtain rfl := Option.some.inj hi; exact hx), rfl, rfl⟩⟩
  ·rw [decide_eq_false hx];refine zA rfl (zq (za (ze (zX (zi (pP rfl) (zi (zG rfl) (zi (zn rfl) (Z5 rfl rfl (WG rfl rfl ?_)))))))));refine Zj (zk (kT k hkl) rfl rfl fun r S' h => ?_) zO;obtain ⟨rfl, rfl⟩ := h;refine ⟨fun _ h => h, ?_⟩;refine zP (zk (mX h.l (by omega) (by omega) (fk k)) rfl rfl fun r S' h => ?_) zO;obtain ⟨rfl, HL1, hL1, rfl⟩ := h;refine zL (za (ze (z8 (yp (pP rfl) (yp (pP rfl) ?_)))));refine zh (zk hC rfl rfl fun r S' h => ?_);obtain ⟨v, HR, rfl, hR, rfl⟩ := h;obtain ⟨a, c, rfl⟩ := hR.isSlice;refine zh (WL rfl rfl rfl rfl rfl ?_);refine yp pC (zf (za (zJ ?_)));exact zI (UJ (dL (b := p6) qp Js rfl rfl) (om rfl)) ⟨_, zB.ec (x := HR) (e := e), .inr ⟨e.i, _, HR, _, hb, by omega, rfl, hR, Sr.mk ⟨h.q.touch hkm, h.a, h.t, h.m, hL1, h.d, h.v⟩, rfl⟩⟩
end Go.Proofs.YtejmbmenbailmaaGreat
namespace Go.Proofs.YtejmbmenbailmaaGreat
open Go.Xs
open Enc (enc)
theorem Af : isAgg? Tryz.prog 4 = some false := by kernel_rfl
theorem pfx {α : Type} {L : List α} {f : α → Array Value} {pre : List (Array Value)} {x : Array Value} (h : pre ++ [x] <+: L.map f) : ∃ (hl : pre.length < L.length), x = f L[pre.length] := by
 obtain ⟨t, ht⟩ := h;have h1 : (L.map f)[pre.length]? = some x := by
  rw [← ht, List.append_assoc, List.getElem?_append_right (Nat.le_refl _), Nat.sub_self]; rfl
 rw [List.getElem?_map] at h1;obtain ⟨y, hy, rfl⟩ := Option.map_eq_some_iff.1 h1;obtain ⟨hl, rfl⟩ := List.getElem?_eq_some_iff.1 hy;exact ⟨hl, rfl⟩
theorem yJ {f : Ky → Bool} : ∀ {l : List Ky} {n : Nat} {k : Ky}, (∀ x ∈ l.take n, f x = false) → l[n]? = some k → f k = true → l.find? f = some k
 | y :: l, 0, k, _, hk, hf => by
  rw [List.getElem?_cons_zero] at hk;obtain rfl := Option.some.inj hk;rw [List.find?_cons, hf]
 | y :: l, n + 1, k, hn, hk, hf => by
  rw [List.getElem?_cons_succ] at hk;rw [List.find?_cons, hn y (by simp)];exact yJ (fun x hx => hn x (by rw [List.take_succ_cons]; exact List.mem_cons_of_mem _ hx)) hk hf
theorem YR {f : Ky → Bool} {l : List Ky} (h : ∀ x ∈ l, f x = false) : l.find? f = none := by
 rw [List.find?_eq_none];intro x hx;rw [h x hx]; decide
theorem KX {now : Int} {I : List It} {e : De} (h : e ∈ upto now (I.map It.de)) : e.k ∈ keys I := by
 unfold upto at h;have h1 := (List.mem_filter.1 h).1;have h2 := (yw (key := Ua) (I.map It.de)).mem_iff.1 h1;obtain ⟨i, hi, rfl⟩ := List.mem_map.1 h2;exact List.mem_map.2 ⟨i, hi, rfl⟩
theorem Kq {S : Ss} {W : List En} {D : List (Option Bt)} {L : List Nm} (hq : Sq S W D L) {k : Ky} (h : k ∈ keys S.I) : ∃ e, Ya W k = some e ∧ e ∈ W ∧ Wo S.I k = some e.i ∧ free S.I k = decide (e.i.pins = 0) := by
 cases hb : Wo S.I k with
 | none => exact absurd h (WB.1 hb)
 | some i =>
  obtain ⟨e, hf, he, rfl, _⟩ := Ut hq hb;exact ⟨e, hf, he, rfl, by unfold free; rw [hb]⟩
theorem fI {now : Int} {S : Ss} {n : Nat} {e : De} (hn : ∀ x ∈ (upto now (S.I.map It.de)).take n, free S.I x.k = false) (he : (upto now (S.I.map It.de))[n]? = some e) (hf : free S.I e.k = true) : VK now S = some e.k := by
 unfold VK due;rw [List.find?_append];have : ((upto now (S.I.map It.de)).map (·.k)).find? (free S.I) = some e.k := yJ (n := n) (fun x hx => by
  rw [← List.map_take] at hx;obtain ⟨y, hy, rfl⟩ := List.mem_map.1 hx;exact hn y hy) (by rw [List.getElem?_map, he]; rfl) hf
 rw [this]; rfl
theorem fH {now : Int} {S : Ss} (hn : ∀ x ∈ upto now (S.I.map It.de), free S.I x.k = false) : VK now S = (S.P ++ S.Q).find? (free S.I) := by
 unfold VK due;rw [List.find?_append];have : ((upto now (S.I.map It.de)).map (·.k)).find? (free S.I) = none := YR fun x hx => by
  obtain ⟨y, hy, rfl⟩ := List.mem_map.1 hx;exact hn y hy
 rw [this]; rfl
theorem Yt {α : Type} {L : List α} {n : Nat} (h : n < L.length) {p : α → Prop} (hp : ∀ x ∈ L.take n, p x) (hx : p L[n]) : ∀ x ∈ L.take (n + 1), p x := fun x hx' => by
 rw [List.take_succ_eq_append_getElem h] at hx';rcases List.mem_append.1 hx' with h1 | h1
 ·exact hp x h1
 ·rw [List.mem_singleton.1 h1]; exact hx
abbrev Ak (p2 p4 p5 sb : Nat) (k : Ky) (b : Bool) : zu := [[(p2, .cells #[.pointer (some ⟨sb, 0, none⟩)] 63)], [(p4, .cells (W9 k) 43)], [(p5, .cells #[.bool b] 4)]]
theorem rC {sb N : Nat} {S : Ss} {H : List Chunk} (hS : Sr sb N S H) (now : Int) :
 Tri Tryz.prog 78 #[.pointer (some ⟨sb, 0, none⟩), .int .i64 now] [H] (fun r S' => r = .tuple #[.agg (W9 ((VK now S).getD ⟨[], 0⟩)), .bool (VK now S).isSome] ∧ S' = [H]) := by
 have hnb := hS.nb;obtain ⟨W, D, L, ab, tb, mb, lb, db, ev, HA, HT, HM, HL, HD, HV, h, rfl⟩ := hS;refine Tri.forget (Tri.iU (zm Tryz.Gy (Nat.le_of_ble_eq_true rfl) ?_));unfold Tryz.II;refine ze (z8 ?_);refine zh (iT (Jd rfl) fun p2 => ?_);refine zh (Zf fun p4 => ?_);refine zh (Zf fun p5 => ?_);refine zf (za (ze (ze (z8 ?_))));refine zh (zD rfl rfl ?_);refine yp (zG rfl) (yp (zn rfl) ?_);refine zh (zD rfl rfl ?_);refine yp (pI rfl) ?_;refine zh (zk fT rfl rfl fun r S' h => ?_);obtain ⟨bd, ba, rfl, rfl⟩ := h;refine zf (za (zw ?_));have hdl : (S.I.map It.de).length < 2 ^ 38 := by rw [List.length_map]; omega
 have hmemT : ∀ {e : En}, e ∈ W → ∀ {X : zu}, jR e ∈ X ++ Es W := fun he X => List.mem_append.2 (.inr (X6 he))
 refine XP (fun pre T => (∀ x ∈ (upto now (S.I.map It.de)).take pre.length, free S.I x.k = false) ∧ zB T (Ak p2 p4 p5 sb ⟨[], 0⟩ false ++ (ZW sb ab tb mb lb db ev :: HA :: HT :: HM :: HL :: HD :: HV :: Es W)))
  (fun e pre T => e = .ret ∧ ∃ k, VK now S = some k ∧ zB T (Ak p2 p4 p5 sb k true ++ (ZW sb ab tb mb lb db ev :: HA :: HT :: HM :: HL :: HD :: HV :: Es W)))
  rfl rfl (jG (db := db) (bd := bd) (ba := ba) (S0 := Ak p2 p4 p5 sb ⟨[], 0⟩ false ++ (ZW sb ab tb mb lb db ev :: HA :: HT :: HM :: HL :: HV :: Es W)) h.d hdl now) ⟨by simp, .of⟩ ?_ ?_ ?_ ?_
 ·intro pre x hx;obtain ⟨_, rfl⟩ := pfx hx;rfl
 ·rintro l pre x T hx ⟨hn, hJ⟩;obtain ⟨hl, rfl⟩ := pfx hx;have hm := List.getElem_mem hl;have hg : (upto now (S.I.map It.de))[pre.length]? = some (upto now (S.I.map It.de))[pre.length] := List.getElem?_eq_getElem hl;have hst := Yt hl hn;generalize (upto now (S.I.map It.de))[pre.length] = d at hm hg hst;obtain ⟨e, hf, he, hb, hfr⟩ := Kq h.q (KX hm);refine zo hJ (z8 ?_);refine zh (Zf fun p6 => ?_);refine zh (WL rfl rfl rfl rfl rfl ?_);refine zf (za (zw (ze (zX (Z5 rfl rfl (zi (zG rfl) (zi (zn rfl) (Z5 rfl rfl (WG rfl rfl ?_)))))))));refine Zj (Vs h.m (by repeat (first | exact List.mem_cons_self | apply List.mem_cons_of_mem)) d.k Ue nu pz rfl rfl (jS hf) ⟨fun _ h => h, ?_⟩) zO;refine zi (zG rfl) (zi (zn rfl) (KP (v := .int .i64 e.i.pins) (by repeat (first | exact X6 he | apply List.mem_cons_of_mem)) rfl rfl (zi (vg rfl rfl) (zL (za ?_)))));by_cases hp : e.i.pins = 0
  ·rw [decide_eq_true hp] at hfr ⊢;have hnx := fI hn hg hfr;refine zH rfl (ze (z8 ?_));refine zh (Zp rfl rfl ?_);refine zh (WL rfl rfl rfl rfl rfl ?_);refine zh (ZJ rfl rfl (Ai rfl) ?_);refine zf (za (zJ (bret ?_)));exact ⟨rfl, d.k, hnx, .of⟩
  ·rw [decide_eq_false hp] at hfr ⊢;refine zA rfl (zq (zR ?_));exact ⟨by rw [List.length_append]; exact hst hfr, .of⟩
 ·rintro xs S' hd ⟨hn, hJ⟩;have hxl : xs.length = (upto now (S.I.map It.de)).length := by rw [hd, List.length_map]
  rw [hxl, List.take_length] at hn;have hnx := fH (now := now) (S := S) hn;refine zR (za ?_);refine zo hJ (ze (ze (z8 ?_)));refine zh (zD rfl rfl ?_);refine yp (zG rfl) (yp (zn rfl) ?_);refine zh (zD rfl rfl ?_);refine zh (zk mY rfl rfl fun r S' h => ?_);obtain ⟨bl, rfl, rfl⟩ := h;refine zf (za (zw ?_));refine XP (fun pre T => (∀ x ∈ (S.P ++ S.Q).take pre.length, free S.I x = false) ∧ zB T (Ak p2 p4 p5 sb ⟨[], 0⟩ false ++ (ZW sb ab tb mb lb db ev :: HA :: HT :: HM :: HL :: HD :: HV :: Es W)))
   (fun e pre T => e = .ret ∧ ∃ k, VK now S = some k ∧ zB T (Ak p2 p4 p5 sb k true ++ (ZW sb ab tb mb lb db ev :: HA :: HT :: HM :: HL :: HD :: HV :: Es W)))
   rfl rfl (aB (bl := bl) (S0 := Ak p2 p4 p5 sb ⟨[], 0⟩ false ++ (ZW sb ab tb mb lb db ev :: HA :: HT :: HM :: HD :: HV :: Es W)) h.l (by omega) (by omega)) ⟨by simp, .of⟩ ?_ ?_ ?_ ?_
  ·intro pre x hx;obtain ⟨_, rfl⟩ := pfx hx;rfl
  ·rintro l pre x T hx ⟨hn2, hJ⟩;obtain ⟨hl, rfl⟩ := pfx hx;have hm := List.getElem_mem hl;have hg : (S.P ++ S.Q)[pre.length]? = some (S.P ++ S.Q)[pre.length] := List.getElem?_eq_getElem hl;have hst := Yt hl hn2;generalize (S.P ++ S.Q)[pre.length] = d at hm hg hst;obtain ⟨e, hf, he, hb, hfr⟩ := Kq h.q (h.q.pq.mem_iff.1 hm);refine zo hJ (z8 ?_);refine zh (Zf fun p7 => ?_);refine zh (WL rfl rfl rfl rfl rfl ?_);refine zf (za (zw (ze (zX (Z5 rfl rfl (zi (zG rfl) (zi (zn rfl) (Z5 rfl rfl (WG rfl rfl ?_)))))))));refine Zj (Vs h.m (by repeat (first | exact List.mem_cons_self | apply List.mem_cons_of_mem)) d Ue nu pz rfl rfl (jS hf) ⟨fun _ h => h, ?_⟩) zO;refine zi (zG rfl) (zi (zn rfl) (KP (v := .int .i64 e.i.pins) (by repeat (first | exact X6 he | apply List.mem_cons_of_mem)) rfl rfl (zi (vg rfl rfl) (zL (za ?_)))));by_cases hp : e.i.pins = 0
   ·rw [decide_eq_true hp] at hfr ⊢;refine zH rfl (ze (z8 ?_));refine zh (Zp rfl rfl ?_);refine zh (WL rfl rfl rfl rfl rfl ?_);refine zh (ZJ rfl rfl (Ai rfl) ?_);refine zf (za (zJ (bret ?_)));exact ⟨rfl, d, by rw [hnx]; exact yJ hn2 hg hfr, .of⟩
   ·rw [decide_eq_false hp] at hfr ⊢;refine zA rfl (zq (zR ?_));exact ⟨by rw [List.length_append]; exact hst hfr, .of⟩
  ·rintro xs S' hd ⟨hn2, hJ⟩;have hxl : xs.length = (S.P ++ S.Q).length := by rw [hd, List.length_map]
   rw [hxl, List.take_length] at hn2;rw [YR hn2] at hnx;refine zR (za ?_);refine zo hJ (ze (z8 (yp VZ ?_)));refine zh (WL rfl rfl rfl rfl rfl ?_);refine zh (ZJ rfl rfl (Ai rfl) ?_);refine zf (za (zJ ?_));rw [hnx];exact zI (UJ (dL (b := p4) nN qO rfl rfl) (Fj (b := p5) Af rfl)) ⟨_, zB.sp, rfl, rfl⟩
  ·rintro e pre S' _ ⟨rfl, k, hk, hJ⟩;rw [hk];refine bret (zU ?_);exact zI (YC hJ (UJ (dL (b := p4) nN qO rfl rfl) (Fj (b := p5) Af rfl))) ⟨_, hJ.trans zB.sp, rfl, rfl⟩
 ·rintro e pre S' _ ⟨rfl, k, hk, hJ⟩;rw [hk];refine bret (zU ?_);exact zI (YC hJ (UJ (dL (b := p4) nN qO rfl rfl) (Fj (b := p5) Af rfl))) ⟨_, hJ.trans zB.sp, rfl, rfl⟩
end Go.Proofs.YtejmbmenbailmaaGreat
namespace Go.Proofs.YtejmbmenbailmaaGreat
open Go.Xs
open Enc (enc)
instance (priority := low) Sub.appSuf {A S : zu} : Sub (A ++ S) S A := ⟨by rw [List.flatten_append]; exact List.perm_append_comm⟩
theorem zB.LU {sb ab tb mb lb db : Nat} {ev : Value} {HA HT HM HL HD HV : List Chunk} {W : List En} {S0 : zu} : zB (sH sb ab tb mb lb db ev HA HT HM HL HD HV W :: S0) (ZW sb ab tb mb lb db ev :: HA :: HT :: HM :: HL :: HD :: HV :: (Es W ++ S0)) := ⟨[], by simp [sH]⟩
theorem zB.add {x : List Chunk} {S G S0 : zu} {sb ab tb mb lb db : Nat} {ev : Value} {HA HT HM HL HD HV : List Chunk} {W : List En} {e : En} (hx : x = jR e) [h : Sub S (x :: ZW sb ab tb mb lb db ev :: HA :: HT :: HM :: HL :: HD :: HV :: (Es W ++ S0)) G] :
 zB S (sH sb ab tb mb lb db ev HA HT HM HL HD HV (W ++ [e]) :: S0) := zB.trans (zB.of (h := h)) ⟨[], by
 subst hx;have e1 : Es (W ++ [e]) = Es W ++ [jR e] := qy W [e];simp only [sH, e1, List.flatten_cons, List.flatten_nil, List.flatten_append, List.append_nil, List.append_assoc];have := (UN [] (ZW sb ab tb mb lb db ev ++ (HA ++ (HT ++ (HM ++ (HL ++ (HD ++ (HV ++ (Es W).flatten))))))) (jR e) S0.flatten).symm;simpa only [List.nil_append, List.append_assoc] using this⟩
theorem zB.LW {x y : List Chunk} {S G S0 : zu} {sb ab tb mb lb db : Nat} {ev : Value} {HA HT HM HL HD HV : List Chunk} {W : List En} [h : Sub S (x :: y :: ZW sb ab tb mb lb db ev :: HA :: HT :: HM :: HL :: HD :: HV :: (Es W ++ S0)) G] : zB S (x :: y :: sH sb ab tb mb lb db ev HA HT HM HL HD HV W :: S0) := zB.trans (zB.of (h := h)) ⟨[], by simp [sH]⟩
theorem zB.M6 {S G S0 : zu} {sb ab tb mb lb db : Nat} {ev : Value} {HA HT HM HL HD HV : List Chunk} {W : List En} [h : Sub S (ZW sb ab tb mb lb db ev :: HA :: HT :: HM :: HL :: HD :: HV :: (Es W ++ S0)) G] : zB S (sH sb ab tb mb lb db ev HA HT HM HL HD HV W :: S0) := zB.trans (zB.of (h := h)) ⟨[], by simp [sH]⟩
theorem Tri.op {P : Program} {f : FuncId} {args : Array Value} {R : Value → zu → Prop} {sb ab tb mb lb db : Nat} {ev : Value} {HA HT HM HL HD HV : List Chunk} {W : List En} (h : Tri P f args [sH sb ab tb mb lb db ev HA HT HM HL HD HV W] R) : Tri P f args (ZW sb ab tb mb lb db ev :: HA :: HT :: HM :: HL :: HD :: HV :: Es W) R := h.perm (by simp [sH])
theorem lG {sb ab tb mb lb db N : Nat} {ev : Value} {D : List (Option Bt)} {HA : List Chunk} (hA : Ar ab N D HA) : Tri Tryz.prog 37 #[.pointer (some ⟨sb, 0, none⟩)] [ZW sb ab tb mb lb db ev, HA] (fun r S' => r = .int .i64 ((N - Zd D : Nat) : Int) ∧ S' = [ZW sb ab tb mb lb db ev, HA]) := by
 refine Tri.forget (zm Tryz.Hz (Nat.le_of_ble_eq_true rfl) ?_);unfold Tryz.Lp;refine ze (z8 (yp pC (zf (za (ze (ze (z8 (yp (pP rfl) (yp (ZM rfl rfl) (zf (za (zA rfl (zq (za (ze (z8 (yp (pP rfl) (yp (zG rfl) (yp (zn rfl) ?_)))))))))))))))))));refine zh (zD rfl rfl ?_);refine zh (zk (nM hA) rfl rfl fun r S' h => ?_);obtain ⟨rfl, rfl⟩ := h;refine yp (pI rfl) (zf (za (zJ ?_)));exact zI (rI rfl) ⟨_, .of, rfl, rfl⟩
theorem mU {now : Int} {S : Ss} {k : Ky} (h : VK now S = some k) : ∃ i, Wo S.I k = some i ∧ i.pins = 0 := by
 have hf := List.find?_some h;unfold free at hf;cases hb : Wo S.I k with
 | none => rw [hb] at hf; cases hf
 | some i => rw [hb] at hf; exact ⟨i, rfl, of_decide_eq_true hf⟩
theorem uP {I : List It} (hn : (keys I).Nodup) {k : Ky} {i : It} (h : Wo I k = some i) : I.length = (WS I k).length + 1 := by
 obtain ⟨hi, rfl⟩ := jY h;clear h
 induction I with
 | nil => simp at hi
 | cons j I ih =>
  have hn2 := List.nodup_cons.1 hn;unfold WS at ih ⊢;rw [List.filter_cons];by_cases hj : j.k = i.k
  ·rw [if_neg (by simp [hj]), List.filter_eq_self.2, List.length_cons];intro y hy;have : y.k ≠ i.k := fun q => hn2.1 (List.mem_map.2 ⟨y, hy, q.trans hj.symm⟩)
   simpa using this
  ·rw [if_pos (by simp [hj]), List.length_cons, List.length_cons, ih hn2.2 ?_];rcases List.mem_cons.1 hi with rfl | hi
   ·exact absurd rfl hj
   ·exact hi
theorem nK {I : List It} {k k' : Ky} (h : Wo I k = none) : Wo (WS I k') k = none := by
 rw [WB] at h ⊢;rw [U3];exact fun hm => h (List.mem_filter.1 hm).1
theorem iC (I : List It) (k : Ky) : Wo (WS I k) k = none := by
 rw [WB, U3];intro hm;have := (List.mem_filter.1 hm).2;simp at this
theorem dH {N : Nat} {K k : Ky} {s : St} {rank now exp : Int} {S : Ss} {i : It} (hn : (keys S.I).Nodup) (h : UZ N S < uE (sets S.I) s) (hk : VK now S = some k) (hb : Wo S.I k = some i) : Uk N K s rank now exp S = Uk N K s rank now exp (Jf k S) := by
 have hl := uP hn hb;unfold Uk;have e1 : uM N now s S.I.length S = uM N now s (Jf k S).I.length (Jf k S) := by
  rw [hl, uM, if_pos h, hk]; rfl
 rw [e1]
theorem rG {N : Nat} {K : Ky} {s : St} {rank now exp : Int} {S : Ss} (h : UZ N S < uE (sets S.I) s) (hk : VK now S = none) : Uk N K s rank now exp S = (S, 4) := by
 unfold Uk;have e1 : uM N now s S.I.length S = (S, false) := by
  cases S.I.length with
  | zero => rw [uM, decide_eq_false (by omega)]
  | succ n => rw [uM, if_pos h, hk]
 rw [e1]
theorem dI {N : Nat} {K : Ky} {s : St} {rank now exp : Int} {S : Ss} (h : ¬ UZ N S < uE (sets S.I) s) : Uk N K s rank now exp S = (⟨S.I ++ [⟨K, s, rank, now, exp, 0⟩], S.P ++ [K], S.Q, S.V⟩, 0) := by
 unfold Uk;have e1 : uM N now s S.I.length S = (S, true) := by
  cases S.I.length with
  | zero => rw [uM, decide_eq_true (by omega)]
  | succ n => rw [uM, if_neg h]
 rw [e1]
theorem Sr.kn {sb N : Nat} {S : Ss} {H : List Chunk} (h : Sr sb N S H) : (keys S.I).Nodup := by
 obtain ⟨W, D, L, ab, tb, mb, lb, db, ev, HA, HT, HM, HL, HD, HV, h, rfl⟩ := h;exact h.q.kn
abbrev dZ (p6 : Nat) (s : St) (v : Value) : List Chunk := [(p6, .cells (bA s v) 46)]
abbrev fV (p : Nat) (k : Ky) : List Chunk := [(p, .cells (W9 k) 43)]
set_option maxRecDepth 10000 in
set_option maxHeartbeats 1000000 in
theorem dz {sb N : Nat} {S : Ss} {H : List Chunk} {S0 : zu} {s : St} {v : Value} (hS : Sr sb N S H) (hs : Ja s) (hv : Src S0 v s.rrs) (hV : S.V.length + S.I.length < 2 ^ 30) (rank now exp : Int) :
 Tri Tryz.prog 29 #[.pointer (some ⟨sb, 0, none⟩), .agg (bA s v), .int .i64 rank, .int .i64 now, .int .i64 exp] (H :: S0) (fun r S' => r = .int .i64 (UM N s rank now exp S).2 ∧ ∃ H', Sr sb N (UM N s rank now exp S).1 H' ∧ S' = H' :: S0) := by
 have hsn := hs.name;refine Tri.forget (zm Tryz.I8 (Nat.le_of_ble_eq_true rfl) ?_);unfold Tryz.x29;obtain ⟨va, vc, rfl⟩ := hv.isSlice;refine ze (z8 ?_);refine zh (Zq rfl fun p6 => ?_);refine yp pC (zf (za (ze (ze (z8 ?_)))));refine zh (Zp rfl rfl ?_);refine zh (zk (K8 hs hv) rfl rfl fun r S' h => ?_);obtain ⟨rfl, h⟩ := h;have h := h.symm;subst h;rcases Decidable.em (wz s ≠ 0) with hE | hE
 ·have hP : UM N s rank now exp S = (S, wz s) := by unfold UM; rw [if_pos hE]
  rw [hP];refine yp (pU rfl) (yp (pExt rfl rfl) (yp (pExt rfl rfl) (yp (pI rfl) (yp (pI rfl) (zf (za (ze (z8 (yp (pI rfl) (yp (Xd rfl rfl) (zf (za ?_))))))))))));rw [decide_eq_false hE];refine zH rfl (ze (z8 (yp (pI rfl) (yp (pI rfl) (zf (za (zJ (zU ?_))))))));exact zI (rI rfl) ⟨_, .of, rfl, _, hS, rfl⟩
 have hE := Decidable.not_not.1 hE;have hP0 : UM N s rank now exp S = if Je rank now exp = false then (S, 1) else JC N s rank now exp S := by unfold UM; rw [if_neg (by rw [hE]; decide)]
 rw [hE];refine yp (pU rfl) (yp (pExt rfl rfl) (yp (pExt rfl rfl) (yp (pI rfl) (yp (pI rfl) (zf (za (ze (z8 (yp (pI rfl) (yp (Xd rfl rfl) (zf (za (zA rfl (zq (za ?_)))))))))))))));refine Yl (fun E S' => Has E [(0, .pointer (some ⟨sb, 0, none⟩)), (2, .int .i64 rank), (3, .int .i64 now), (4, .int .i64 exp), (6, .pointer (some ⟨p6, 0, none⟩))] ∧ Je rank now exp = true ∧ zB S' (dZ p6 s (.slice va s.rrs.length vc) :: H :: S0)) ?_ fun E S' ⟨hE2, hok, hJ⟩ => ?_
 ·have hbad : Je rank now exp = false → UM N s rank now exp S = (S, 1) := fun h => by rw [hP0, if_pos h]
  refine ze (z8 (yp (pI rfl) ?_));refine zh (zk (UF now 1099511627776) rfl rfl fun r S' h => ?_);obtain ⟨rfl, rfl⟩ := h;cases h1 : KW now 1099511627776 with
  | false =>
   rw [hbad (by unfold Je; rw [h1]; rfl)];refine yp (Zg rfl) (yp (pB rfl) (zW rfl (zW rfl (zW rfl (yp (zM rfl rfl) (yp (pB rfl) (zW rfl (zW rfl (zW rfl (yp (zM rfl rfl) (yp (pB rfl) (zW rfl (zW rfl (zW rfl (yp (zM rfl rfl) (zf (za (zH rfl (ze (z8 (yp pC (zf (za (zJ (zU ?_)))))))))))))))))))))))));exact zI (rI rfl) ⟨_, .of, rfl, _, hS, rfl⟩
  | true =>
   refine yp (Zg rfl) (yp (pB rfl) (Z4 rfl (Z9 (pI rfl) (Z4 rfl ?_))));refine zk (UF exp 1099511627776) rfl rfl fun r S' h => ?_
   obtain ⟨rfl, rfl⟩ := h;cases h2 : KW exp 1099511627776 with
   | false =>
    rw [hbad (by unfold Je; rw [h1, h2]; rfl)];refine Z4 rfl (Z9 (Zg rfl) (yp (zS rfl rfl) (yp (pB rfl) (zW rfl (zW rfl (zW rfl (yp (zM rfl rfl) (yp (pB rfl) (zW rfl (zW rfl (zW rfl (yp (zM rfl rfl) (zf (za (zH rfl (ze (z8 (yp pC (zf (za (zJ (zU ?_))))))))))))))))))))));exact zI (rI rfl) ⟨_, .of, rfl, _, hS, rfl⟩
   | true =>
    refine Z4 rfl (Z9 (Zg rfl) (yp (zS rfl rfl) (yp (pB rfl) (Z4 rfl (Z9 (pI rfl) (Z4 rfl (Z9 (pI rfl) (Z4 rfl (Z9 (jy rfl rfl) (yp (zS rfl rfl) (yp (pB rfl) ?_)))))))))));by_cases h3 : exp ≤ now
    ·rw [hbad (by unfold Je; rw [h1, h2, decide_eq_true h3]; rfl)];rw [decide_eq_true h3];refine zW rfl (zW rfl (zW rfl (yp (zM rfl rfl) (zf (za (zH rfl (ze (z8 (yp pC (zf (za (zJ (zU ?_)))))))))))));exact zI (rI rfl) ⟨_, .of, rfl, _, hS, rfl⟩
    ·rw [decide_eq_false h3];refine Z4 rfl (Z9 (pI rfl) (Z4 rfl ?_));refine zk (UF rank 9) rfl rfl fun r S' h => ?_
     obtain ⟨rfl, rfl⟩ := h;cases h4 : KW rank 9 with
     | false =>
      rw [hbad (by unfold Je; rw [h4]; simp)];refine Z4 rfl (Z9 (Zg rfl) (yp (zS rfl rfl) (zf (za (zH rfl (ze (z8 (yp pC (zf (za (zJ (zU ?_))))))))))));exact zI (rI rfl) ⟨_, .of, rfl, _, hS, rfl⟩
     | true =>
      refine Z4 rfl (Z9 (Zg rfl) (yp (zS rfl rfl) (zf (za (zA rfl (zq (za ?_)))))));exact ⟨⟨rfl, rfl, rfl, rfl, rfl, trivial⟩, by unfold Je; rw [h1, h2, decide_eq_false h3, h4]; rfl, .of⟩
 rw [hok, if_neg (by decide)] at hP0;obtain ⟨E0, e0⟩ := zy hE2; subst e0; clear hE2;refine zo hJ (ze (ze (z8 (yp (pP rfl) (yp (ZM rfl rfl) (zf (za (zA rfl (zq (za (ze (z8 (yp (zn rfl) ?_)))))))))))));refine zh (wm (l := [sv s.name, .int .i64 s.typ]) rfl rfl rfl ?_);refine zh (zk (kT ⟨s.name, s.typ⟩ (by show s.name.length < _; omega)) rfl rfl fun r S' h => ?_);obtain ⟨rfl, rfl⟩ := h;show YL _ _ _ _ _ (Zc _ (.agg (W9 (Za s))) _) _;refine zh (Zf fun p13 => ?_);refine zh (WL rfl rfl rfl rfl rfl ?_);refine zf (za ?_);refine Yl (fun E S' => Has E [(0, .pointer (some ⟨sb, 0, none⟩)), (2, .int .i64 rank), (3, .int .i64 now), (4, .int .i64 exp), (6, .pointer (some ⟨p6, 0, none⟩)), (13, .pointer (some ⟨p13, 0, none⟩))] ∧ ∃ S1 H1, Sr sb N S1 H1 ∧ Wo S1.I (Za s) = none ∧ UM N s rank now exp S = Uk N (Za s) s rank now exp S1 ∧ S1.V.length + S1.I.length < 2 ^ 30 ∧ zB S' (fV p13 (Za s) :: dZ p6 s (.slice va s.rrs.length vc) :: H1 :: S0)) ?_ fun E S' ⟨hE2, S1, H1, hS1, hb1, hP1, hV1, hJ⟩ => ?_
 ·have hS' := hS;obtain ⟨W, D, L, ab, tb, mb, lb, db, ev, HA, HT, HM, HL, HD, HV, h, rfl⟩ := hS;refine zo (S0 := fV p13 (Za s) :: dZ p6 s (.slice va s.rrs.length vc) :: sH sb ab tb mb lb db ev HA HT HM HL HD HV W :: S0) zB.of (zo (zB.cons (zB.cons zB.LU)) (ze (zX (zi (pP rfl) (zi (zG rfl) (zi (zn rfl) (Z5 rfl rfl (WG rfl rfl ?_))))))));cases hb : Wo S.I (Za s) with
  | none =>
   refine zP (Vs h.m (by repeat (first | exact List.mem_cons_self | apply List.mem_cons_of_mem)) (Za s) Ue nu pz rfl rfl (ER (xV h.q hb)) ?_) zO;refine zi (pP rfl) (zL (za (ze (z8 (yp (pP rfl) (yp (Kc rfl rfl) (zf (za (zA rfl (zq (za ?_)))))))))));exact ⟨⟨rfl, rfl, rfl, rfl, rfl, rfl, trivial⟩, S, _, hS', hb, hP0.trans (YF hb), hV, zB.LW⟩
  | some i =>
   have hP1 := hP0.trans (YE hb);obtain ⟨e, hf, he, rfl, hek⟩ := Ut h.q hb;refine zP (Vs h.m (by repeat (first | exact List.mem_cons_self | apply List.mem_cons_of_mem)) (Za s) Ue nu pz rfl rfl (jS hf) ?_) zO;refine zi (pP rfl) (zL (za (ze (z8 (yp (pP rfl) (yp (Kc rfl rfl) (zf (za (zH rfl (ze (ze (z8 (yp (pP rfl) (yp (zG rfl) (yp (zn rfl) ?_)))))))))))))));refine zh (uH (v := .int .i64 e.i.pins) (by repeat (first | exact List.mem_append.2 (.inl (X6 he)) | apply List.mem_cons_of_mem)) rfl rfl ?_);refine yp (VH rfl rfl) (zf (za ?_));by_cases hp : 0 < e.i.pins
   ·rw [decide_eq_true hp];rw [if_pos hp] at hP1;rw [hP1];refine zH rfl (ze (z8 (yp pC (zf (za (zJ (zU (zU ?_))))))));exact zI (rI rfl) ⟨_, zB.M6, rfl, _, hS', rfl⟩
   ·rw [decide_eq_false hp];rw [if_neg hp] at hP1;refine zA rfl (zq (za (z8 (yp (pP rfl) ?_))));refine zh (Zp rfl rfl ?_);refine zh (zk (Tri.op (Ju hS' hb)) rfl rfl fun r S' h => ?_);obtain ⟨rfl, H1, hS1, rfl⟩ := h;refine zf (za ?_);have hol := uP hS'.kn hb;exact ⟨⟨rfl, rfl, rfl, rfl, rfl, rfl, trivial⟩, _, H1, hS1, iC _ _, hP1, by show S.V.length + (WS S.I (Za s)).length < _; omega, .of⟩
 rw [hP1];clear hP1 hP0 hS hV;obtain ⟨E0, e0⟩ := zy hE2; subst e0; clear hE2;refine zo hJ ?_;generalize hR : Uk N (Za s) s rank now exp S1 = R;refine ze (zw ?_);refine Z7 (σ := Ss) (fun S2 E S' => Has E [(0, .pointer (some ⟨sb, 0, none⟩)), (2, .int .i64 rank), (3, .int .i64 now), (4, .int .i64 exp), (6, .pointer (some ⟨p6, 0, none⟩)), (13, .pointer (some ⟨p13, 0, none⟩))] ∧ Wo S2.I (Za s) = none ∧ Uk N (Za s) s rank now exp S2 = R ∧ S2.V.length + S2.I.length < 2 ^ 30 ∧ ∃ H2, Sr sb N S2 H2 ∧ zB S' (fV p13 (Za s) :: dZ p6 s (.slice va s.rrs.length vc) :: H2 :: S0)) (fun S2 => S2.I.length) S1 ⟨⟨rfl, rfl, rfl, rfl, rfl, rfl, trivial⟩, hb1, hR, hV1, H1, hS1, .of⟩ fun S2 E S' ⟨hE2, hb2, hP2, hV2, H2, hS2, hJ⟩ => ?_
 clear hS1 hb1 hV1 hR;have hS2' := hS2;obtain ⟨W, D, L, ab, tb, mb, lb, db, ev, HA, HT, HM, HL, HD, HV, h, rfl⟩ := hS2;have hnb := h.nb;obtain ⟨E0, e0⟩ := zy hE2; subst e0; clear hE2;refine zo hJ (zo (zB.cons (zB.cons zB.LU)) (ze (ze (zX (zi (pP rfl) (zi (zG rfl) (zi (zn rfl) (Z5 rfl rfl (WG rfl rfl (zi (pP rfl) ?_))))))))));have hv' : Src (Es W ++ S0) (.slice va s.rrs.length vc) s.rrs := Src.mono hv fun _ hs => List.mem_append.2 (.inr hs)
 refine zP (zk (rW (S := Es W ++ S0) h.t hs hv') rfl rfl fun r S' h => ?_) zO;obtain ⟨rfl, rfl⟩ := h;refine zP (zk (lG (sb := sb) (tb := tb) (mb := mb) (lb := lb) (db := db) (ev := ev) h.a) rfl rfl fun r S' h => ?_) zO;obtain ⟨rfl, rfl⟩ := h;rw [h.q.cost, h.q.left];refine zi (VH rfl rfl) (zL (za ?_));by_cases hc : UZ N S2 < uE (sets S2.I) s
 ·rw [decide_eq_true hc];refine zH rfl (zq (za (zw ?_)));refine zo (S0 := fV p13 (Za s) :: dZ p6 s (.slice va s.rrs.length vc) :: sH sb ab tb mb lb db ev HA HT HM HL HD HV W :: S0) ?_ ?_
  ·exact zB.LW
  refine ze (z8 (yp (pP rfl) (yp (pI rfl) ?_)));refine zh (zk (rC hS2' now) rfl rfl fun r S' h => ?_);obtain ⟨rfl, rfl⟩ := h;cases hn : VK now S2 with
  | none =>
   rw [← hP2, rG hc hn];refine yp (pU rfl) (yp (pExt rfl rfl) (yp (pExt rfl rfl) ?_));refine zh (Zf fun p15 => ?_);refine zh (WL rfl rfl rfl rfl rfl ?_);refine yp (pB rfl) (zf (za (ze (ze (z8 (yp (pB rfl) (yp (Zg rfl) (zf (za (zH rfl (ze (z8 (yp pC (zf (za (zJ (zU (bret (zU (bret (zU ?_)))))))))))))))))))));exact zI (rI rfl) ⟨_, .of, rfl, _, hS2', rfl⟩
  | some k =>
   obtain ⟨i, hi, _⟩ := mU hn;refine yp (pU rfl) (yp (pExt rfl rfl) (yp (pExt rfl rfl) ?_));refine zh (Zf fun p15 => ?_);refine zh (WL rfl rfl rfl rfl rfl ?_);refine yp (pB rfl) (zf (za (ze (ze (z8 (yp (pB rfl) (yp (Zg rfl) (zf (za (zA rfl (zq (za (z8 (yp (pP rfl) ?_))))))))))))));refine zh (Zp rfl rfl ?_);refine zh (zk (qR hS2' hi (by omega)) rfl rfl fun r S' h => ?_);obtain ⟨rfl, H3, hS3, rfl⟩ := h;refine zf (zR (za ?_));have hol := uP hS2'.kn hi;refine ⟨Jf k S2, ⟨⟨rfl, rfl, rfl, rfl, rfl, rfl, trivial⟩, nK hb2, (dH hS2'.kn hc hn hi).symm.trans hP2, ?_, H3, hS3, .of⟩, ?_⟩
   ·show (S2.V ++ [k]).length + (WS S2.I k).length < _;rw [List.length_append, List.length_singleton]; omega
   ·show (WS S2.I k).length < _;omega
 ·rw [decide_eq_false hc];have hR := dI (K := Za s) (rank := rank) (now := now) (exp := exp) hc;rw [← hP2, hR];have hus := h.q.us hnb.2.1 hnb.1;refine zA rfl (zZ (zF (zF (Z0 (za (ze (zX (zi (pP rfl) (zi (zG rfl) (zi (zn rfl) (Z5 rfl rfl (zi (pP rfl) (zi (zG rfl) (zi (zn rfl) (Z5 rfl rfl (WG rfl rfl ?_))))))))))))))));refine zP (zk (rR (S := Es W ++ S0) h.t h.a h.q.pk.inn h.q.pk.pos h.q.pk.hs hus hs hv') rfl rfl fun r S' hp => ?_) zO;have hfit : fits N D L s := by
   unfold fits;rw [h.q.cost];have := h.q.left (N := N);omega
  rcases hp with ⟨hp, _⟩ | ⟨_, hp, _⟩ | ⟨_, _, HT1, HA1, D1, rfl, hT1, hA1, hI1, hB1, _, rfl⟩
  ·exact absurd hE hp
  ·exact absurd hfit hp
  have hex := (jP hE hnb.2.1 ⟨by have := qU (VR hE).1; omega, (VR hE).2⟩ (yg (VR hE).1)).1 hfit;refine zi (pU rfl) (zi (pExt rfl rfl) (zi (pExt rfl rfl) (zi (pI rfl) (zi (pI rfl) (zL (za (ze (ze (z8 (yp (pI rfl) (yp (Xd rfl rfl) (zf (za (zA rfl (zq (za (ze (zX (zi (pP rfl) (zi (zG rfl) (zi (zn rfl) (Z5 rfl rfl (WG rfl rfl (zi (pI rfl) (zi (pI rfl) (zi (pI rfl) (zi (pI rfl) (zi (v := .agg #[.int .i64 ((hnd (wF N D L (Z6 s)).D : Nat) : Int), .int .i64 rank, .int .i64 now, .int .i64 exp, .int .i64 0]) rfl ?_))))))))))))))))))))))))))));refine Zj (Zq rfl fun p112 => ⟨(by first | exact fun _ h => List.mem_cons_of_mem _ h | simp), ?_⟩) zO;refine zP (nS h.m (Za s) (⟨some p112⟩ : Ptr) Ue nu rfl rfl rfl fun HM1 hM1 => ?_) zO;refine zL (za (ze (zX (zi (pP rfl) (zi (zG rfl) (zi (zn rfl) (Z5 rfl rfl (WG rfl rfl ?_))))))));refine zP (zk (CS h.l (by omega) (by omega) (Za s)) rfl rfl fun r S' h => ?_) zO;obtain ⟨rfl, HL1, hL1, rfl⟩ := h;refine zL (za (ze (zX (zi (pP rfl) (zi (zG rfl) (zi (zn rfl) (Z5 rfl rfl (WG rfl rfl (zi (pI rfl) ?_)))))))));refine zP (zk (CU h.d (by rw [List.length_map]; omega) (Za s) exp) rfl rfl fun r S' h => ?_) zO;obtain ⟨rfl, HD1, hD1, rfl⟩ := h;refine zL (za (ze (z8 (yp pC (zf (za (zJ ?_)))))));have hfn := xV h.q hb2;have hnk := WB.1 hb2;have hnP : ¬ (Za s ∈ S2.P ∨ Za s ∈ S2.Q) := fun hm => hnk (h.q.pq.mem_iff.1 (List.mem_append.2 hm))
  rw [iR, if_neg hnP] at hL1;rw [q8 hb2] at hD1;have hq := h.q.put hE hs hex.1 hI1 hB1 hb2 rank now exp p112;generalize hen : (⟨⟨Za s, s, rank, now, exp, 0⟩, ((hnd (wF N D L (Z6 s)).D : Nat) : Int), (wF N D L (Z6 s)).ids, p112⟩ : En) = en at hq;have hM2 : Mp mb (Xr (W ++ [en])) (W ++ [en]).length HM1 := by
   have e1 : Xr (W ++ [en]) = wK (Xr W) (Za s) (some (⟨some p112⟩ : Ptr)) := by rw [nI (by rw [← hen]; exact hfn), ← hen]
   have e2 : Xo (Xr W) (Za s) W.length = (W ++ [en]).length := by
    unfold Xo Xr;rw [hfn, List.length_append]; rfl
   rw [e1, ← e2]; exact hM1
  have hD2 : Du db ((S2.I ++ [(⟨Za s, s, rank, now, exp, 0⟩ : It)]).map It.de) HD1 := by rw [List.map_append]; exact hD1
  have hse : jR en = [(p112, .cells #[.int .i64 ((hnd (wF N D L (Z6 s)).D : Nat) : Int), .int .i64 rank, .int .i64 now, .int .i64 exp, .int .i64 0] 137)] := by rw [← hen]
  refine zI (rI rfl) ⟨_, ?_, rfl, _, Sr.mk ⟨hq, hA1, hT1, hM2, hL1, hD2, h.v⟩, rfl⟩;exact zB.add hse.symm
end Go.Proofs.YtejmbmenbailmaaGreat
namespace Go.Proofs.YtejmbmenbailmaaGreat
open Go.Xs
open Enc (enc)
def swp (f : Ss × Nat) (k : Ky) : Ss × Nat := if free f.1.I k = true then (Jf k f.1, f.2 + 1) else f
def UE (now : Int) (S : Ss) (n : Nat) : Ss × Nat := ((due now S.I).take n).foldl swp (S, 0)
def Xm (now : Int) (S : Ss) : Ss × Nat := (due now S.I).foldl swp (S, 0)
theorem xW {now : Int} {I : List It} (h : (keys I).Nodup) : (due now I).Nodup := by
 unfold due upto;have h1 := ((yw (key := Ua) (I.map It.de)).map (·.k)).nodup_iff.2 (by rw [List.map_map]; exact h);exact (List.filter_sublist.map De.k).nodup h1
theorem Qx {now : Int} {I : List It} {k : Ky} (h : k ∈ due now I) : k ∈ keys I := by
 obtain ⟨e, he, rfl⟩ := List.mem_map.1 h;exact KX he
structure M7 (now : Int) (S : Ss) (n : Nat) (R : Ss × Nat) : Prop where
 kn : (keys R.1.I).Nodup
 mem : ∀ x ∈ (due now S.I).drop n, x ∈ keys R.1.I
 len : R.1.V.length + R.1.I.length = S.V.length + S.I.length
 cnt : R.2 ≤ n
theorem nD {S : Ss} {k : Ky} {i : It} (hn : (keys S.I).Nodup) (h : Wo S.I k = some i) : (Jf k S).V.length + (Jf k S).I.length = S.V.length + S.I.length := by
 have := uP hn h;show (S.V ++ [k]).length + (WS S.I k).length = _;rw [List.length_append, List.length_singleton]; omega
theorem Qt {I : List It} {k : Ky} (h : free I k = true) : ∃ i, Wo I k = some i ∧ i.pins = 0 := by
 unfold free at h;cases hb : Wo I k with
 | none => rw [hb] at h; cases h
 | some i => rw [hb] at h; exact ⟨i, rfl, of_decide_eq_true h⟩
theorem LJ {now : Int} {S : Ss} (hn : (keys S.I).Nodup) : ∀ n, n ≤ (due now S.I).length → M7 now S n (UE now S n)
 | 0, _ => ⟨hn, fun x hx => Qx hx, rfl, Nat.le_refl 0⟩
 | n + 1, hl => by
  have ih := LJ (now := now) hn n (by omega);have hl' : n < (due now S.I).length := by omega
  have e1 : UE now S (n + 1) = swp (UE now S n) (due now S.I)[n] := by
   unfold UE;rw [List.take_succ_eq_append_getElem hl', List.foldl_append]; rfl
  have hd : (due now S.I).drop n = (due now S.I)[n] :: (due now S.I).drop (n + 1) := List.drop_eq_getElem_cons hl';have hnd := (List.drop_sublist n _).nodup (xW (now := now) hn);rw [hd] at hnd;have hnd := (List.nodup_cons.1 hnd).1;have hm := ih.mem;rw [hd] at hm;rw [e1];generalize (due now S.I)[n] = k at *
  generalize UE now S n = R at *
  unfold swp;split
  ·next hf =>
   obtain ⟨i, hb, _⟩ := Qt hf;refine ⟨((vE R.1.I k).map _).nodup ih.kn, fun x hx => ?_, (nD ih.kn hb).trans ih.len, by show R.2 + 1 ≤ n + 1; have := ih.cnt; omega⟩;show x ∈ keys (WS R.1.I k);rw [U3, List.mem_filter];refine ⟨hm x (List.mem_cons_of_mem _ hx), ?_⟩;have : x ≠ k := fun e => hnd (e ▸ hx)
   simpa using this
  ·exact ⟨ih.kn, fun x hx => hm x (List.mem_cons_of_mem _ hx), ih.len, by have := ih.cnt; omega⟩
theorem dh {now : Int} {S : Ss} {n : Nat} (h : n < (due now S.I).length) : UE now S (n + 1) = swp (UE now S n) (due now S.I)[n] := by
 unfold UE;rw [List.take_succ_eq_append_getElem h, List.foldl_append]; rfl
theorem Fg : isAgg? Tryz.prog 3 = some false := by kernel_rfl
theorem zB.op2 {x y : List Chunk} {sb ab tb mb lb db : Nat} {ev : Value} {HA HT HM HL HD HV : List Chunk} {W : List En} : zB [x, y, sH sb ab tb mb lb db ev HA HT HM HL HD HV W] (x :: y :: ZW sb ab tb mb lb db ev :: HA :: HT :: HM :: HL :: HD :: HV :: Es W) := ⟨[], by simp [sH]⟩
theorem zB.LV {x y : List Chunk} {S G : zu} {sb ab tb mb lb db : Nat} {ev : Value} {HA HT HM HL HD HV : List Chunk} {W : List En} [h : Sub S (x :: y :: ZW sb ab tb mb lb db ev :: HA :: HT :: HM :: HL :: HD :: HV :: Es W) G] : zB S [x, y, sH sb ab tb mb lb db ev HA HT HM HL HD HV W] := zB.trans (zB.of (h := h)) ⟨[], by simp [sH]⟩
abbrev lF (p2 p4 sb c : Nat) : zu := [[(p2, .cells #[.pointer (some ⟨sb, 0, none⟩)] 63)], [(p4, .cells #[.int .i64 (c : Int)] 3)]]
theorem kS {sb N : Nat} {S : Ss} {H : List Chunk} (hS : Sr sb N S H) (now : Int) (hV : S.V.length + S.I.length < 2 ^ 30) :
 Tri Tryz.prog 41 #[.pointer (some ⟨sb, 0, none⟩), .int .i64 now] [H] (fun r S' => r = .int .i64 ((Xm now S).2 : Nat) ∧ ∃ H', Sr sb N (Xm now S).1 H' ∧ S' = [H']) := by
 have hnb := hS.nb;have hS0 := hS;have hkn := hS.kn;obtain ⟨W, D, L, ab, tb, mb, lb, db, ev, HA, HT, HM, HL, HD, HV, h, rfl⟩ := hS;refine Tri.forget (Tri.iU (zm Tryz.Hr (Nat.le_of_ble_eq_true rfl) ?_));unfold Tryz.Ll;refine ze (z8 ?_);refine zh (iT (Jd rfl) fun p2 => ?_);refine zh (Zf fun p4 => ?_);refine zf (za (ze (ze (z8 ?_))));refine zh (zD rfl rfl ?_);refine yp (ZM rfl rfl) (zf (za (zA rfl (zq (za (ze (ze (z8 ?_))))))));refine zh (zD rfl rfl ?_);refine yp (zG rfl) (yp (zn rfl) ?_);refine zh (zD rfl rfl ?_);refine yp (pI rfl) ?_;refine zh (zk fT rfl rfl fun r S' h => ?_);obtain ⟨bd, ba, rfl, rfl⟩ := h;refine zf (za (zw ?_));have hdl : (S.I.map It.de).length < 2 ^ 38 := by rw [List.length_map]; omega
 have hdue : (due now S.I).length = (upto now (S.I.map It.de)).length := by unfold due; rw [List.length_map]
 refine XP (fun pre T => pre.length ≤ (due now S.I).length ∧ ∃ H', Sr sb N (UE now S pre.length).1 H' ∧ zB T (lF p2 p4 sb (UE now S pre.length).2 ++ [H']))
  (fun e pre T => False)
  rfl rfl (jG (db := db) (bd := bd) (ba := ba) (S0 := lF p2 p4 sb 0 ++ (ZW sb ab tb mb lb db ev :: HA :: HT :: HM :: HL :: HV :: Es W)) h.d hdl now) ⟨Nat.zero_le _, _, hS0, (show (lF p2 p4 sb (UE now S ([] : List (Array Value)).length).2) = lF p2 p4 sb 0 from rfl) ▸ zB.LV⟩ ?_ ?_ ?_ ?_
 ·intro pre x hx;obtain ⟨_, rfl⟩ := pfx hx;rfl
 ·rintro l pre x T hx ⟨hle, H1, hS1, hJ⟩;obtain ⟨hl, rfl⟩ := pfx hx;have hl2 : pre.length < (due now S.I).length := by omega
  have hI := LJ (now := now) hkn pre.length hle;have hst := dh hl2;have hmem := hI.mem;rw [List.drop_eq_getElem_cons hl2] at hmem;have hk0 : (due now S.I)[pre.length] = (upto now (S.I.map It.de))[pre.length].k := by simp only [due, List.getElem_map]
  rw [hk0] at hst hmem;generalize (upto now (S.I.map It.de))[pre.length] = d at hst hmem;have hkm := hmem d.k (by simp);have hcnt := hI.cnt;have hlen := hI.len;have hpl : (pre ++ [bB d]).length = pre.length + 1 := by rw [List.length_append]; rfl
  generalize UE now S pre.length = R at hS1 hJ hst hkm hcnt hlen;have hle2 : (pre ++ [bB d]).length ≤ (due now S.I).length := by omega
  have hS1' := hS1;obtain ⟨W1, D1, L1, ab1, tb1, mb1, lb1, db1, ev1, HA1, HT1, HM1, HL1, HD1, HV1, h1, rfl⟩ := hS1;obtain ⟨e, hf, he, hb, hfr⟩ := Kq h1.q hkm;refine zo hJ (zo zB.op2 (z8 ?_));refine zh (Zf fun p5 => ?_);refine zh (WL rfl rfl rfl rfl rfl ?_);refine zf (za (zw (ze (zX (Z5 rfl rfl (zi (zG rfl) (zi (zn rfl) (Z5 rfl rfl (WG rfl rfl ?_)))))))));refine Zj (Vs h1.m (by repeat (first | exact List.mem_cons_self | apply List.mem_cons_of_mem)) d.k Ue nu pz rfl rfl (jS hf) ⟨fun _ h => h, ?_⟩) zO;refine zi (zG rfl) (zi (zn rfl) (KP (v := .int .i64 e.i.pins) (by repeat (first | exact X6 he | apply List.mem_cons_of_mem)) rfl rfl (zi (vg rfl rfl) (zL (za ?_)))));by_cases hp : e.i.pins = 0
  ·rw [decide_eq_true hp] at hfr ⊢;have e1 : swp R d.k = (Jf d.k R.1, R.2 + 1) := by unfold swp; rw [if_pos hfr]
   refine zH rfl (ze (z8 ?_));refine zh (zD rfl rfl ?_);refine zh (Zp rfl rfl ?_);refine zh (zk (Tri.op (qR hS1' hb (by omega))) rfl rfl fun r S' h => ?_);obtain ⟨rfl, H2, hS2, rfl⟩ := h;have hR2 : R.2 < 2 ^ 40 := by
    have : (due now S.I).length ≤ S.I.length := by
     have := (xW (now := now) hkn).length_le_of_subset (fun x hx => Qx hx : due now S.I ⊆ keys S.I);unfold keys at this;rw [List.length_map] at this;exact this
    omega
   refine zf (za (z8 ?_));refine zh (zD rfl rfl ?_);refine yp (Ze rfl rfl (by omega)) ?_;refine zh (ZJ rfl rfl (uK rfl) ?_);refine zf (zR ?_);refine ⟨hle2, H2, ?_, ?_⟩
   ·rw [hpl, hst, e1]; exact hS2
   ·rw [hpl, hst, e1]; exact .of
  ·rw [decide_eq_false hp] at hfr ⊢;have e1 : swp R d.k = R := by unfold swp; rw [if_neg (by rw [hfr]; decide)]
   refine zA rfl (zq (zR ?_));refine ⟨hle2, sH sb ab1 tb1 mb1 lb1 db1 ev1 HA1 HT1 HM1 HL1 HD1 HV1 W1, ?_, ?_⟩
   ·rw [hpl, hst, e1]; exact hS1'
   ·rw [hpl, hst, e1]; exact zB.LV
 ·rintro xs S' hd ⟨hn, H1, hS1, hJ⟩;have hxl : xs.length = (due now S.I).length := by rw [hd, List.length_map, hdue]
  have e1 : UE now S xs.length = Xm now S := by unfold UE Xm; rw [hxl, List.take_length]
  rw [e1] at hS1 hJ;refine zR (za ?_);refine zo hJ (ze (z8 ?_));refine zh (zD rfl rfl ?_);refine zh (ZJ rfl rfl (uK rfl) ?_);refine zf (za (zJ ?_));exact zI (jl (Fj (b := p4) Fg rfl)) ⟨[H1], .of, rfl, _, hS1, rfl⟩
 ·rintro e pre S' _ h;exact h.elim
end Go.Proofs.YtejmbmenbailmaaGreat
