/- Stores (chapter 10), plainly: what is there, who goes next, what each act makes of it. -/
import Derived.Test.YtejmbmenbailmaaGreatPkU
import Derived.Test.YtejmbmenbailmaaGreatLo
import Derived.Test.YtejmbmenbailmaaGreatLd
namespace Go.Proofs.YtejmbmenbailmaaGreat
open Go.Xs
open Enc (enc)
structure Ptr where
 a : Option Nat
instance : Vv Ptr := ⟨fun p => .pointer (p.a.map fun b => ⟨b, 0, none⟩)⟩
/-- an item -/
structure It where
 k : Ky
 s : St
 rank : Int
 came : Int
 exp : Int
 pins : Int
/-- .. its handle, its names' handles, its place -/
structure En where
 i : It
 h : Int
 ids : List Int
 eb : Nat
def En.z (e : En) : LS := ⟨e.h, e.i.s, e.ids⟩
def It.de (i : It) : De := ⟨i.k, i.exp⟩
def fk (k : Ky) : Ky := ⟨zx k.n, k.t⟩
structure Ss where
 I : List It
 P : List Ky
 Q : List Ky
 V : List Ky
def keys (I : List It) : List Ky := I.map (·.k)
def sets (I : List It) : List St := I.map (·.s)
def WM (I : List It) (k : Ky) : Option It := I.find? fun i => decide (i.k = k)
def vJ (I : List It) (k : Ky) : List It := I.filter fun i => !decide (i.k = k)
def free (I : List It) (k : Ky) : Bool := match WM I k with | some i => decide (i.pins = 0) | none => false
def uH (k : Ky) (S : Ss) : Ss := ⟨vJ S.I k, S.P.erase k, S.Q.erase k, S.V⟩
def aL (k : Ky) (S : Ss) : Ss := ⟨vJ S.I k, S.P.erase k, S.Q.erase k, S.V ++ [k]⟩
def due (now : Int) (I : List It) : List Ky := (upto now (I.map It.de)).map (·.k)
def VB (now : Int) (S : Ss) : Option Ky := (due now S.I ++ (S.P ++ S.Q)).find? (free S.I)
def UO (N : Nat) (S : Ss) : Int := ((N - U6 (sets S.I) : Nat) : Int)
def uz (N : Nat) (now : Int) (s : St) : Nat → Ss → Ss × Bool
 | 0, S => (S, decide (uo (sets S.I) s ≤ UO N S))
 | f + 1, S => if UO N S < uo (sets S.I) s then (match VB now S with | none => (S, false) | some k => uz N now s f (aL k S)) else (S, true)
def Ue (N : Nat) (k : Ky) (s : St) (rank now exp : Int) (S : Ss) : Ss × Int := match uz N now s S.I.length S with
 | (S', true) => (⟨S'.I ++ [⟨k, s, rank, now, exp, 0⟩], S'.P ++ [k], S'.Q, S'.V⟩, 0)
 | (S', false) => (S', 4)
def jU (n most : Int) : Bool := decide (0 ≤ n) && decide (n ≤ most)
def qW (rank now exp : Int) : Bool := jU now 1099511627776 && jU exp 1099511627776 && !decide (exp ≤ now) && jU rank 9
def Z6 (s : St) : Ky := fk ⟨s.name, s.typ⟩
def Jk (N : Nat) (s : St) (rank now exp : Int) (S : Ss) : Ss × Int := match WM S.I (Z6 s) with
 | some i => if 0 < i.pins then (S, 6) else Ue N (Z6 s) s rank now exp (uH (Z6 s) S)
 | none => Ue N (Z6 s) s rank now exp S
theorem xH {N : Nat} {s : St} {rank now exp : Int} {S : Ss} {i : It} (h : WM S.I (Z6 s) = some i) : Jk N s rank now exp S = if 0 < i.pins then (S, 6) else Ue N (Z6 s) s rank now exp (uH (Z6 s) S) := by unfold Jk; rw [h]
theorem Yo {N : Nat} {s : St} {rank now exp : Int} {S : Ss} (h : WM S.I (Z6 s) = none) : Jk N s rank now exp S = Ue N (Z6 s) s rank now exp S := by unfold Jk; rw [h]
def UD (N : Nat) (s : St) (rank now exp : Int) (S : Ss) : Ss × Int :=
 if wz s ≠ 0 then (S, wz s) else if qW rank now exp = false then (S, 1) else Jk N s rank now exp S
/-! ### who is there -/
def yU (W : List En) (k : Ky) : Option En := W.find? fun e => decide (e.i.k = k)
def Xf (W : List En) (k : Ky) : Option Ptr := (yU W k).map fun e => ⟨some e.eb⟩
def UH (W : List En) (k : Ky) : List En := W.filter fun e => !decide (e.i.k = k)
theorem jq {W : List En} {k : Ky} {e : En} (h : yU W k = some e) : e ∈ W ∧ e.i.k = k := ⟨List.mem_of_find?_eq_some h, by simpa using List.find?_some h⟩
theorem Ql (W : List En) (k : Ky) : WM (W.map (·.i)) k = (yU W k).map (·.i) := by
 unfold WM yU;rw [List.find?_map];rfl
theorem jG {I : List It} {k : Ky} {i : It} (h : WM I k = some i) : i ∈ I ∧ i.k = k := ⟨List.mem_of_find?_eq_some h, by simpa using List.find?_some h⟩
theorem vB {I : List It} {k : Ky} : WM I k = none ↔ k ∉ keys I := by
 unfold WM;rw [List.find?_eq_none];constructor
 ·intro h hk;obtain ⟨i, hi, rfl⟩ := List.mem_map.1 hk;have := h i hi;simp at this
 ·intro h i hi;have : i.k ≠ k := fun e => h (List.mem_map.2 ⟨i, hi, e⟩)
  simpa using this
theorem pQ (W : List En) (k : Ky) : (UH W k).map (·.i) = vJ (W.map (·.i)) k := by
 unfold UH vJ;rw [List.filter_map];rfl
theorem uV (I : List It) (k : Ky) : keys (vJ I k) = (keys I).filter fun x => !decide (x = k) := by
 unfold vJ keys;rw [List.filter_map];rfl
theorem fD {W : List En} {k x : Ky} (h : x ≠ k) : yU (UH W k) x = yU W x := by
 unfold yU UH
 induction W with
 | nil => rfl
 | cons e W ih =>
  rw [List.filter_cons, List.find?_cons];by_cases hk : e.i.k = k
  ·rw [if_neg (by simp [hk]), ih, decide_eq_false (show ¬ e.i.k = x from fun q => h (q.symm.trans hk))]
  ·rw [if_pos (by simp [hk]), List.find?_cons, ih]
theorem QU (W : List En) (k : Ky) : yU (UH W k) k = none := by
 unfold yU;rw [List.find?_eq_none];intro e he;have := (List.mem_filter.1 he).2;simpa using this
theorem lY (W : List En) (k : Ky) : Xf (UH W k) = wI (Xf W) k none := by
 funext x;unfold Xf wI;split
 ·next e => rw [e, QU]; rfl
 ·next e => rw [fD e]
theorem mg {W : List En} {e : En} (h : yU W e.i.k = none) : Xf (W ++ [e]) = wI (Xf W) e.i.k (some ⟨some e.eb⟩) := by
 funext x;unfold Xf wI yU;rw [List.find?_append, List.find?_singleton];by_cases q : x = e.i.k
 ·subst q;have h2 : W.find? (fun y => decide (y.i.k = e.i.k)) = none := h;rw [if_pos rfl, if_pos (decide_eq_true rfl), h2];rfl
 ·rw [if_neg q, if_neg (by simpa using fun r => q r.symm), Option.or_none]
theorem dJ {W : List En} {k : Ky} (h : ∀ e ∈ W, e.i.k ≠ k) : UH W k = W := List.filter_eq_self.2 fun e he => by simpa using h e he
/-- one of them, and the others -/
theorem WI : ∀ {W : List En} {e : En}, (keys (W.map (·.i))).Nodup → e ∈ W → ∃ A B, W = A ++ e :: B ∧ UH W e.i.k = A ++ B
 | y :: W, e, hn, he => by
  have hn2 := List.nodup_cons.1 hn;rcases List.mem_cons.1 he with rfl | he
  ·refine ⟨[], W, rfl, ?_⟩;unfold UH;rw [List.filter_cons, if_neg (by simp)];exact dJ fun x hx q => hn2.1 (List.mem_map.2 ⟨x.i, List.mem_map.2 ⟨x, hx, rfl⟩, q⟩)
  ·obtain ⟨A, B, h1, h2⟩ := WI hn2.2 he;refine ⟨y :: A, B, by rw [h1]; rfl, ?_⟩;have : y.i.k ≠ e.i.k := fun q => hn2.1 (List.mem_map.2 ⟨e.i, List.mem_map.2 ⟨e, he, rfl⟩, q.symm⟩)
   unfold UH at h2 ⊢;rw [List.filter_cons, if_pos (by simpa using this), h2]; rfl
theorem YE : ∀ {I : List It} {k : Ky}, (keys I).Nodup → Ve k (I.map It.de) = (vJ I k).map It.de
 | [], _, _ => rfl
 | i :: I, k, hn => by
  have hn2 := List.nodup_cons.1 hn;have ih := YE (k := k) hn2.2;unfold Ve at ih ⊢;unfold vJ at ih ⊢;rw [List.map_cons, idx];by_cases hk : i.k = k
  ·rw [if_pos (show i.de.k = k from hk), List.filter_cons, if_neg (by simp [hk])];have : I.filter (fun i => !decide (i.k = k)) = I := List.filter_eq_self.2 fun j hj => by
    have : j.k ≠ k := fun e => hn2.1 (List.mem_map.2 ⟨j, hj, e.trans hk.symm⟩)
    simpa using this
   rw [this]; rfl
  ·rw [if_neg (show ¬ i.de.k = k from hk), List.filter_cons, if_pos (by simp [hk])];cases hx : idx k (I.map It.de) with
   | none => rw [hx] at ih; simp only [Option.map_none, List.map_cons]; rw [← ih]
   | some j => rw [hx] at ih; simp only [Option.map_some, List.map_cons, List.eraseIdx_cons_succ]; rw [← ih]
theorem JJ {I : List It} {k : Ky} (h : WM I k = none) : Ve k (I.map It.de) = I.map It.de := by
 have : ∀ J : List It, k ∉ keys J → idx k (J.map It.de) = none := fun J => by
  induction J with
  | nil => intro _; rfl
  | cons i J ih =>
   intro hk;have h1 : i.de.k ≠ k := fun e => hk (List.mem_map.2 ⟨i, by simp, e⟩)
   rw [List.map_cons, idx, if_neg h1, ih fun hj => hk (List.mem_cons_of_mem _ hj)]; rfl
 unfold Ve;rw [this I (vB.1 h)]
theorem JG {P Q : List Ky} {I : List It} {k : Ky} (hn : (keys I).Nodup) (h : (P ++ Q).Perm (keys I)) : (P.erase k ++ Q.erase k).Perm (keys (vJ I k)) := by
 have hp := h.nodup_iff.2 hn;obtain ⟨h1, h2, _⟩ := List.nodup_append.1 hp;rw [uV, h1.erase_eq_filter, h2.erase_eq_filter, ← List.filter_append];have := h.filter fun x => !decide (x = k)
 refine .trans (.of_eq ?_) this;congr 1
theorem bD {m : Int} {P Q : List Ky} {k : Ky} (hn : (P ++ Q).Nodup) (hk : k ∈ P ∨ k ∈ Q) : (yY m k P Q ++ yX m k P Q).Perm (P ++ Q) := by
 have h0 : (P.erase k ++ (Q.erase k ++ [k])).Perm (P ++ Q) := by
  obtain ⟨h1, h2, h3⟩ := List.nodup_append.1 hn;rcases hk with hk | hk
  ·have hq : k ∉ Q := fun q => h3 k hk k q rfl
   rw [List.erase_of_not_mem hq];refine .trans ?_ ((List.perm_cons_erase hk).symm.append_right Q);rw [← List.append_assoc];exact List.perm_append_singleton _ _
  ·have hp : k ∉ P := fun p => h3 k p k hk rfl
   rw [List.erase_of_not_mem hp];refine .append_left P (.trans ?_ (List.perm_cons_erase hk).symm);exact List.perm_append_singleton _ _
 unfold yY yX;rw [if_pos hk, if_pos hk];split
 ·next hm =>
  refine .trans ?_ h0;rw [List.append_assoc];refine .append_left _ ?_;cases hQ : Q.erase k ++ [k] with
  | nil => simp at hQ
  | cons x l => simp
 ·exact h0
/-! ### what is there, by the arena's blocks -/
theorem Pk.Io {D : List (Option Bt)} {L : List Nm} {Z Z' : List LS} (h : Pk D L Z) (p : Z.Perm Z') : Pk D L Z' := by
 have pB : (yQ Z).Perm (yQ Z') := p.map _;refine ⟨⟨h.inn.dis, h.inn.blk, fun x hx => h.inn.oth x (pB.mem_iff.2 hx), fun i b hb => (h.inn.all i b hb).imp id fun ⟨x, hx, h2⟩ => ⟨x, pB.mem_iff.1 hx, h2⟩, h.inn.us, h.inn.fold⟩, ⟨h.liv.dis, fun e he => ?_, h.liv.pos, fun i hi => h.liv.ids i ?_⟩, ?_, fun z hz => h.ok z (p.mem_iff.2 hz)⟩
 ·rw [h.liv.us e he];exact ((p.map _).flatten).count_eq _
 ·exact ((p.map _).flatten).mem_iff.2 hi
 ·exact (pB.map _).nodup_iff.1 h.hs
structure Sq (S : Ss) (W : List En) (D : List (Option Bt)) (L : List Nm) : Prop where
 its : W.map (·.i) = S.I
 pk : Pk D L (W.map En.z)
 kn : (keys S.I).Nodup
 kz : ∀ i ∈ S.I, i.k = Z6 i.s
 pq : (S.P ++ S.Q).Perm (keys S.I)
 pn : ∀ i ∈ S.I, 0 ≤ i.pins ∧ i.pins ≤ 1000
theorem Sq.sets {S : Ss} {W : List En} {D : List (Option Bt)} {L : List Nm} (h : Sq S W D L) : (W.map En.z).map (·.s) = sets S.I := by
 unfold Go.Proofs.YtejmbmenbailmaaGreat.sets;rw [← h.its, List.map_map, List.map_map];rfl
theorem Sq.used {S : Ss} {W : List En} {D : List (Option Bt)} {L : List Nm} (h : Sq S W D L) : Zd D = U6 (Go.Proofs.YtejmbmenbailmaaGreat.sets S.I) := by rw [h.pk.use, h.sets]
theorem Sq.left {N : Nat} {S : Ss} {W : List En} {D : List (Option Bt)} {L : List Nm} (h : Sq S W D L) : ((N - Zd D : Nat) : Int) = UO N S := by rw [h.used]; rfl
theorem Sq.cost {S : Ss} {W : List En} {D : List (Option Bt)} {L : List Nm} (h : Sq S W D L) (s : St) : uI L s = uo (Go.Proofs.YtejmbmenbailmaaGreat.sets S.I) s := by rw [h.pk.cst, h.sets]
theorem Sq.few {N : Nat} {S : Ss} {W : List En} {D : List (Option Bt)} {L : List Nm} (h : Sq S W D L) (hN : Zd D ≤ N) : 16 * W.length ≤ N := by
 have h1 := h.pk.inn.used h.pk.hs;have h2 : ∀ B : List (Int × Bs), 16 * B.length ≤ (B.map fun x => zY x.2.length).sum := fun B => by
  induction B with
  | nil => exact Nat.le_refl _
  | cons x B ih =>
   have := yD x.2.length;rw [List.map_cons, List.sum_cons, List.length_cons]; omega
 have h3 := h2 (yQ (W.map En.z));have h4 : (yQ (W.map En.z)).length = W.length := by unfold yQ; simp
 omega
theorem sj {L : List Nm} {Z : List LS} (h : ∀ z ∈ Z, wz z.s = 0 ∧ jQ z.s ∧ Al L z.ids ((Z8 z.s).map zx)) : (Kq Z).length ≤ 66 * Z.length := by
 induction Z with
 | nil => exact Nat.le_refl _
 | cons z Z ih =>
  have h1 := ih fun y hy => h y (List.mem_cons_of_mem _ hy)
  obtain ⟨h2, _, h3⟩ := h z (by simp);have h4 := h3.len;have h5 := Vz z.s;have h6 := (VE (VI h2).1).2.2.2.2.2.2.1;rw [List.length_map] at h4;unfold Kq at h1 ⊢;rw [List.map_cons, List.flatten_cons, List.length_append, List.length_cons];omega
theorem Sq.us {N : Nat} {S : Ss} {W : List En} {D : List (Option Bt)} {L : List Nm} (h : Sq S W D L) (hN : Zd D ≤ N) (hb : N ≤ 1048576) : ∀ e ∈ L, e.u < 2 ^ 50 := fun e he => by
 have h1 := h.few hN;have h2 := sj (L := L) h.pk.ok;rw [List.length_map] at h2;have := h.pk.us h2 e he;omega
theorem Sq.len {S : Ss} {W : List En} {D : List (Option Bt)} {L : List Nm} (h : Sq S W D L) : W.length = S.I.length ∧ S.P.length + S.Q.length = S.I.length := by
 refine ⟨by rw [← h.its, List.length_map], ?_⟩;have := h.pq.length_eq;rw [List.length_append] at this;unfold keys at this;rw [List.length_map] at this;exact this
theorem Sq.rD {S : Ss} {W : List En} {D : List (Option Bt)} {L : List Nm} (h : Sq S W D L) : (keys (W.map (·.i))).Nodup := by rw [h.its]; exact h.kn
theorem Sq.Eh {S : Ss} {W : List En} {D : List (Option Bt)} {L : List Nm} (h : Sq S W D L) {e : En} (he : e ∈ W) : VT (W.map En.z) e.h = (UH W e.i.k).map En.z := by
 obtain ⟨A, B, h1, h2⟩ := WI h.rD he;rw [h2, h1];have hh := h.pk.hs;unfold Hs yQ at hh;rw [h1, List.map_map, List.map_map, List.map_append, List.map_cons] at hh;obtain ⟨_, h4, h5⟩ := List.nodup_append.1 hh;have h6 := (List.nodup_cons.1 h4).1;unfold VT;rw [List.map_append, List.filter_append, List.map_cons, List.filter_cons, if_neg (by show ¬ ((En.z e).h != e.h) = true; simp [En.z]), List.map_append];congr 1
 ·refine List.filter_eq_self.2 fun z hz => ?_
  obtain ⟨y, hy, rfl⟩ := List.mem_map.1 hz;have : y.h ≠ e.h := h5 y.h (List.mem_map.2 ⟨y, hy, rfl⟩) e.h (by show e.h ∈ e.h :: _; exact List.mem_cons_self);simpa [En.z] using this
 ·refine List.filter_eq_self.2 fun z hz => ?_
  obtain ⟨y, hy, rfl⟩ := List.mem_map.1 hz;have : y.h ≠ e.h := fun q => h6 (List.mem_map.2 ⟨y, hy, q⟩)
  simpa [En.z] using this
theorem V3 (I : List It) (k : Ky) : (vJ I k).Sublist I := List.filter_sublist
theorem Sq.gone {S : Ss} {W : List En} {D D' : List (Option Bt)} {L : List Nm} (h : Sq S W D L) {e : En} (he : e ∈ W) (hI : WQ D' (drops L e.ids) (j3 (yQ (W.map En.z)) e.h)) : Sq (uH e.i.k S) (UH W e.i.k) D' (drops L e.ids) := by
 have hz : e.z ∈ W.map En.z := List.mem_map.2 ⟨e, he, rfl⟩;have h1 := h.pk.drop hz hI;have h2 : VT (W.map En.z) e.z.h = _ := h.Eh he;rw [h2] at h1;refine ⟨?_, h1, ?_, fun i hi => h.kz i ((V3 _ _).subset hi), JG h.kn h.pq, fun i hi => h.pn i ((V3 _ _).subset hi)⟩
 ·rw [pQ, h.its]; rfl
 ·exact ((V3 S.I e.i.k).map _).nodup h.kn
theorem Sq.ev {S : Ss} {W : List En} {D : List (Option Bt)} {L : List Nm} {V : List Ky} (h : Sq S W D L) : Sq ⟨S.I, S.P, S.Q, V⟩ W D L := ⟨h.its, h.pk, h.kn, h.kz, h.pq, h.pn⟩
theorem Sq.touch {S : Ss} {W : List En} {D : List (Option Bt)} {L : List Nm} {m : Int} {k : Ky} (h : Sq S W D L) (hk : k ∈ keys S.I) : Sq ⟨S.I, yY m k S.P S.Q, yX m k S.P S.Q, S.V⟩ W D L :=
 ⟨h.its, h.pk, h.kn, h.kz, .trans (bD (h.pq.nodup_iff.2 h.kn) (List.mem_append.1 (h.pq.mem_iff.2 hk))) h.pq, h.pn⟩
theorem Sq.nil : Sq ⟨[], [], [], []⟩ [] [] [] := ⟨rfl, Pk.nil, List.nodup_nil, fun i hi => by simp at hi, .nil, fun i hi => by simp at hi⟩
theorem Sq.put {N : Nat} {S : Ss} {W : List En} {D D' : List (Option Bt)} {L : List Nm} (h : Sq S W D L) {s : St} (hE : wz s = 0) (hs : jQ s) (he : (wE N D L (Z8 s)).e = 0)
 (hI : WQ D' (wE N D L (Z8 s)).L ((((hnd (wE N D L (Z8 s)).D : Nat) : Int), wZ s (wE N D L (Z8 s)).ids) :: yQ (W.map En.z))) (hh : Hs ((((hnd (wE N D L (Z8 s)).D : Nat) : Int), wZ s (wE N D L (Z8 s)).ids) :: yQ (W.map En.z)))
 (hk : WM S.I (Z6 s) = none) (rank came exp : Int) (eb : Nat) :
 Sq ⟨S.I ++ [⟨Z6 s, s, rank, came, exp, 0⟩], S.P ++ [Z6 s], S.Q, S.V⟩ (W ++ [⟨⟨Z6 s, s, rank, came, exp, 0⟩, ((hnd (wE N D L (Z8 s)).D : Nat) : Int), (wE N D L (Z8 s)).ids, eb⟩]) D' (wE N D L (Z8 s)).L := by
 have h1 := h.pk.put hE hs he hI hh;refine ⟨by rw [List.map_append, h.its]; rfl, ?_, ?_, ?_, ?_, ?_⟩
 ·rw [List.map_append];exact h1.Io (List.perm_append_singleton _ _).symm
 ·unfold keys;rw [List.map_append];refine List.nodup_append.2 ⟨h.kn, by simp, fun a ha b hb q => ?_⟩;simp at hb;exact vB.1 hk (by rw [← hb, ← q]; exact ha)
 ·intro i hi;rcases List.mem_append.1 hi with hi | hi
  ·exact h.kz i hi
  ·rw [List.mem_singleton.1 hi]
 ·unfold keys;rw [List.map_append];have : ((S.P ++ [Z6 s]) ++ S.Q).Perm ((S.P ++ S.Q) ++ [Z6 s]) := by
   rw [List.append_assoc, List.append_assoc];exact .append_left _ List.perm_append_comm
  exact this.trans (h.pq.append_right _)
 ·intro i hi;rcases List.mem_append.1 hi with hi | hi
  ·exact h.pn i hi
  ·rw [List.mem_singleton.1 hi];exact ⟨Int.le_refl 0, by show (0 : Int) ≤ 1000; omega⟩
end Go.Proofs.YtejmbmenbailmaaGreat