/- The set of an address may be: what it takes. Stores of addresses' sets, plainly: what they take, who goes. A store of one item, plainly. Stores whose items are numbered, plainly. -/
import Derived.Test.YtejmbmenbailmaaGreatS1
import Derived.Test.YtejmbmenbailmaaGreatC1
namespace Go.Proofs.YtejmbmenbailmaaGreat
open Go.Xs
open Enc (enc)
theorem lW {n d : Bs} (hn : vI n = true) (hd : d.length = 4) : wC (wS n d) = 0 ∧ Zm (wS n d) = 22 ∧ Z6 (wS n d) = [n, [0]] ∧ J6 (wS n d) := by
 have hv0 : vI [0] = true := by decide +kernel
 have hp : prt 1 d = [] := uI rfl;have hdo : ZH 1 d = true := by unfold ZH; rw [if_neg (by omega), if_pos rfl, hd]; rfl
 have hsz : Zm (wS n d) = 22 := by
  unfold Zm wS WZ;simp only [List.map_cons, List.map_nil, hp, hd];decide
 have hm : vQ (wS n d) = true := by
  unfold vQ wS Xj Yx;simp [hn, hv0, hdo]
 have hnl := Wv hn;refine ⟨?_, hsz, ?_, ⟨by show n.length < _; omega, by show 1 < _; omega, by show 1 < _; omega, fun r hr => ?_⟩⟩
 ·unfold wC;rw [if_neg (by rw [hm]; decide), hsz, if_neg (by decide)]
 ·unfold Z6 wS Zr;simp only [List.map_cons, List.map_nil, hp]; rfl
 ·rw [List.mem_singleton.1 hr];exact ⟨by show n.length < _; omega, by show d.length < _; omega⟩
end Go.Proofs.YtejmbmenbailmaaGreat
namespace Go.Proofs.YtejmbmenbailmaaGreat
open Go.Xs
open Enc (enc)
/-- a short name in small letters, not the root's -/
structure Av (n : Bs) : Prop where
 v : vI n = true
 f : zy n = n
 l : 1 ≤ n.length ∧ n.length ≤ 16
 z : n ≠ [0]
def ku (s : St) : Prop := ∃ n d, Av n ∧ d.length = 4 ∧ s = wS n d
theorem YJ : zy [0] = [0] := by decide +kernel
theorem xq {k : Nat} (h : 9 ≤ k ∧ k ≤ 24) : zY k = 32 := by
 unfold zY;rw [if_neg (by omega), if_pos (by omega)]
structure Ij (s : St) : Prop where
 err : wC s = 0
 ok : J6 s
 nms : Z6 s = [s.name, [0]]
 siz : zY (Zm s).toNat = 32
 cst : cost (Zm s) = 32
 key : Z8 s = ⟨s.name, 1⟩
 nm : Av s.name
theorem ku.q {s : St} (h : ku s) : Ij s := by
 obtain ⟨n, d, hn, hd, rfl⟩ := h;obtain ⟨h1, h2, h3, h4⟩ := lW hn.v hd;refine ⟨h1, h4, h3, by rw [h2]; decide, by rw [h2]; decide, ?_, hn⟩;show fk ⟨n, 1⟩ = ⟨n, 1⟩;unfold fk;rw [hn.f]
theorem gP {n : Bs} (h : Av n) (t : Int) : fk ⟨n, t⟩ = ⟨n, t⟩ := by unfold fk; rw [h.f]
theorem Vw {α : Type} {f : α → Nat} {c : Nat} : ∀ {l : List α}, (∀ x ∈ l, f x = c) → (l.map f).sum = c * l.length
 | [], _ => by simp
 | x :: l, h => by
  rw [List.map_cons, List.sum_cons, Vw fun y hy => h y (List.mem_cons_of_mem _ hy), h x (by simp), List.length_cons, Nat.mul_succ]; omega
theorem fB {I : List St} (h : ∀ s ∈ I, ku s) (n : Bs) : n ∈ fC I ↔ n ∈ I.map (·.name) ∨ (n = [0] ∧ I ≠ []) := by
 rw [Qd, List.mem_map];have e : ∀ s ∈ I, (Z6 s).map zy = [s.name, [0]] := fun s hs => by
  rw [(h s hs).q.nms];simp only [List.map_cons, List.map_nil, (h s hs).q.nm.f, YJ]
 constructor
 ·rintro ⟨s, hs, hn⟩;rw [e s hs] at hn;rcases List.mem_cons.1 hn with rfl | hn
  ·exact .inl ⟨s, hs, rfl⟩
  ·exact .inr ⟨List.mem_singleton.1 hn, fun q => by rw [q] at hs; simp at hs⟩
 ·rintro (⟨s, hs, rfl⟩ | ⟨rfl, hne⟩)
  ·exact ⟨s, hs, by rw [e s hs]; simp⟩
  ·obtain ⟨s, hs⟩ := List.exists_mem_of_ne_nil _ hne;exact ⟨s, hs, by rw [e s hs]; simp⟩
theorem lq {I : List St} (h : ∀ s ∈ I, ku s) (hn : (I.map (·.name)).Nodup) (h0 : I ≠ []) : Ud I = 64 * I.length + 32 := by
 have hd : ([0] :: I.map (·.name)).Nodup := List.nodup_cons.2 ⟨fun hm => by
  obtain ⟨s, hs, e⟩ := List.mem_map.1 hm;exact (h s hs).q.nm.z e, hn⟩
 rw [QS hd fun n => by
  rw [fB h, List.mem_cons];constructor
  ·rintro (rfl | h2)
   ·exact .inr ⟨rfl, h0⟩
   ·exact .inl h2
  ·rintro (h2 | ⟨rfl, _⟩)
   ·exact .inr h2
   ·exact .inl rfl]
 rw [List.map_cons, List.sum_cons, Vw (f := fun n : Bs => zY (8 + n.length)) (c := 32) (l := I.map (·.name)) fun n hn => by
  obtain ⟨s, hs, rfl⟩ := List.mem_map.1 hn;have := (h s hs).q.nm.l;exact xq (by omega), Vw (f := fun s => zY (Zm s).toNat) (c := 32) fun s hs => (h s hs).q.siz, List.length_map]
 show zY 9 + _ + _ = _;rw [xq (by decide)];omega
theorem nJ {I : List St} {s : St} (h : ∀ s ∈ I, ku s) (hs : ku s) (hn : s.name ∉ I.map (·.name)) : uz I s = if I = [] then 96 else 64 := by
 have q := hs.q;have hl := q.nm.l;have hz := q.nm.z;have e0 : ([0] : Bs) ∈ fC I ↔ I ≠ [] := by
  rw [fB h];constructor
  ·rintro (hm | hm)
   ·obtain ⟨x, hx, e⟩ := List.mem_map.1 hm;exact absurd e (h x hx).q.nm.z
   ·exact hm.2
  ·exact fun hm => .inr ⟨rfl, hm⟩
 have e1 : s.name ∉ fC I := fun hm => by
  rcases (fB h _).1 hm with hm | hm
  ·exact hn hm
  ·exact hz hm.1
 unfold uz;rw [if_pos q.err, q.cst, q.nms];unfold yQ yQ yQ;rw [q.nm.f, YJ, if_neg (by simpa using e1), xq (by omega), show zY (8 + ([0] : Bs).length) = 32 from xq (by decide)];by_cases hI : I = []
 ·rw [if_pos hI, if_neg]
  ·rfl
  ·rw [e0];rintro (hm | hm)
   ·exact hz (List.mem_singleton.1 hm).symm
   ·exact hm hI
 ·rw [if_neg hI, if_pos (.inr (e0.2 hI))]; rfl
/-! ### items of such sets -/
structure Fam (I : List It) : Prop where
 a : ∀ i ∈ I, ku i.s
 k : ∀ i ∈ I, i.k = Z8 i.s
 n : (keys I).Nodup
theorem Fam.key {I : List It} (h : Fam I) {i : It} (hi : i ∈ I) : i.k = ⟨i.s.name, 1⟩ := by rw [h.k i hi, (h.a i hi).q.key]
theorem Fam.sa {I : List It} (h : Fam I) : ∀ s ∈ sets I, ku s := fun s hs => by
 obtain ⟨i, hi, rfl⟩ := List.mem_map.1 hs;exact h.a i hi
theorem Fam.nms {I : List It} (h : Fam I) : (sets I).map (·.name) = (keys I).map (·.n) := by
 unfold sets keys;rw [List.map_map, List.map_map];refine List.map_congr_left fun i hi => ?_
 show i.s.name = i.k.n;rw [h.key hi]
theorem Fam.LW {I : List It} (h : Fam I) : ((keys I).map (·.n)).Nodup := by
 have : ∀ k ∈ keys I, k.t = 1 := fun k hk => by
  obtain ⟨i, hi, rfl⟩ := List.mem_map.1 hk;rw [h.key hi]
 have hn := h.n;generalize keys I = K at *
 induction K with
 | nil => simp
 | cons k K ih =>
  have h2 := List.nodup_cons.1 hn;rw [List.map_cons];refine List.nodup_cons.2 ⟨fun hm => ?_, ih (fun x hx => this x (List.mem_cons_of_mem _ hx)) h2.2⟩;obtain ⟨x, hx, e⟩ := List.mem_map.1 hm;exact h2.1 (by rw [show k = x from Ky.ext' e.symm (by rw [this k (by simp), this x (List.mem_cons_of_mem _ hx)])]; exact hx)
theorem Fam.used {I : List It} (h : Fam I) (h0 : I ≠ []) : Ud (sets I) = 64 * I.length + 32 := by
 rw [lq h.sa (by rw [h.nms]; exact h.LW) (by unfold sets; simpa using h0)];unfold sets;rw [List.length_map]
theorem Fam.cost {I : List It} (h : Fam I) {s : St} (hs : ku s) (hb : Wm I (Z8 s) = none) : uz (sets I) s = if I = [] then 96 else 64 := by
 rw [nJ h.sa hs fun hm => ?_]
 ·unfold sets;cases I <;> rfl
 ·rw [h.nms] at hm;obtain ⟨k, hk, e⟩ := List.mem_map.1 hm;refine Wz.1 hb ?_;obtain ⟨i, hi, rfl⟩ := List.mem_map.1 hk;rw [hs.q.key, ← e, show (⟨i.k.n, 1⟩ : Ky) = i.k from by rw [h.key hi]];exact hk
theorem Fam.left {N : Nat} {S : Ss} (h : Fam S.I) : uK N S = ((N - (if S.I = [] then 0 else 64 * S.I.length + 32) : Nat) : Int) := by
 unfold uK;split
 ·next e => rw [e]; rfl
 ·next e => rw [h.used e]
theorem Fam.nil : Fam [] := ⟨fun i hi => by simp at hi, fun i hi => by simp at hi, List.nodup_nil⟩
theorem Fam.out {I : List It} (h : Fam I) (k : Ky) : Fam (WE I k) := ⟨fun i hi => h.a i ((vw _ _).subset hi), fun i hi => h.k i ((vw _ _).subset hi), ((vw I k).map _).nodup h.n⟩
theorem Fam.Vj {I : List It} (h : Fam I) (k : Ky) (p : Int) : Fam (Vj I k p) := by
 have hq : ∀ i ∈ Go.Proofs.YtejmbmenbailmaaGreat.Vj I k p, ∃ j ∈ I, i.s = j.s ∧ i.k = j.k := fun i hi => by
  obtain ⟨j, hj, rfl⟩ := List.mem_map.1 hi;refine ⟨j, hj, ?_⟩;show (if j.k = k then { j with pins := p } else j).s = j.s ∧ (if j.k = k then { j with pins := p } else j).k = j.k;split <;> exact ⟨rfl, rfl⟩
 refine ⟨fun i hi => ?_, fun i hi => ?_, by rw [xK]; exact h.n⟩
 ·obtain ⟨j, hj, e, _⟩ := hq i hi;rw [e]; exact h.a j hj
 ·obtain ⟨j, hj, e1, e2⟩ := hq i hi;rw [e1, e2]; exact h.k j hj
abbrev sW (s : St) (rank now exp : Int) : It := ⟨Z8 s, s, rank, now, exp, 0⟩
def Yg (s : St) (rank now exp : Int) (S : Ss) : Ss := ⟨S.I ++ [sW s rank now exp], S.P ++ [Z8 s], S.Q, S.V⟩
theorem Fam.add {I : List It} (h : Fam I) {s : St} (hs : ku s) (hb : Wm I (Z8 s) = none) (rank now exp : Int) : Fam (I ++ [sW s rank now exp]) := by
 refine ⟨fun i hi => ?_, fun i hi => ?_, ?_⟩
 ·rcases List.mem_append.1 hi with hi | hi
  ·exact h.a i hi
  ·rw [List.mem_singleton.1 hi]; exact hs
 ·rcases List.mem_append.1 hi with hi | hi
  ·exact h.k i hi
  ·rw [List.mem_singleton.1 hi]
 ·unfold keys;rw [List.map_append];refine List.nodup_append.2 ⟨h.n, by simp, fun a ha b hb2 q => ?_⟩;simp at hb2;exact Wz.1 hb (by rw [← hb2, ← q]; exact ha)
theorem mQ (rank now exp : Int) : Kc rank now exp = true ↔ (0 ≤ now ∧ now ≤ 1099511627776) ∧ (0 ≤ exp ∧ exp ≤ 1099511627776) ∧ now < exp ∧ 0 ≤ rank ∧ rank ≤ 9 := by
 unfold Kc;rw [Bool.and_eq_true, Bool.and_eq_true, Bool.and_eq_true, uT, uT, uT];simp only [Bool.not_eq_true', decide_eq_false_iff_not];constructor
 ·rintro ⟨⟨⟨h1, h2⟩, h3⟩, h4⟩;exact ⟨h1, h2, by omega, h4⟩
 ·rintro ⟨h1, h2, h3, h4⟩;exact ⟨⟨⟨h1, h2⟩, by omega⟩, h4⟩
theorem Jy {N : Nat} {s : St} (hs : ku s) {rank now exp : Int} (hk : Kc rank now exp = true) (S : Ss) : uH N s rank now exp S = Jz N s rank now exp S := by
 unfold uH;rw [if_neg (by rw [hs.q.err]; decide), if_neg (by rw [hk]; decide)]
/-- there is room -/
theorem Fam.room {N : Nat} {S : Ss} (h : Fam S.I) {s : St} (hs : ku s) (hb : Wm S.I (Z8 s) = none) {rank now exp : Int} (hN : 64 * S.I.length + 96 ≤ N) : Ul N (Z8 s) s rank now exp S = (Yg s rank now exp S, 0) := by
 rw [dD]
 ·rfl
 rw [h.left, h.cost hs hb];split
 ·next e => omega
 ·next e => omega
theorem Fam.oq {N : Nat} {S : Ss} (h : Fam S.I) {s : St} (hs : ku s) (hb : Wm S.I (Z8 s) = none) {rank now exp : Int} (hk : Kc rank now exp = true) (hN : 64 * S.I.length + 96 ≤ N) : uH N s rank now exp S = (Yg s rank now exp S, 0) := by
 rw [Jy hs hk, xL hb, h.room hs hb hN]
/-- there is none: who goes -/
theorem Fam.ow {N : Nat} {S : Ss} (h : Fam S.I) {s : St} (hs : ku s) (hb : Wm S.I (Z8 s) = none) {rank now exp : Int} (hk : Kc rank now exp = true) (h0 : S.I ≠ []) (hN : N < 64 * S.I.length + 96) (hN2 : 64 * S.I.length + 32 ≤ N) {k : Ky} (hn : wX now S = some k) :
 uH N s rank now exp S = (Yg s rank now exp (Yb k S), 0) := by
 obtain ⟨i, hi, _⟩ := Qg hn;have hol := VF h.n hi;rw [Jy hs hk, xL hb, je h.n ?_ hn hi]
 ·exact (h.out k).room (S := Yb k S) hs (Qz hb) (by show 64 * (WE S.I k).length + 96 ≤ N; omega)
 ·rw [h.left, h.cost hs hb, if_neg h0, if_neg h0]; omega
theorem free_eq {I : List It} (hn : (keys I).Nodup) {i : It} (hi : i ∈ I) : free I i.k = decide (i.pins = 0) := by
 unfold free;rw [QA hn hi]
end Go.Proofs.YtejmbmenbailmaaGreat
namespace Go.Proofs.YtejmbmenbailmaaGreat
open Go.Xs
open Enc (enc)
abbrev mV : Ss := ⟨[], [], [], []⟩
abbrev bC (s : St) (p r c x : Int) : It := ⟨Z8 s, s, r, c, x, p⟩
abbrev one (s : St) (p r c x : Int) (P Q : List Ky) : Ss := ⟨[bC s p r c x], P, Q, []⟩
theorem Xc (s : St) (p r c x : Int) : Wm [bC s p r c x] (Z8 s) = some (bC s p r c x) := by
 unfold Wm;rw [List.find?_cons, decide_eq_true rfl]
theorem sQ (s : St) (p r c x : Int) : WE [bC s p r c x] (Z8 s) = [] := by
 unfold WE;rw [List.filter_cons, if_neg (by simp)]; rfl
theorem Qc {s : St} {k : Ky} (hk : fk k = Z8 s) {p r c x b : Int} {P Q : List Ky} (h : 0 ≤ p + b ∧ p + b ≤ 1000) : xO k b (one s p r c x P Q) = (one s (p + b) r c x P Q, 0) := by
 unfold xO;rw [hk, show Wm (one s p r c x P Q).I (Z8 s) = _ from Xc s p r c x];show (if Ja (p + b) 1000 = false then _ else _) = _;rw [(uT _ _).2 h, if_neg (by decide)];show ((⟨[if Z8 s = Z8 s then _ else _], P, Q, []⟩ : Ss), (0 : Int)) = _;rw [if_pos rfl]
theorem eY {s : St} {k : Ky} (hk : fk k = Z8 s) {p r c x b : Int} {P Q : List Ky} (h : ¬ (0 ≤ p + b ∧ p + b ≤ 1000)) : xO k b (one s p r c x P Q) = (one s p r c x P Q, 1) := by
 unfold xO;rw [hk, show Wm (one s p r c x P Q).I (Z8 s) = _ from Xc s p r c x];show (if Ja (p + b) 1000 = false then _ else _) = _;rw [if_pos];cases hw : Ja (p + b) 1000 with
 | false => rfl
 | true => exact absurd ((uT _ _).1 hw) h
theorem au {s : St} {k : Ky} (hk : fk k = Z8 s) {p r c x : Int} {P Q : List Ky} (hp : 0 < p) : yN k (one s p r c x P Q) = (one s p r c x P Q, 6) := by
 unfold yN;rw [hk, show Wm (one s p r c x P Q).I (Z8 s) = _ from Xc s p r c x];show (if 0 < p then _ else _) = _;rw [if_pos hp]
theorem mU {s : St} (hs : ku s) {r c x : Int} (hk : Kc r c x = true) : uH 2048 s r c x mV = (one s 0 r c x [Z8 s] [], 0) := Fam.nil.oq (S := mV) hs rfl hk (by decide)
theorem eX {s s' : St} (hs : ku s') (he : Z8 s' = Z8 s) {p r c x r' c' x' : Int} {P Q : List Ky} (hk : Kc r' c' x' = true) (hp : 0 < p) : uH 2048 s' r' c' x' (one s p r c x P Q) = (one s p r c x P Q, 6) := by
 rw [Jy hs hk, YB (i := bC s p r c x) (by rw [he]; exact Xc s p r c x), if_pos hp]
theorem Qv {s : St} {p r c x now : Int} : due now [bC s p r c x] = if x ≤ now then [Z8 s] else [] := by
 show ((List.filter (fun e => decide (Ua e ≤ now)) [(⟨Z8 s, x⟩ : De)]).map (·.k)) = _;rw [List.filter_cons];by_cases h : x ≤ now
 ·rw [if_pos h, if_pos (by show decide (x ≤ now) = true; rw [decide_eq_true h])]; rfl
 ·rw [if_neg h, if_neg (by show ¬ decide (x ≤ now) = true; rw [decide_eq_false h]; decide)]; rfl
theorem eU {s : St} {p r c x now : Int} {P Q : List Ky} (h : now < x ∨ 0 < p) : XU now (one s p r c x P Q) = (one s p r c x P Q, 0) := by
 unfold XU;rw [show (one s p r c x P Q).I = [bC s p r c x] from rfl, Qv];split
 ·next h2 =>
  show swp _ _ = _;unfold swp free;rw [show Wm (one s p r c x P Q, 0).1.I (Z8 s) = _ from Xc s p r c x];show (if decide (p = 0) = true then _ else _) = _;rw [if_neg (by simp; omega)]
 ·rfl
theorem mP {s : St} {r c x now : Int} {P Q : List Ky} (h : x ≤ now) : XU now (one s 0 r c x P Q) = (⟨[], P.erase (Z8 s), Q.erase (Z8 s), [Z8 s]⟩, 1) := by
 unfold XU;rw [show (one s 0 r c x P Q).I = [bC s 0 r c x] from rfl, Qv, if_pos h];show swp _ _ = _;unfold swp free;rw [show Wm (one s 0 r c x P Q, 0).1.I (Z8 s) = _ from Xc s 0 r c x];show (if decide ((0 : Int) = 0) = true then _ else _) = _;rw [if_pos (by decide)];unfold Yb;rw [show WE (one s 0 r c x P Q, 0).1.I (Z8 s) = [] from sQ s 0 r c x];rfl
theorem Qb {K : Ky} : U6 4 K [K] [] = [] ∧ U5 4 K [K] [] = [K] := by
 unfold U6 U5;constructor <;> simp
/-- the document's name -/
theorem Ab : Av [1, 97, 0] := ⟨by decide +kernel, by decide +kernel, by decide, by decide⟩
theorem fZ {d : Bs} (hd : d.length = 4) : ku (wS [1, 97, 0] d) := ⟨_, d, Ab, hd, rfl⟩
theorem CX {d : Bs} (hd : d.length = 4) : Z8 (wS [1, 97, 0] d) = ⟨[1, 97, 0], 1⟩ := (fZ hd).q.key
end Go.Proofs.YtejmbmenbailmaaGreat
namespace Go.Proofs.YtejmbmenbailmaaGreat
open Go.Xs
open Enc (enc)
structure Rw (kF : Nat → Ky) (e p : Nat → Int) (n : Nat) (I : List It) : Prop where
 fam : Fam I
 de : I.map It.de = (List.range n).map fun j => (⟨kF j, e j⟩ : De)
 pn : ∀ i ∈ I, ∀ j, j < n → i.k = kF j → i.pins = p j
section
variable {kF : Nat → Ky} {e p : Nat → Int} {n : Nat} {I : List It}
theorem Rw.nil : Rw kF e p 0 [] := ⟨Fam.nil, rfl, fun i hi => by simp at hi⟩
theorem Rw.ks (h : Rw kF e p n I) : keys I = (List.range n).map kF := by
 have := congrArg (List.map (·.k)) h.de;rw [List.map_map, List.map_map] at this;exact this
theorem Rw.len (h : Rw kF e p n I) : I.length = n := by
 have := congrArg List.length h.de;simpa using this
theorem Rw.get (h : Rw kF e p n I) {j : Nat} (hj : j < n) : ∃ i, i ∈ I ∧ Wm I (kF j) = some i ∧ i.k = kF j ∧ i.exp = e j ∧ i.pins = p j := by
 have hm : (⟨kF j, e j⟩ : De) ∈ I.map It.de := by rw [h.de]; exact List.mem_map.2 ⟨j, List.mem_range.2 hj, rfl⟩
 obtain ⟨i, hi, he⟩ := List.mem_map.1 hm;have h1 : i.k = kF j := congrArg De.k he;have h2 : i.exp = e j := congrArg De.at_ he;exact ⟨i, hi, by rw [← h1]; exact QA h.fam.n hi, h1, h2, h.pn i hi j hj h1⟩
theorem Rw.mem (h : Rw kF e p n I) {k : Ky} : k ∈ keys I ↔ ∃ j, j < n ∧ kF j = k := by
 rw [h.ks, List.mem_map];constructor
 ·rintro ⟨j, hj, e⟩; exact ⟨j, List.mem_range.1 hj, e⟩
 ·rintro ⟨j, hj, e⟩; exact ⟨j, List.mem_range.2 hj, e⟩
theorem Rw.non (h : Rw kF e p n I) {k : Ky} (hk : ∀ j, j < n → kF j ≠ k) : Wm I k = none := by
 rw [Wz, h.mem];rintro ⟨j, hj, e⟩;exact hk j hj e
theorem Rw.inj (h : Rw kF e p n I) {a b : Nat} (ha : a < n) (hb : b < n) (hab : kF a = kF b) : a = b := by
 have hn := h.fam.n;rw [h.ks] at hn;have a1 : ((List.range n).map kF)[a]? = some (kF a) := by rw [List.getElem?_map, List.getElem?_range ha]; rfl
 have a2 : ((List.range n).map kF)[b]? = some (kF a) := by rw [List.getElem?_map, List.getElem?_range hb, hab]; rfl
 exact (List.getElem?_inj (List.getElem?_eq_some_iff.1 a1).1 hn).1 (a1.trans a2.symm)
theorem Rw.free (h : Rw kF e p n I) {j : Nat} (hj : j < n) : free I (kF j) = decide (p j = 0) := by
 obtain ⟨i, hi, _, h1, _, h3⟩ := h.get hj;rw [← h1, free_eq h.fam.n hi, h3]
theorem Rw.add (h : Rw kF e p n I) {s : St} (hs : ku s) (hk : Z8 s = kF n) (hne : ∀ j, j < n → kF j ≠ kF n) {rank now exp : Int} (he : e n = exp) (hp : p n = 0) : Rw kF e p (n + 1) (I ++ [sW s rank now exp]) := by
 have hb : Wm I (Z8 s) = none := h.non fun j hj q => hne j hj (q.trans hk)
 refine ⟨h.fam.add hs hb rank now exp, ?_, fun i hi j hj hij => ?_⟩
 ·rw [List.map_append, h.de, List.range_succ, List.map_append];show _ ++ [(⟨Z8 s, exp⟩ : De)] = _ ++ [(⟨kF n, e n⟩ : De)];rw [hk, he]
 ·rcases List.mem_append.1 hi with hi | hi
  ·by_cases hjn : j = n
   ·have : i.k ∈ keys I := List.mem_map.2 ⟨i, hi, rfl⟩;obtain ⟨j', hj', e'⟩ := h.mem.1 this;exact absurd (e'.trans (hij.trans (by rw [hjn]))) (hne j' hj')
   ·exact h.pn i hi j (by omega) hij
  ·rw [List.mem_singleton.1 hi] at hij ⊢;by_cases hjn : j = n
   ·rw [hjn, hp]
   ·exact absurd (hij.symm.trans hk) (hne j (by omega))
theorem Rw.Vj (h : Rw kF e p n I) {j : Nat} (hj : j < n) (v : Int) : Rw kF e (fun x => if x = j then v else p x) n (Vj I (kF j) v) := by
 refine ⟨h.fam.Vj _ _, by rw [qQ]; exact h.de, fun i hi a ha hia => ?_⟩;obtain ⟨y, hy, rfl⟩ := List.mem_map.1 hi;show (if y.k = kF j then { y with pins := v } else y).pins = if a = j then v else p a
 have hia : (if y.k = kF j then { y with pins := v } else y).k = kF a := hia;by_cases hyk : y.k = kF j
 ·rw [if_pos hyk] at hia ⊢;have : a = j := h.inj ha hj (hia.symm.trans hyk);rw [if_pos this]
 ·rw [if_neg hyk] at hia ⊢;rw [if_neg (fun q => hyk (by rw [hia, q]))];exact h.pn y hy a ha hia
theorem Rw.mono {e' p' : Nat → Int} (h : Rw kF e p n I) (he : ∀ j, j < n → e j = e' j) (hp : ∀ j, j < n → p j = p' j) : Rw kF e' p' n I :=
 ⟨h.fam, by rw [h.de]; exact List.map_congr_left fun j hj => by rw [he j (List.mem_range.1 hj)], fun i hi j hj hij => by rw [← hp j hj]; exact h.pn i hi j hj hij⟩
end
/-! ### those that are over -/
theorem jE {α β : Type} (key : β → Int) (f : α → β) (x : α) : ∀ R : List α, Us key (f x) (R.map f) = (Us (fun a => key (f a)) x R).map f
 | [] => rfl
 | y :: R => by
  rw [List.map_cons, Us, Us];split
  ·rw [jE key f x R]; rfl
  ·rfl
theorem aF {α β : Type} (key : β → Int) (f : α → β) (L : List α) : Xe key (L.map f) = (Xe (fun a => key (f a)) L).map f := by
 have : ∀ (L R : List α), (L.map f).foldl (fun R x => Us key x R) (R.map f) = (L.foldl (fun R x => Us (fun a => key (f a)) x R) R).map f := by
  intro L
  induction L with
  | nil => intro R; rfl
  | cons x L ih => intro R; rw [List.map_cons, List.foldl_cons, List.foldl_cons, jE, ih]
 exact this L []
/-- the numbers of those that are over, in order -/
def Qa (e : Nat → Int) (n : Nat) (now : Int) : List Nat := (Xe e (List.range n)).filter fun j => decide (e j ≤ now)
theorem Rw.due {kF : Nat → Ky} {e p : Nat → Int} {n : Nat} {I : List It} (h : Rw kF e p n I) (now : Int) : due now I = (Qa e n now).map kF := by
 unfold Go.Proofs.YtejmbmenbailmaaGreat.due upto Qa;rw [h.de, aF, List.filter_map, List.map_map];rfl
theorem UQ {e : Nat → Int} {n : Nat} {now : Int} {j : Nat} : j ∈ Qa e n now ↔ j < n ∧ e j ≤ now := by
 unfold Qa;rw [List.mem_filter, (yA (key := e) (List.range n)).mem, List.mem_range];simp
end Go.Proofs.YtejmbmenbailmaaGreat
