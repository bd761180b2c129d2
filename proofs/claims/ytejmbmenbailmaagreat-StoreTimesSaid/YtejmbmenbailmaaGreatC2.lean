/- The set of an address may be: what it takes. Stores of addresses' sets, plainly: what they take, who goes. A store of one item, plainly. Stores whose items are numbered, plainly. -/
import Derived.Test.YtejmbmenbailmaaGreatS1
import Derived.Test.YtejmbmenbailmaaGreatC1
namespace Go.Proofs.YtejmbmenbailmaaGreat
open Go.Xs
open Enc (enc)
theorem lU {n d : Bs} (hn : vL n = true) (hd : d.length = 4) : wz (WO n d) = 0 ∧ Zl (WO n d) = 22 ∧ Z6 (WO n d) = [n, [0]] ∧ Ja (WO n d) := by
 have hv0 : vL [0] = true := by decide +kernel
 have hp : prt 1 d = [] := uN rfl;have hdo : ZI 1 d = true := by unfold ZI; rw [if_neg (by omega), if_pos rfl, hd]; rfl
 have hsz : Zl (WO n d) = 22 := by
  unfold Zl WO vC;simp only [List.map_cons, List.map_nil, hp, hd];decide
 have hm : vT (WO n d) = true := by
  unfold vT WO Xn YA;simp [hn, hv0, hdo]
 have hnl := Wx hn;refine ⟨?_, hsz, ?_, ⟨by show n.length < _; omega, by show 1 < _; omega, by show 1 < _; omega, fun r hr => ?_⟩⟩
 ·unfold wz;rw [if_neg (by rw [hm]; decide), hsz, if_neg (by decide)]
 ·unfold Z6 WO Zr;simp only [List.map_cons, List.map_nil, hp]; rfl
 ·rw [List.mem_singleton.1 hr];exact ⟨by show n.length < _; omega, by show d.length < _; omega⟩
end Go.Proofs.YtejmbmenbailmaaGreat
namespace Go.Proofs.YtejmbmenbailmaaGreat
open Go.Xs
open Enc (enc)
/-- a short name in small letters, not the root's -/
structure Av (n : Bs) : Prop where
 v : vL n = true
 f : zx n = n
 l : 1 ≤ n.length ∧ n.length ≤ 16
 z : n ≠ [0]
def KO (s : St) : Prop := ∃ n d, Av n ∧ d.length = 4 ∧ s = WO n d
theorem YN : zx [0] = [0] := by decide +kernel
theorem xq {k : Nat} (h : 9 ≤ k ∧ k ≤ 24) : zY k = 32 := by
 unfold zY;rw [if_neg (by omega), if_pos (by omega)]
structure Io (s : St) : Prop where
 err : wz s = 0
 ok : Ja s
 nms : Z6 s = [s.name, [0]]
 siz : zY (Zl s).toNat = 32
 cst : cost (Zl s) = 32
 key : Za s = ⟨s.name, 1⟩
 nm : Av s.name
theorem KO.q {s : St} (h : KO s) : Io s := by
 obtain ⟨n, d, hn, hd, rfl⟩ := h;obtain ⟨h1, h2, h3, h4⟩ := lU hn.v hd;refine ⟨h1, h4, h3, by rw [h2]; decide, by rw [h2]; decide, ?_, hn⟩;show fk ⟨n, 1⟩ = ⟨n, 1⟩;unfold fk;rw [hn.f]
theorem gQ {n : Bs} (h : Av n) (t : Int) : fk ⟨n, t⟩ = ⟨n, t⟩ := by unfold fk; rw [h.f]
theorem Vz {α : Type} {f : α → Nat} {c : Nat} : ∀ {l : List α}, (∀ x ∈ l, f x = c) → (l.map f).sum = c * l.length
 | [], _ => by simp
 | x :: l, h => by
  rw [List.map_cons, List.sum_cons, Vz fun y hy => h y (List.mem_cons_of_mem _ hy), h x (by simp), List.length_cons, Nat.mul_succ]; omega
theorem fF {I : List St} (h : ∀ s ∈ I, KO s) (n : Bs) : n ∈ fG I ↔ n ∈ I.map (·.name) ∨ (n = [0] ∧ I ≠ []) := by
 rw [Qg, List.mem_map];have e : ∀ s ∈ I, (Z6 s).map zx = [s.name, [0]] := fun s hs => by
  rw [(h s hs).q.nms];simp only [List.map_cons, List.map_nil, (h s hs).q.nm.f, YN]
 constructor
 ·rintro ⟨s, hs, hn⟩;rw [e s hs] at hn;rcases List.mem_cons.1 hn with rfl | hn
  ·exact .inl ⟨s, hs, rfl⟩
  ·exact .inr ⟨List.mem_singleton.1 hn, fun q => by rw [q] at hs; simp at hs⟩
 ·rintro (⟨s, hs, rfl⟩ | ⟨rfl, hne⟩)
  ·exact ⟨s, hs, by rw [e s hs]; simp⟩
  ·obtain ⟨s, hs⟩ := List.exists_mem_of_ne_nil _ hne;exact ⟨s, hs, by rw [e s hs]; simp⟩
theorem lq {I : List St} (h : ∀ s ∈ I, KO s) (hn : (I.map (·.name)).Nodup) (h0 : I ≠ []) : Ud I = 64 * I.length + 32 := by
 have hd : ([0] :: I.map (·.name)).Nodup := List.nodup_cons.2 ⟨fun hm => by
  obtain ⟨s, hs, e⟩ := List.mem_map.1 hm;exact (h s hs).q.nm.z e, hn⟩
 rw [QO hd fun n => by
  rw [fF h, List.mem_cons];constructor
  ·rintro (rfl | h2)
   ·exact .inr ⟨rfl, h0⟩
   ·exact .inl h2
  ·rintro (h2 | ⟨rfl, _⟩)
   ·exact .inr h2
   ·exact .inl rfl]
 rw [List.map_cons, List.sum_cons, Vz (f := fun n : Bs => zY (8 + n.length)) (c := 32) (l := I.map (·.name)) fun n hn => by
  obtain ⟨s, hs, rfl⟩ := List.mem_map.1 hn;have := (h s hs).q.nm.l;exact xq (by omega), Vz (f := fun s => zY (Zl s).toNat) (c := 32) fun s hs => (h s hs).q.siz, List.length_map]
 show zY 9 + _ + _ = _;rw [xq (by decide)];omega
theorem nJ {I : List St} {s : St} (h : ∀ s ∈ I, KO s) (hs : KO s) (hn : s.name ∉ I.map (·.name)) : uE I s = if I = [] then 96 else 64 := by
 have q := hs.q;have hl := q.nm.l;have hz := q.nm.z;have e0 : ([0] : Bs) ∈ fG I ↔ I ≠ [] := by
  rw [fF h];constructor
  ·rintro (hm | hm)
   ·obtain ⟨x, hx, e⟩ := List.mem_map.1 hm;exact absurd e (h x hx).q.nm.z
   ·exact hm.2
  ·exact fun hm => .inr ⟨rfl, hm⟩
 have e1 : s.name ∉ fG I := fun hm => by
  rcases (fF h _).1 hm with hm | hm
  ·exact hn hm
  ·exact hz hm.1
 unfold uE;rw [if_pos q.err, q.cst, q.nms];unfold yQ yQ yQ;rw [q.nm.f, YN, if_neg (by simpa using e1), xq (by omega), show zY (8 + ([0] : Bs).length) = 32 from xq (by decide)];by_cases hI : I = []
 ·rw [if_pos hI, if_neg]
  ·rfl
  ·rw [e0];rintro (hm | hm)
   ·exact hz (List.mem_singleton.1 hm).symm
   ·exact hm hI
 ·rw [if_neg hI, if_pos (.inr (e0.2 hI))]; rfl
/-! ### items of such sets -/
structure Fam (I : List It) : Prop where
 a : ∀ i ∈ I, KO i.s
 k : ∀ i ∈ I, i.k = Za i.s
 n : (keys I).Nodup
theorem Fam.key {I : List It} (h : Fam I) {i : It} (hi : i ∈ I) : i.k = ⟨i.s.name, 1⟩ := by rw [h.k i hi, (h.a i hi).q.key]
theorem Fam.sa {I : List It} (h : Fam I) : ∀ s ∈ sets I, KO s := fun s hs => by
 obtain ⟨i, hi, rfl⟩ := List.mem_map.1 hs;exact h.a i hi
theorem Fam.nms {I : List It} (h : Fam I) : (sets I).map (·.name) = (keys I).map (·.n) := by
 unfold sets keys;rw [List.map_map, List.map_map];refine List.map_congr_left fun i hi => ?_
 show i.s.name = i.k.n;rw [h.key hi]
theorem Fam.M0 {I : List It} (h : Fam I) : ((keys I).map (·.n)).Nodup := by
 have : ∀ k ∈ keys I, k.t = 1 := fun k hk => by
  obtain ⟨i, hi, rfl⟩ := List.mem_map.1 hk;rw [h.key hi]
 have hn := h.n;generalize keys I = K at *
 induction K with
 | nil => simp
 | cons k K ih =>
  have h2 := List.nodup_cons.1 hn;rw [List.map_cons];refine List.nodup_cons.2 ⟨fun hm => ?_, ih (fun x hx => this x (List.mem_cons_of_mem _ hx)) h2.2⟩;obtain ⟨x, hx, e⟩ := List.mem_map.1 hm;exact h2.1 (by rw [show k = x from Ky.ext' e.symm (by rw [this k (by simp), this x (List.mem_cons_of_mem _ hx)])]; exact hx)
theorem Fam.used {I : List It} (h : Fam I) (h0 : I ≠ []) : Ud (sets I) = 64 * I.length + 32 := by
 rw [lq h.sa (by rw [h.nms]; exact h.M0) (by unfold sets; simpa using h0)];unfold sets;rw [List.length_map]
theorem Fam.cost {I : List It} (h : Fam I) {s : St} (hs : KO s) (hb : Wo I (Za s) = none) : uE (sets I) s = if I = [] then 96 else 64 := by
 rw [nJ h.sa hs fun hm => ?_]
 ·unfold sets;cases I <;> rfl
 ·rw [h.nms] at hm;obtain ⟨k, hk, e⟩ := List.mem_map.1 hm;refine WB.1 hb ?_;obtain ⟨i, hi, rfl⟩ := List.mem_map.1 hk;rw [hs.q.key, ← e, show (⟨i.k.n, 1⟩ : Ky) = i.k from by rw [h.key hi]];exact hk
theorem Fam.left {N : Nat} {S : Ss} (h : Fam S.I) : UZ N S = ((N - (if S.I = [] then 0 else 64 * S.I.length + 32) : Nat) : Int) := by
 unfold UZ;split
 ·next e => rw [e]; rfl
 ·next e => rw [h.used e]
theorem Fam.nil : Fam [] := ⟨fun i hi => by simp at hi, fun i hi => by simp at hi, List.nodup_nil⟩
theorem Fam.out {I : List It} (h : Fam I) (k : Ky) : Fam (WS I k) := ⟨fun i hi => h.a i ((vE _ _).subset hi), fun i hi => h.k i ((vE _ _).subset hi), ((vE I k).map _).nodup h.n⟩
theorem Fam.WM {I : List It} (h : Fam I) (k : Ky) (p : Int) : Fam (WM I k p) := by
 have hq : ∀ i ∈ Go.Proofs.YtejmbmenbailmaaGreat.WM I k p, ∃ j ∈ I, i.s = j.s ∧ i.k = j.k := fun i hi => by
  obtain ⟨j, hj, rfl⟩ := List.mem_map.1 hi;refine ⟨j, hj, ?_⟩;show (if j.k = k then { j with pins := p } else j).s = j.s ∧ (if j.k = k then { j with pins := p } else j).k = j.k;split <;> exact ⟨rfl, rfl⟩
 refine ⟨fun i hi => ?_, fun i hi => ?_, by rw [xL]; exact h.n⟩
 ·obtain ⟨j, hj, e, _⟩ := hq i hi;rw [e]; exact h.a j hj
 ·obtain ⟨j, hj, e1, e2⟩ := hq i hi;rw [e1, e2]; exact h.k j hj
abbrev sV (s : St) (rank now exp : Int) : It := ⟨Za s, s, rank, now, exp, 0⟩
def aZ (s : St) (rank now exp : Int) (S : Ss) : Ss := ⟨S.I ++ [sV s rank now exp], S.P ++ [Za s], S.Q, S.V⟩
theorem Fam.add {I : List It} (h : Fam I) {s : St} (hs : KO s) (hb : Wo I (Za s) = none) (rank now exp : Int) : Fam (I ++ [sV s rank now exp]) := by
 refine ⟨fun i hi => ?_, fun i hi => ?_, ?_⟩
 ·rcases List.mem_append.1 hi with hi | hi
  ·exact h.a i hi
  ·rw [List.mem_singleton.1 hi]; exact hs
 ·rcases List.mem_append.1 hi with hi | hi
  ·exact h.k i hi
  ·rw [List.mem_singleton.1 hi]
 ·unfold keys;rw [List.map_append];refine List.nodup_append.2 ⟨h.n, by simp, fun a ha b hb2 q => ?_⟩;simp at hb2;exact WB.1 hb (by rw [← hb2, ← q]; exact ha)
theorem mO (rank now exp : Int) : Je rank now exp = true ↔ (0 ≤ now ∧ now ≤ 1099511627776) ∧ (0 ≤ exp ∧ exp ≤ 1099511627776) ∧ now < exp ∧ 0 ≤ rank ∧ rank ≤ 9 := by
 unfold Je;rw [Bool.and_eq_true, Bool.and_eq_true, Bool.and_eq_true, VX, VX, VX];simp only [Bool.not_eq_true', decide_eq_false_iff_not];constructor
 ·rintro ⟨⟨⟨h1, h2⟩, h3⟩, h4⟩;exact ⟨h1, h2, by omega, h4⟩
 ·rintro ⟨h1, h2, h3, h4⟩;exact ⟨⟨⟨h1, h2⟩, by omega⟩, h4⟩
theorem dS {N : Nat} {s : St} (hs : KO s) {rank now exp : Int} (hk : Je rank now exp = true) (S : Ss) : UM N s rank now exp S = JC N s rank now exp S := by
 unfold UM;rw [if_neg (by rw [hs.q.err]; decide), if_neg (by rw [hk]; decide)]
/-- there is room -/
theorem Fam.room {N : Nat} {S : Ss} (h : Fam S.I) {s : St} (hs : KO s) (hb : Wo S.I (Za s) = none) {rank now exp : Int} (hN : 64 * S.I.length + 96 ≤ N) : Uk N (Za s) s rank now exp S = (aZ s rank now exp S, 0) := by
 rw [dI]
 ·rfl
 rw [h.left, h.cost hs hb];split
 ·next e => omega
 ·next e => omega
theorem Fam.ow {N : Nat} {S : Ss} (h : Fam S.I) {s : St} (hs : KO s) (hb : Wo S.I (Za s) = none) {rank now exp : Int} (hk : Je rank now exp = true) (hN : 64 * S.I.length + 96 ≤ N) : UM N s rank now exp S = (aZ s rank now exp S, 0) := by
 rw [dS hs hk, YF hb, h.room hs hb hN]
theorem free_eq {I : List It} (hn : (keys I).Nodup) {i : It} (hi : i ∈ I) : free I i.k = decide (i.pins = 0) := by
 unfold free;rw [QB hn hi]
end Go.Proofs.YtejmbmenbailmaaGreat
namespace Go.Proofs.YtejmbmenbailmaaGreat
open Go.Xs
open Enc (enc)
abbrev sU : Ss := ⟨[], [], [], []⟩
abbrev bC (s : St) (p r c x : Int) : It := ⟨Za s, s, r, c, x, p⟩
abbrev one (s : St) (p r c x : Int) (P Q : List Ky) : Ss := ⟨[bC s p r c x], P, Q, []⟩
theorem Xf (s : St) (p r c x : Int) : Wo [bC s p r c x] (Za s) = some (bC s p r c x) := by
 unfold Wo;rw [List.find?_cons, decide_eq_true rfl]
theorem sO (s : St) (p r c x : Int) : WS [bC s p r c x] (Za s) = [] := by
 unfold WS;rw [List.filter_cons, if_neg (by simp)]; rfl
theorem Qf {s : St} {k : Ky} (hk : fk k = Za s) {p r c x b : Int} {P Q : List Ky} (h : 0 ≤ p + b ∧ p + b ≤ 1000) : Uo k b (one s p r c x P Q) = (one s (p + b) r c x P Q, 0) := by
 unfold Uo;rw [hk, show Wo (one s p r c x P Q).I (Za s) = _ from Xf s p r c x];show (if KW (p + b) 1000 = false then _ else _) = _;rw [(VX _ _).2 h, if_neg (by decide)];show ((⟨[if Za s = Za s then _ else _], P, Q, []⟩ : Ss), (0 : Int)) = _;rw [if_pos rfl]
theorem fu {s : St} {k : Ky} (hk : fk k = Za s) {p r c x b : Int} {P Q : List Ky} (h : ¬ (0 ≤ p + b ∧ p + b ≤ 1000)) : Uo k b (one s p r c x P Q) = (one s p r c x P Q, 1) := by
 unfold Uo;rw [hk, show Wo (one s p r c x P Q).I (Za s) = _ from Xf s p r c x];show (if KW (p + b) 1000 = false then _ else _) = _;rw [if_pos];cases hw : KW (p + b) 1000 with
 | false => rfl
 | true => exact absurd ((VX _ _).1 hw) h
theorem au {s : St} {k : Ky} (hk : fk k = Za s) {p r c x : Int} {P Q : List Ky} (hp : 0 < p) : yN k (one s p r c x P Q) = (one s p r c x P Q, 6) := by
 unfold yN;rw [hk, show Wo (one s p r c x P Q).I (Za s) = _ from Xf s p r c x];show (if 0 < p then _ else _) = _;rw [if_pos hp]
theorem mR {s : St} (hs : KO s) {r c x : Int} (hk : Je r c x = true) : UM 2048 s r c x sU = (one s 0 r c x [Za s] [], 0) := Fam.nil.ow (S := sU) hs rfl hk (by decide)
theorem fq {s s' : St} (hs : KO s') (he : Za s' = Za s) {p r c x r' c' x' : Int} {P Q : List Ky} (hk : Je r' c' x' = true) (hp : 0 < p) : UM 2048 s' r' c' x' (one s p r c x P Q) = (one s p r c x P Q, 6) := by
 rw [dS hs hk, YE (i := bC s p r c x) (by rw [he]; exact Xf s p r c x), if_pos hp]
theorem Qw {s : St} {p r c x now : Int} : due now [bC s p r c x] = if x ≤ now then [Za s] else [] := by
 show ((List.filter (fun e => decide (Ua e ≤ now)) [(⟨Za s, x⟩ : De)]).map (·.k)) = _;rw [List.filter_cons];by_cases h : x ≤ now
 ·rw [if_pos h, if_pos (by show decide (x ≤ now) = true; rw [decide_eq_true h])]; rfl
 ·rw [if_neg h, if_neg (by show ¬ decide (x ≤ now) = true; rw [decide_eq_false h]; decide)]; rfl
theorem eZ {s : St} {p r c x now : Int} {P Q : List Ky} (h : now < x ∨ 0 < p) : Xm now (one s p r c x P Q) = (one s p r c x P Q, 0) := by
 unfold Xm;rw [show (one s p r c x P Q).I = [bC s p r c x] from rfl, Qw];split
 ·next h2 =>
  show swp _ _ = _;unfold swp free;rw [show Wo (one s p r c x P Q, 0).1.I (Za s) = _ from Xf s p r c x];show (if decide (p = 0) = true then _ else _) = _;rw [if_neg (by simp; omega)]
 ·rfl
theorem mM {s : St} {r c x now : Int} {P Q : List Ky} (h : x ≤ now) : Xm now (one s 0 r c x P Q) = (⟨[], P.erase (Za s), Q.erase (Za s), [Za s]⟩, 1) := by
 unfold Xm;rw [show (one s 0 r c x P Q).I = [bC s 0 r c x] from rfl, Qw, if_pos h];show swp _ _ = _;unfold swp free;rw [show Wo (one s 0 r c x P Q, 0).1.I (Za s) = _ from Xf s 0 r c x];show (if decide ((0 : Int) = 0) = true then _ else _) = _;rw [if_pos (by decide)];unfold Jf;rw [show WS (one s 0 r c x P Q, 0).1.I (Za s) = [] from sO s 0 r c x];rfl
theorem Qe {K : Ky} : Ye 4 K [K] [] = [] ∧ Yd 4 K [K] [] = [K] := by
 unfold Ye Yd;constructor <;> simp
/-- the document's name -/
theorem Aa : Av [1, 97, 0] := ⟨by decide +kernel, by decide +kernel, by decide, by decide⟩
theorem gq {d : Bs} (hd : d.length = 4) : KO (WO [1, 97, 0] d) := ⟨_, d, Aa, hd, rfl⟩
theorem D5 {d : Bs} (hd : d.length = 4) : Za (WO [1, 97, 0] d) = ⟨[1, 97, 0], 1⟩ := (gq hd).q.key
end Go.Proofs.YtejmbmenbailmaaGreat
namespace Go.Proofs.YtejmbmenbailmaaGreat
open Go.Xs
open Enc (enc)
structure Rw (kF : Nat → Ky) (e p : Nat → Int) (n : Nat) (I : List It) : Prop where
 fam : Fam I
 de : I.map It.de = (List.range n).map fun j => (⟨kF j, e j⟩ : De)
 pn : ∀ i ∈ I, ∀ j, j < n → i.k = kF j → i.pins = p j
section
variable {kF : Nat → Ky} {e p : Nat → Int} {n : Nat} {I : List It}
theorem Rw.nil : Rw kF e p 0 [] := ⟨Fam.nil, rfl, fun i hi => by simp at hi⟩
theorem Rw.ks (h : Rw kF e p n I) : keys I = (List.range n).map kF := by
 have := congrArg (List.map (·.k)) h.de;rw [List.map_map, List.map_map] at this;exact this
theorem Rw.len (h : Rw kF e p n I) : I.length = n := by
 have := congrArg List.length h.de;simpa using this
theorem Rw.get (h : Rw kF e p n I) {j : Nat} (hj : j < n) : ∃ i, i ∈ I ∧ Wo I (kF j) = some i ∧ i.k = kF j ∧ i.exp = e j ∧ i.pins = p j := by
 have hm : (⟨kF j, e j⟩ : De) ∈ I.map It.de := by rw [h.de]; exact List.mem_map.2 ⟨j, List.mem_range.2 hj, rfl⟩
 obtain ⟨i, hi, he⟩ := List.mem_map.1 hm;have h1 : i.k = kF j := congrArg De.k he;have h2 : i.exp = e j := congrArg De.at_ he;exact ⟨i, hi, by rw [← h1]; exact QB h.fam.n hi, h1, h2, h.pn i hi j hj h1⟩
theorem Rw.mem (h : Rw kF e p n I) {k : Ky} : k ∈ keys I ↔ ∃ j, j < n ∧ kF j = k := by
 rw [h.ks, List.mem_map];constructor
 ·rintro ⟨j, hj, e⟩; exact ⟨j, List.mem_range.1 hj, e⟩
 ·rintro ⟨j, hj, e⟩; exact ⟨j, List.mem_range.2 hj, e⟩
theorem Rw.non (h : Rw kF e p n I) {k : Ky} (hk : ∀ j, j < n → kF j ≠ k) : Wo I k = none := by
 rw [WB, h.mem];rintro ⟨j, hj, e⟩;exact hk j hj e
theorem Rw.inj (h : Rw kF e p n I) {a b : Nat} (ha : a < n) (hb : b < n) (hab : kF a = kF b) : a = b := by
 have hn := h.fam.n;rw [h.ks] at hn;have a1 : ((List.range n).map kF)[a]? = some (kF a) := by rw [List.getElem?_map, List.getElem?_range ha]; rfl
 have a2 : ((List.range n).map kF)[b]? = some (kF a) := by rw [List.getElem?_map, List.getElem?_range hb, hab]; rfl
 exact (List.getElem?_inj (List.getElem?_eq_some_iff.1 a1).1 hn).1 (a1.trans a2.symm)
theorem Rw.free (h : Rw kF e p n I) {j : Nat} (hj : j < n) : free I (kF j) = decide (p j = 0) := by
 obtain ⟨i, hi, _, h1, _, h3⟩ := h.get hj;rw [← h1, free_eq h.fam.n hi, h3]
theorem Rw.add (h : Rw kF e p n I) {s : St} (hs : KO s) (hk : Za s = kF n) (hne : ∀ j, j < n → kF j ≠ kF n) {rank now exp : Int} (he : e n = exp) (hp : p n = 0) : Rw kF e p (n + 1) (I ++ [sV s rank now exp]) := by
 have hb : Wo I (Za s) = none := h.non fun j hj q => hne j hj (q.trans hk)
 refine ⟨h.fam.add hs hb rank now exp, ?_, fun i hi j hj hij => ?_⟩
 ·rw [List.map_append, h.de, List.range_succ, List.map_append];show _ ++ [(⟨Za s, exp⟩ : De)] = _ ++ [(⟨kF n, e n⟩ : De)];rw [hk, he]
 ·rcases List.mem_append.1 hi with hi | hi
  ·by_cases hjn : j = n
   ·have : i.k ∈ keys I := List.mem_map.2 ⟨i, hi, rfl⟩;obtain ⟨j', hj', e'⟩ := h.mem.1 this;exact absurd (e'.trans (hij.trans (by rw [hjn]))) (hne j' hj')
   ·exact h.pn i hi j (by omega) hij
  ·rw [List.mem_singleton.1 hi] at hij ⊢;by_cases hjn : j = n
   ·rw [hjn, hp]
   ·exact absurd (hij.symm.trans hk) (hne j (by omega))
theorem Rw.WM (h : Rw kF e p n I) {j : Nat} (hj : j < n) (v : Int) : Rw kF e (fun x => if x = j then v else p x) n (WM I (kF j) v) := by
 refine ⟨h.fam.WM _ _, by rw [qV]; exact h.de, fun i hi a ha hia => ?_⟩;obtain ⟨y, hy, rfl⟩ := List.mem_map.1 hi;show (if y.k = kF j then { y with pins := v } else y).pins = if a = j then v else p a
 have hia : (if y.k = kF j then { y with pins := v } else y).k = kF a := hia;by_cases hyk : y.k = kF j
 ·rw [if_pos hyk] at hia ⊢;have : a = j := h.inj ha hj (hia.symm.trans hyk);rw [if_pos this]
 ·rw [if_neg hyk] at hia ⊢;rw [if_neg (fun q => hyk (by rw [hia, q]))];exact h.pn y hy a ha hia
theorem Rw.mono {e' p' : Nat → Int} (h : Rw kF e p n I) (he : ∀ j, j < n → e j = e' j) (hp : ∀ j, j < n → p j = p' j) : Rw kF e' p' n I :=
 ⟨h.fam, by rw [h.de]; exact List.map_congr_left fun j hj => by rw [he j (List.mem_range.1 hj)], fun i hi j hj hij => by rw [← hp j hj]; exact h.pn i hi j hj hij⟩
end
theorem mq {kF : Nat → Ky} {e p : Nat → Int} {n : Nat} {S : Ss} (h : Rw kF e p n S.I) {k : Ky} {j : Nat} (hj : j < n) (hk : fk k = kF j) {b : Int} (hb : 0 ≤ p j + b ∧ p j + b ≤ 1000) :
 Uo k b S = (⟨WM S.I (kF j) (p j + b), S.P, S.Q, S.V⟩, 0) := by
 obtain ⟨i, hi, h1, h2, h3, h4⟩ := h.get hj;unfold Uo;rw [hk, h1];show (if KW (i.pins + b) 1000 = false then _ else _) = _;rw [h4, (VX _ _).2 hb, if_neg (by decide)]
/-! ### those that are over -/
theorem jJ {α β : Type} (key : β → Int) (f : α → β) (x : α) : ∀ R : List α, Us key (f x) (R.map f) = (Us (fun a => key (f a)) x R).map f
 | [] => rfl
 | y :: R => by
  rw [List.map_cons, Us, Us];split
  ·rw [jJ key f x R]; rfl
  ·rfl
theorem aF {α β : Type} (key : β → Int) (f : α → β) (L : List α) : yA key (L.map f) = (yA (fun a => key (f a)) L).map f := by
 have : ∀ (L R : List α), (L.map f).foldl (fun R x => Us key x R) (R.map f) = (L.foldl (fun R x => Us (fun a => key (f a)) x R) R).map f := by
  intro L
  induction L with
  | nil => intro R; rfl
  | cons x L ih => intro R; rw [List.map_cons, List.foldl_cons, List.foldl_cons, jJ, ih]
 exact this L []
/-- the numbers of those that are over, in order -/
def Aj (e : Nat → Int) (n : Nat) (now : Int) : List Nat := (yA e (List.range n)).filter fun j => decide (e j ≤ now)
theorem Rw.due {kF : Nat → Ky} {e p : Nat → Int} {n : Nat} {I : List It} (h : Rw kF e p n I) (now : Int) : due now I = (Aj e n now).map kF := by
 unfold Go.Proofs.YtejmbmenbailmaaGreat.due upto Aj;rw [h.de, aF, List.filter_map, List.map_map];rfl
theorem mJ {e : Nat → Int} {n : Nat} {now : Int} {j : Nat} : j ∈ Aj e n now ↔ j < n ∧ e j ≤ now := by
 unfold Aj;rw [List.mem_filter, (yx (key := e) (List.range n)).mem, List.mem_range];simp
end Go.Proofs.YtejmbmenbailmaaGreat
