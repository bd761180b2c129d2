/- The set of an address may be: what it takes. Stores of addresses' sets, plainly: what they take, who goes. A store of one item, plainly. Stores whose items are numbered, plainly. -/
import Derived.Test.YtejmbmenbailmaaGreatS1
import Derived.Test.YtejmbmenbailmaaGreatC1
namespace Go.Proofs.YtejmbmenbailmaaGreat
open Go.Xs
open Enc (enc)
theorem ng {n d : Bs} (hn : vG n = true) (hd : d.length = 4) : wF (ZV n d) = 0 ∧ Zn (ZV n d) = 22 ∧ Z7 (ZV n d) = [n, [0]] ∧ Jr (ZV n d) := by
 have hv0 : vG [0] = true := by decide +kernel
 have hp : prt 1 d = [] := uT rfl;have hdo : ZH 1 d = true := by unfold ZH; rw [if_neg (by omega), if_pos rfl, hd]; rfl
 have hsz : Zn (ZV n d) = 22 := by
  unfold Zn ZV vH;simp only [List.map_cons, List.map_nil, hp, hd];decide
 have hm : vU (ZV n d) = true := by
  unfold vU ZV Xx YJ;simp [hn, hv0, hdo]
 have hnl := WA hn;refine ⟨?_, hsz, ?_, ⟨by show n.length < _; omega, by show 1 < _; omega, by show 1 < _; omega, fun r hr => ?_⟩⟩
 ·unfold wF;rw [if_neg (by rw [hm]; decide), hsz, if_neg (by decide)]
 ·unfold Z7 ZV Zr;simp only [List.map_cons, List.map_nil, hp]; rfl
 ·rw [List.mem_singleton.1 hr];exact ⟨by show n.length < _; omega, by show d.length < _; omega⟩
end Go.Proofs.YtejmbmenbailmaaGreat
namespace Go.Proofs.YtejmbmenbailmaaGreat
open Go.Xs
open Enc (enc)
/-- a short name in small letters, not the root's -/
structure Av (n : Bs) : Prop where
 v : vG n = true
 f : zA n = n
 l : 1 ≤ n.length ∧ n.length ≤ 16
 z : n ≠ [0]
def Yo (s : St) : Prop := ∃ n d, Av n ∧ d.length = 4 ∧ s = ZV n d
theorem kg : zA [0] = [0] := by decide +kernel
theorem xK {k : Nat} (h : 9 ≤ k ∧ k ≤ 24) : Z0 k = 32 := by
 unfold Z0;rw [if_neg (by omega), if_pos (by omega)]
structure IE (s : St) : Prop where
 err : wF s = 0
 ok : Jr s
 nms : Z7 s = [s.name, [0]]
 siz : Z0 (Zn s).toNat = 32
 cst : cost (Zn s) = 32
 key : Z8 s = ⟨s.name, 1⟩
 nm : Av s.name
theorem Yo.q {s : St} (h : Yo s) : IE s := by
 obtain ⟨n, d, hn, hd, rfl⟩ := h;obtain ⟨h1, h2, h3, h4⟩ := ng hn.v hd;refine ⟨h1, h4, h3, by rw [h2]; decide, by rw [h2]; decide, ?_, hn⟩;show fk ⟨n, 1⟩ = ⟨n, 1⟩;unfold fk;rw [hn.f]
theorem QO {n : Bs} (h : Av n) (t : Int) : fk ⟨n, t⟩ = ⟨n, t⟩ := by unfold fk; rw [h.f]
theorem VG {α : Type} {f : α → Nat} {c : Nat} : ∀ {l : List α}, (∀ x ∈ l, f x = c) → (l.map f).sum = c * l.length
 | [], _ => by simp
 | x :: l, h => by
  rw [List.map_cons, List.sum_cons, VG fun y hy => h y (List.mem_cons_of_mem _ hy), h x (by simp), List.length_cons, Nat.mul_succ]; omega
theorem gM {I : List St} (h : ∀ s ∈ I, Yo s) (n : Bs) : n ∈ gN I ↔ n ∈ I.map (·.name) ∨ (n = [0] ∧ I ≠ []) := by
 rw [Qy, List.mem_map];have e : ∀ s ∈ I, (Z7 s).map zA = [s.name, [0]] := fun s hs => by
  rw [(h s hs).q.nms];simp only [List.map_cons, List.map_nil, (h s hs).q.nm.f, kg]
 constructor
 ·rintro ⟨s, hs, hn⟩;rw [e s hs] at hn;rcases List.mem_cons.1 hn with rfl | hn
  ·exact .inl ⟨s, hs, rfl⟩
  ·exact .inr ⟨List.mem_singleton.1 hn, fun q => by rw [q] at hs; simp at hs⟩
 ·rintro (⟨s, hs, rfl⟩ | ⟨rfl, hne⟩)
  ·exact ⟨s, hs, by rw [e s hs]; simp⟩
  ·obtain ⟨s, hs⟩ := List.exists_mem_of_ne_nil _ hne;exact ⟨s, hs, by rw [e s hs]; simp⟩
theorem mH {I : List St} (h : ∀ s ∈ I, Yo s) (hn : (I.map (·.name)).Nodup) (h0 : I ≠ []) : Vl I = 64 * I.length + 32 := by
 have hd : ([0] :: I.map (·.name)).Nodup := List.nodup_cons.2 ⟨fun hm => by
  obtain ⟨s, hs, e⟩ := List.mem_map.1 hm;exact (h s hs).q.nm.z e, hn⟩
 rw [aK hd fun n => by
  rw [gM h, List.mem_cons];constructor
  ·rintro (rfl | h2)
   ·exact .inr ⟨rfl, h0⟩
   ·exact .inl h2
  ·rintro (h2 | ⟨rfl, _⟩)
   ·exact .inr h2
   ·exact .inl rfl]
 rw [List.map_cons, List.sum_cons, VG (f := fun n : Bs => Z0 (8 + n.length)) (c := 32) (l := I.map (·.name)) fun n hn => by
  obtain ⟨s, hs, rfl⟩ := List.mem_map.1 hn;have := (h s hs).q.nm.l;exact xK (by omega), VG (f := fun s => Z0 (Zn s).toNat) (c := 32) fun s hs => (h s hs).q.siz, List.length_map]
 show Z0 9 + _ + _ = _;rw [xK (by decide)];omega
theorem oC {I : List St} {s : St} (h : ∀ s ∈ I, Yo s) (hs : Yo s) (hn : s.name ∉ I.map (·.name)) : uL I s = if I = [] then 96 else 64 := by
 have q := hs.q;have hl := q.nm.l;have hz := q.nm.z;have e0 : ([0] : Bs) ∈ gN I ↔ I ≠ [] := by
  rw [gM h];constructor
  ·rintro (hm | hm)
   ·obtain ⟨x, hx, e⟩ := List.mem_map.1 hm;exact absurd e (h x hx).q.nm.z
   ·exact hm.2
  ·exact fun hm => .inr ⟨rfl, hm⟩
 have e1 : s.name ∉ gN I := fun hm => by
  rcases (gM h _).1 hm with hm | hm
  ·exact hn hm
  ·exact hz hm.1
 unfold uL;rw [if_pos q.err, q.cst, q.nms];unfold Y5 Y5 Y5;rw [q.nm.f, kg, if_neg (by simpa using e1), xK (by omega), show Z0 (8 + ([0] : Bs).length) = 32 from xK (by decide)];by_cases hI : I = []
 ·rw [if_pos hI, if_neg]
  ·rfl
  ·rw [e0];rintro (hm | hm)
   ·exact hz (List.mem_singleton.1 hm).symm
   ·exact hm hI
 ·rw [if_neg hI, if_pos (.inr (e0.2 hI))]; rfl
/-! ### items of such sets -/
structure Fam (I : List It) : Prop where
 a : ∀ i ∈ I, Yo i.s
 k : ∀ i ∈ I, i.k = Z8 i.s
 n : (keys I).Nodup
theorem Fam.key {I : List It} (h : Fam I) {i : It} (hi : i ∈ I) : i.k = ⟨i.s.name, 1⟩ := by rw [h.k i hi, (h.a i hi).q.key]
theorem Fam.sa {I : List It} (h : Fam I) : ∀ s ∈ sets I, Yo s := fun s hs => by
 obtain ⟨i, hi, rfl⟩ := List.mem_map.1 hs;exact h.a i hi
theorem Fam.nms {I : List It} (h : Fam I) : (sets I).map (·.name) = (keys I).map (·.n) := by
 unfold sets keys;rw [List.map_map, List.map_map];refine List.map_congr_left fun i hi => ?_
 show i.s.name = i.k.n;rw [h.key hi]
theorem Fam.Mf {I : List It} (h : Fam I) : ((keys I).map (·.n)).Nodup := by
 have : ∀ k ∈ keys I, k.t = 1 := fun k hk => by
  obtain ⟨i, hi, rfl⟩ := List.mem_map.1 hk;rw [h.key hi]
 have hn := h.n;generalize keys I = K at *
 induction K with
 | nil => simp
 | cons k K ih =>
  have h2 := List.nodup_cons.1 hn;rw [List.map_cons];refine List.nodup_cons.2 ⟨fun hm => ?_, ih (fun x hx => this x (List.mem_cons_of_mem _ hx)) h2.2⟩;obtain ⟨x, hx, e⟩ := List.mem_map.1 hm;exact h2.1 (by rw [show k = x from Ky.ext' e.symm (by rw [this k (by simp), this x (List.mem_cons_of_mem _ hx)])]; exact hx)
theorem Fam.used {I : List It} (h : Fam I) (h0 : I ≠ []) : Vl (sets I) = 64 * I.length + 32 := by
 rw [mH h.sa (by rw [h.nms]; exact h.Mf) (by unfold sets; simpa using h0)];unfold sets;rw [List.length_map]
theorem Fam.cost {I : List It} (h : Fam I) {s : St} (hs : Yo s) (hb : wG I (Z8 s) = none) : uL (sets I) s = if I = [] then 96 else 64 := by
 rw [oC h.sa hs fun hm => ?_]
 ·unfold sets;cases I <;> rfl
 ·rw [h.nms] at hm;obtain ⟨k, hk, e⟩ := List.mem_map.1 hm;refine ZJ.1 hb ?_;obtain ⟨i, hi, rfl⟩ := List.mem_map.1 hk;rw [hs.q.key, ← e, show (⟨i.k.n, 1⟩ : Ky) = i.k from by rw [h.key hi]];exact hk
theorem Fam.left {N : Nat} {S : Ss} (h : Fam S.I) : uV N S = ((N - (if S.I = [] then 0 else 64 * S.I.length + 32) : Nat) : Int) := by
 unfold uV;split
 ·next e => rw [e]; rfl
 ·next e => rw [h.used e]
theorem Fam.nil : Fam [] := ⟨fun i hi => by simp at hi, fun i hi => by simp at hi, List.nodup_nil⟩
theorem Fam.out {I : List It} (h : Fam I) (k : Ky) : Fam (Wx I k) := ⟨fun i hi => h.a i ((WC _ _).subset hi), fun i hi => h.k i ((WC _ _).subset hi), ((WC I k).map _).nodup h.n⟩
theorem Fam.WS {I : List It} (h : Fam I) (k : Ky) (p : Int) : Fam (WS I k p) := by
 have hq : ∀ i ∈ Go.Proofs.YtejmbmenbailmaaGreat.WS I k p, ∃ j ∈ I, i.s = j.s ∧ i.k = j.k := fun i hi => by
  obtain ⟨j, hj, rfl⟩ := List.mem_map.1 hi;refine ⟨j, hj, ?_⟩;show (if j.k = k then { j with pins := p } else j).s = j.s ∧ (if j.k = k then { j with pins := p } else j).k = j.k;split <;> exact ⟨rfl, rfl⟩
 refine ⟨fun i hi => ?_, fun i hi => ?_, by rw [U8]; exact h.n⟩
 ·obtain ⟨j, hj, e, _⟩ := hq i hi;rw [e]; exact h.a j hj
 ·obtain ⟨j, hj, e1, e2⟩ := hq i hi;rw [e1, e2]; exact h.k j hj
abbrev tY (s : St) (rank now exp : Int) : It := ⟨Z8 s, s, rank, now, exp, 0⟩
def xR (s : St) (rank now exp : Int) (S : Ss) : Ss := ⟨S.I ++ [tY s rank now exp], S.P ++ [Z8 s], S.Q, S.V⟩
theorem Fam.add {I : List It} (h : Fam I) {s : St} (hs : Yo s) (hb : wG I (Z8 s) = none) (rank now exp : Int) : Fam (I ++ [tY s rank now exp]) := by
 refine ⟨fun i hi => ?_, fun i hi => ?_, ?_⟩
 ·rcases List.mem_append.1 hi with hi | hi
  ·exact h.a i hi
  ·rw [List.mem_singleton.1 hi]; exact hs
 ·rcases List.mem_append.1 hi with hi | hi
  ·exact h.k i hi
  ·rw [List.mem_singleton.1 hi]
 ·unfold keys;rw [List.map_append];refine List.nodup_append.2 ⟨h.n, by simp, fun a ha b hb2 q => ?_⟩;simp at hb2;exact ZJ.1 hb (by rw [← hb2, ← q]; exact ha)
theorem Qx (rank now exp : Int) : Yu rank now exp = true ↔ (0 ≤ now ∧ now ≤ 1099511627776) ∧ (0 ≤ exp ∧ exp ≤ 1099511627776) ∧ now < exp ∧ 0 ≤ rank ∧ rank ≤ 9 := by
 unfold Yu;rw [Bool.and_eq_true, Bool.and_eq_true, Bool.and_eq_true, uj, uj, uj];simp only [Bool.not_eq_true', decide_eq_false_iff_not];constructor
 ·rintro ⟨⟨⟨h1, h2⟩, h3⟩, h4⟩;exact ⟨h1, h2, by omega, h4⟩
 ·rintro ⟨h1, h2, h3, h4⟩;exact ⟨⟨⟨h1, h2⟩, by omega⟩, h4⟩
theorem Km {N : Nat} {s : St} (hs : Yo s) {rank now exp : Int} (hk : Yu rank now exp = true) (S : Ss) : VO N s rank now exp S = JV N s rank now exp S := by
 unfold VO;rw [if_neg (by rw [hs.q.err]; decide), if_neg (by rw [hk]; decide)]
/-- there is room -/
theorem Fam.room {N : Nat} {S : Ss} (h : Fam S.I) {s : St} (hs : Yo s) (hb : wG S.I (Z8 s) = none) {rank now exp : Int} (hN : 64 * S.I.length + 96 ≤ N) : Uw N (Z8 s) s rank now exp S = (xR s rank now exp S, 0) := by
 rw [eF]
 ·rfl
 rw [h.left, h.cost hs hb];split
 ·next e => omega
 ·next e => omega
theorem Fam.fA {N : Nat} {S : Ss} (h : Fam S.I) {s : St} (hs : Yo s) (hb : wG S.I (Z8 s) = none) {rank now exp : Int} (hk : Yu rank now exp = true) (hN : 64 * S.I.length + 96 ≤ N) : VO N s rank now exp S = (xR s rank now exp S, 0) := by
 rw [Km hs hk, Ua hb, h.room hs hb hN]
/-- there is none: who goes -/
theorem Fam.fB {N : Nat} {S : Ss} (h : Fam S.I) {s : St} (hs : Yo s) (hb : wG S.I (Z8 s) = none) {rank now exp : Int} (hk : Yu rank now exp = true) (h0 : S.I ≠ []) (hN : N < 64 * S.I.length + 96) (hN2 : 64 * S.I.length + 32 ≤ N) {k : Ky} (hn : wN now S = some k) :
 VO N s rank now exp S = (xR s rank now exp (Xb k S), 0) := by
 obtain ⟨i, hi, _⟩ := KD hn;have hol := VP h.n hi;rw [Km hs hk, Ua hb, jF h.n ?_ hn hi]
 ·exact (h.out k).room (S := Xb k S) hs (QY hb) (by show 64 * (Wx S.I k).length + 96 ≤ N; omega)
 ·rw [h.left, h.cost hs hb, if_neg h0, if_neg h0]; omega
theorem Fam.Cn {N : Nat} {S : Ss} (h : Fam S.I) {s : St} (hs : Yo s) (hb : wG S.I (Z8 s) = none) {rank now exp : Int} (hk : Yu rank now exp = true) (h0 : S.I ≠ []) (hN : N < 64 * S.I.length + 96) (hn : wN now S = none) :
 VO N s rank now exp S = (S, 4) := by
 rw [Km hs hk, Ua hb, eG ?_ hn];rw [h.left, h.cost hs hb, if_neg h0, if_neg h0];omega
theorem free_eq {I : List It} (hn : (keys I).Nodup) {i : It} (hi : i ∈ I) : free I i.k = decide (i.pins = 0) := by
 unfold free;rw [QZ hn hi]
end Go.Proofs.YtejmbmenbailmaaGreat
namespace Go.Proofs.YtejmbmenbailmaaGreat
open Go.Xs
open Enc (enc)
abbrev aV : Ss := ⟨[], [], [], []⟩
abbrev bZ (s : St) (p r c x : Int) : It := ⟨Z8 s, s, r, c, x, p⟩
abbrev one (s : St) (p r c x : Int) (P Q : List Ky) : Ss := ⟨[bZ s p r c x], P, Q, []⟩
theorem Xp (s : St) (p r c x : Int) : wG [bZ s p r c x] (Z8 s) = some (bZ s p r c x) := by
 unfold wG;rw [List.find?_cons, decide_eq_true rfl]
theorem tQ (s : St) (p r c x : Int) : Wx [bZ s p r c x] (Z8 s) = [] := by
 unfold Wx;rw [List.filter_cons, if_neg (by simp)]; rfl
theorem Qw {s : St} {k : Ky} (hk : fk k = Z8 s) {p r c x b : Int} {P Q : List Ky} (h : 0 ≤ p + b ∧ p + b ≤ 1000) : V3 k b (one s p r c x P Q) = (one s (p + b) r c x P Q, 0) := by
 unfold V3;rw [hk, show wG (one s p r c x P Q).I (Z8 s) = _ from Xp s p r c x];show (if j5 (p + b) 1000 = false then _ else _) = _;rw [(uj _ _).2 h, if_neg (by decide)];show ((⟨[if Z8 s = Z8 s then _ else _], P, Q, []⟩ : Ss), (0 : Int)) = _;rw [if_pos rfl]
theorem gH {s : St} {k : Ky} (hk : fk k = Z8 s) {p r c x b : Int} {P Q : List Ky} (h : ¬ (0 ≤ p + b ∧ p + b ≤ 1000)) : V3 k b (one s p r c x P Q) = (one s p r c x P Q, 1) := by
 unfold V3;rw [hk, show wG (one s p r c x P Q).I (Z8 s) = _ from Xp s p r c x];show (if j5 (p + b) 1000 = false then _ else _) = _;rw [if_pos];cases hw : j5 (p + b) 1000 with
 | false => rfl
 | true => exact absurd ((uj _ _).1 hw) h
theorem aU {s : St} {k : Ky} (hk : fk k = Z8 s) {p r c x : Int} {P Q : List Ky} (hp : 0 < p) : Y0 k (one s p r c x P Q) = (one s p r c x P Q, 6) := by
 unfold Y0;rw [hk, show wG (one s p r c x P Q).I (Z8 s) = _ from Xp s p r c x];show (if 0 < p then _ else _) = _;rw [if_pos hp]
theorem nS {s : St} (hs : Yo s) {r c x : Int} (hk : Yu r c x = true) : VO 2048 s r c x aV = (one s 0 r c x [Z8 s] [], 0) := Fam.nil.fA (S := aV) hs rfl hk (by decide)
theorem gG {s s' : St} (hs : Yo s') (he : Z8 s' = Z8 s) {p r c x r' c' x' : Int} {P Q : List Ky} (hk : Yu r' c' x' = true) (hp : 0 < p) : VO 2048 s' r' c' x' (one s p r c x P Q) = (one s p r c x P Q, 6) := by
 rw [Km hs hk, YP (i := bZ s p r c x) (by rw [he]; exact Xp s p r c x), if_pos hp]
theorem QT {s : St} {p r c x now : Int} : due now [bZ s p r c x] = if x ≤ now then [Z8 s] else [] := by
 show ((List.filter (fun e => decide (Ul e ≤ now)) [(⟨Z8 s, x⟩ : De)]).map (·.k)) = _;rw [List.filter_cons];by_cases h : x ≤ now
 ·rw [if_pos h, if_pos (by show decide (x ≤ now) = true; rw [decide_eq_true h])]; rfl
 ·rw [if_neg h, if_neg (by show ¬ decide (x ≤ now) = true; rw [decide_eq_false h]; decide)]; rfl
theorem gF {s : St} {p r c x now : Int} {P Q : List Ky} (h : now < x ∨ 0 < p) : yt now (one s p r c x P Q) = (one s p r c x P Q, 0) := by
 unfold yt;rw [show (one s p r c x P Q).I = [bZ s p r c x] from rfl, QT];split
 ·next h2 =>
  show swp _ _ = _;unfold swp free;rw [show wG (one s p r c x P Q, 0).1.I (Z8 s) = _ from Xp s p r c x];show (if decide (p = 0) = true then _ else _) = _;rw [if_neg (by simp; omega)]
 ·rfl
theorem nP {s : St} {r c x now : Int} {P Q : List Ky} (h : x ≤ now) : yt now (one s 0 r c x P Q) = (⟨[], P.erase (Z8 s), Q.erase (Z8 s), [Z8 s]⟩, 1) := by
 unfold yt;rw [show (one s 0 r c x P Q).I = [bZ s 0 r c x] from rfl, QT, if_pos h];show swp _ _ = _;unfold swp free;rw [show wG (one s 0 r c x P Q, 0).1.I (Z8 s) = _ from Xp s 0 r c x];show (if decide ((0 : Int) = 0) = true then _ else _) = _;rw [if_pos (by decide)];unfold Xb;rw [show Wx (one s 0 r c x P Q, 0).1.I (Z8 s) = [] from tQ s 0 r c x];rfl
theorem Qv {K : Ky} : Uh 4 K [K] [] = [] ∧ Ug 4 K [K] [] = [K] := by
 unfold Uh Ug;constructor <;> simp
/-- the document's name -/
theorem Aw : Av [1, 97, 0] := ⟨by decide +kernel, by decide +kernel, by decide, by decide⟩
theorem iC {d : Bs} (hd : d.length = 4) : Yo (ZV [1, 97, 0] d) := ⟨_, d, Aw, hd, rfl⟩
theorem Di {d : Bs} (hd : d.length = 4) : Z8 (ZV [1, 97, 0] d) = ⟨[1, 97, 0], 1⟩ := (iC hd).q.key
end Go.Proofs.YtejmbmenbailmaaGreat
namespace Go.Proofs.YtejmbmenbailmaaGreat
open Go.Xs
open Enc (enc)
structure Rw (kF : Nat → Ky) (e p : Nat → Int) (n : Nat) (I : List It) : Prop where
 fam : Fam I
 de : I.map It.de = (List.range n).map fun j => (⟨kF j, e j⟩ : De)
 pn : ∀ i ∈ I, ∀ j, j < n → i.k = kF j → i.pins = p j
section
variable {kF : Nat → Ky} {e p : Nat → Int} {n : Nat} {I : List It}
theorem Rw.nil : Rw kF e p 0 [] := ⟨Fam.nil, rfl, fun i hi => by simp at hi⟩
theorem Rw.ks (h : Rw kF e p n I) : keys I = (List.range n).map kF := by
 have := congrArg (List.map (·.k)) h.de;rw [List.map_map, List.map_map] at this;exact this
theorem Rw.len (h : Rw kF e p n I) : I.length = n := by
 have := congrArg List.length h.de;simpa using this
theorem Rw.get (h : Rw kF e p n I) {j : Nat} (hj : j < n) : ∃ i, i ∈ I ∧ wG I (kF j) = some i ∧ i.k = kF j ∧ i.exp = e j ∧ i.pins = p j := by
 have hm : (⟨kF j, e j⟩ : De) ∈ I.map It.de := by rw [h.de]; exact List.mem_map.2 ⟨j, List.mem_range.2 hj, rfl⟩
 obtain ⟨i, hi, he⟩ := List.mem_map.1 hm;have h1 : i.k = kF j := congrArg De.k he;have h2 : i.exp = e j := congrArg De.at_ he;exact ⟨i, hi, by rw [← h1]; exact QZ h.fam.n hi, h1, h2, h.pn i hi j hj h1⟩
theorem Rw.mem (h : Rw kF e p n I) {k : Ky} : k ∈ keys I ↔ ∃ j, j < n ∧ kF j = k := by
 rw [h.ks, List.mem_map];constructor
 ·rintro ⟨j, hj, e⟩; exact ⟨j, List.mem_range.1 hj, e⟩
 ·rintro ⟨j, hj, e⟩; exact ⟨j, List.mem_range.2 hj, e⟩
theorem Rw.non (h : Rw kF e p n I) {k : Ky} (hk : ∀ j, j < n → kF j ≠ k) : wG I k = none := by
 rw [ZJ, h.mem];rintro ⟨j, hj, e⟩;exact hk j hj e
theorem Rw.inj (h : Rw kF e p n I) {a b : Nat} (ha : a < n) (hb : b < n) (hab : kF a = kF b) : a = b := by
 have hn := h.fam.n;rw [h.ks] at hn;have a1 : ((List.range n).map kF)[a]? = some (kF a) := by rw [List.getElem?_map, List.getElem?_range ha]; rfl
 have a2 : ((List.range n).map kF)[b]? = some (kF a) := by rw [List.getElem?_map, List.getElem?_range hb, hab]; rfl
 exact (List.getElem?_inj (List.getElem?_eq_some_iff.1 a1).1 hn).1 (a1.trans a2.symm)
theorem Rw.free (h : Rw kF e p n I) {j : Nat} (hj : j < n) : free I (kF j) = decide (p j = 0) := by
 obtain ⟨i, hi, _, h1, _, h3⟩ := h.get hj;rw [← h1, free_eq h.fam.n hi, h3]
theorem Rw.add (h : Rw kF e p n I) {s : St} (hs : Yo s) (hk : Z8 s = kF n) (hne : ∀ j, j < n → kF j ≠ kF n) {rank now exp : Int} (he : e n = exp) (hp : p n = 0) : Rw kF e p (n + 1) (I ++ [tY s rank now exp]) := by
 have hb : wG I (Z8 s) = none := h.non fun j hj q => hne j hj (q.trans hk)
 refine ⟨h.fam.add hs hb rank now exp, ?_, fun i hi j hj hij => ?_⟩
 ·rw [List.map_append, h.de, List.range_succ, List.map_append];show _ ++ [(⟨Z8 s, exp⟩ : De)] = _ ++ [(⟨kF n, e n⟩ : De)];rw [hk, he]
 ·rcases List.mem_append.1 hi with hi | hi
  ·by_cases hjn : j = n
   ·have : i.k ∈ keys I := List.mem_map.2 ⟨i, hi, rfl⟩;obtain ⟨j', hj', e'⟩ := h.mem.1 this;exact absurd (e'.trans (hij.trans (by rw [hjn]))) (hne j' hj')
   ·exact h.pn i hi j (by omega) hij
  ·rw [List.mem_singleton.1 hi] at hij ⊢;by_cases hjn : j = n
   ·rw [hjn, hp]
   ·exact absurd (hij.symm.trans hk) (hne j (by omega))
theorem Rw.WS (h : Rw kF e p n I) {j : Nat} (hj : j < n) (v : Int) : Rw kF e (fun x => if x = j then v else p x) n (WS I (kF j) v) := by
 refine ⟨h.fam.WS _ _, by rw [Qf]; exact h.de, fun i hi a ha hia => ?_⟩;obtain ⟨y, hy, rfl⟩ := List.mem_map.1 hi;show (if y.k = kF j then { y with pins := v } else y).pins = if a = j then v else p a
 have hia : (if y.k = kF j then { y with pins := v } else y).k = kF a := hia;by_cases hyk : y.k = kF j
 ·rw [if_pos hyk] at hia ⊢;have : a = j := h.inj ha hj (hia.symm.trans hyk);rw [if_pos this]
 ·rw [if_neg hyk] at hia ⊢;rw [if_neg (fun q => hyk (by rw [hia, q]))];exact h.pn y hy a ha hia
theorem Rw.mono {e' p' : Nat → Int} (h : Rw kF e p n I) (he : ∀ j, j < n → e j = e' j) (hp : ∀ j, j < n → p j = p' j) : Rw kF e' p' n I :=
 ⟨h.fam, by rw [h.de]; exact List.map_congr_left fun j hj => by rw [he j (List.mem_range.1 hj)], fun i hi j hj hij => by rw [← hp j hj]; exact h.pn i hi j hj hij⟩
end
theorem nH {kF : Nat → Ky} {e p : Nat → Int} {n : Nat} {S : Ss} (h : Rw kF e p n S.I) {k : Ky} {j : Nat} (hj : j < n) (hk : fk k = kF j) {b : Int} (hb : 0 ≤ p j + b ∧ p j + b ≤ 1000) :
 V3 k b S = (⟨WS S.I (kF j) (p j + b), S.P, S.Q, S.V⟩, 0) := by
 obtain ⟨i, hi, h1, h2, h3, h4⟩ := h.get hj;unfold V3;rw [hk, h1];show (if j5 (i.pins + b) 1000 = false then _ else _) = _;rw [h4, (uj _ _).2 hb, if_neg (by decide)]
/-! ### those that are over -/
theorem jZ {α β : Type} (key : β → Int) (f : α → β) (x : α) : ∀ R : List α, UD key (f x) (R.map f) = (UD (fun a => key (f a)) x R).map f
 | [] => rfl
 | y :: R => by
  rw [List.map_cons, UD, UD];split
  ·rw [jZ key f x R]; rfl
  ·rfl
theorem bq {α β : Type} (key : β → Int) (f : α → β) (L : List α) : Xr key (L.map f) = (Xr (fun a => key (f a)) L).map f := by
 have : ∀ (L R : List α), (L.map f).foldl (fun R x => UD key x R) (R.map f) = (L.foldl (fun R x => UD (fun a => key (f a)) x R) R).map f := by
  intro L
  induction L with
  | nil => intro R; rfl
  | cons x L ih => intro R; rw [List.map_cons, List.foldl_cons, List.foldl_cons, jZ, ih]
 exact this L []
/-- the numbers of those that are over, in order -/
def Qu (e : Nat → Int) (n : Nat) (now : Int) : List Nat := (Xr e (List.range n)).filter fun j => decide (e j ≤ now)
theorem Rw.due {kF : Nat → Ky} {e p : Nat → Int} {n : Nat} {I : List It} (h : Rw kF e p n I) (now : Int) : due now I = (Qu e n now).map kF := by
 unfold Go.Proofs.YtejmbmenbailmaaGreat.due upto Qu;rw [h.de, bq, List.filter_map, List.map_map];rfl
theorem xA {e : Nat → Int} {n : Nat} {now : Int} {j : Nat} : j ∈ Qu e n now ↔ j < n ∧ e j ≤ now := by
 unfold Qu;rw [List.mem_filter, (yM (key := e) (List.range n)).mem, List.mem_range];simp
end Go.Proofs.YtejmbmenbailmaaGreat
