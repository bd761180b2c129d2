/- Stores of addresses' sets, plainly: what they take, who goes. -/
import Derived.Test.YtejmbmenbailmaaGreatStA
import Derived.Test.YtejmbmenbailmaaGreatStE
import Derived.Test.YtejmbmenbailmaaGreatStG
import Derived.Test.YtejmbmenbailmaaGreatStH
import Derived.Test.YtejmbmenbailmaaGreatSetA
namespace Go.Proofs.YtejmbmenbailmaaGreat
open Go.Xs
open Enc (enc)
/-- a short name in small letters, not the root's -/
structure Av (n : Bs) : Prop where
 v : vF n = true
 f : zx n = n
 l : 1 ≤ n.length ∧ n.length ≤ 16
 z : n ≠ [0]
def Yb (s : St) : Prop := ∃ n d, Av n ∧ d.length = 4 ∧ s = wT n d
theorem YD : zx [0] = [0] := by decide +kernel
theorem UY {k : Nat} (h : 9 ≤ k ∧ k ≤ 24) : zY k = 32 := by
 unfold zY;rw [if_neg (by omega), if_pos (by omega)]
structure Ht (s : St) : Prop where
 err : wD s = 0
 ok : J4 s
 nms : Z6 s = [s.name, [0]]
 siz : zY (Zn s).toNat = 32
 cst : cost (Zn s) = 32
 key : Z9 s = ⟨s.name, 1⟩
 nm : Av s.name
theorem Yb.q {s : St} (h : Yb s) : Ht s := by
 obtain ⟨n, d, hn, hd, rfl⟩ := h;obtain ⟨h1, h2, h3, h4⟩ := l8 hn.v hd;refine ⟨h1, h4, h3, by rw [h2]; decide, by rw [h2]; decide, ?_, hn⟩;show fk ⟨n, 1⟩ = ⟨n, 1⟩;unfold fk;rw [hn.f]
theorem fU {n : Bs} (h : Av n) (t : Int) : fk ⟨n, t⟩ = ⟨n, t⟩ := by unfold fk; rw [h.f]
theorem Vx {α : Type} {f : α → Nat} {c : Nat} : ∀ {l : List α}, (∀ x ∈ l, f x = c) → (l.map f).sum = c * l.length
 | [], _ => by simp
 | x :: l, h => by
  rw [List.map_cons, List.sum_cons, Vx fun y hy => h y (List.mem_cons_of_mem _ hy), h x (by simp), List.length_cons, Nat.mul_succ]; omega
theorem eD {I : List St} (h : ∀ s ∈ I, Yb s) (n : Bs) : n ∈ eF I ↔ n ∈ I.map (·.name) ∨ (n = [0] ∧ I ≠ []) := by
 rw [Q5, List.mem_map];have e : ∀ s ∈ I, (Z6 s).map zx = [s.name, [0]] := fun s hs => by
  rw [(h s hs).q.nms];simp only [List.map_cons, List.map_nil, (h s hs).q.nm.f, YD]
 constructor
 ·rintro ⟨s, hs, hn⟩;rw [e s hs] at hn;rcases List.mem_cons.1 hn with rfl | hn
  ·exact .inl ⟨s, hs, rfl⟩
  ·exact .inr ⟨List.mem_singleton.1 hn, fun q => by rw [q] at hs; simp at hs⟩
 ·rintro (⟨s, hs, rfl⟩ | ⟨rfl, hne⟩)
  ·exact ⟨s, hs, by rw [e s hs]; simp⟩
  ·obtain ⟨s, hs⟩ := List.exists_mem_of_ne_nil _ hne;exact ⟨s, hs, by rw [e s hs]; simp⟩
theorem iO {I : List St} (h : ∀ s ∈ I, Yb s) (hn : (I.map (·.name)).Nodup) (h0 : I ≠ []) : Vk I = 64 * I.length + 32 := by
 have hd : ([0] :: I.map (·.name)).Nodup := List.nodup_cons.2 ⟨fun hm => by
  obtain ⟨s, hs, e⟩ := List.mem_map.1 hm;exact (h s hs).q.nm.z e, hn⟩
 rw [QF hd fun n => by
  rw [eD h, List.mem_cons];constructor
  ·rintro (rfl | h2)
   ·exact .inr ⟨rfl, h0⟩
   ·exact .inl h2
  ·rintro (h2 | ⟨rfl, _⟩)
   ·exact .inr h2
   ·exact .inl rfl]
 rw [List.map_cons, List.sum_cons, Vx (f := fun n : Bs => zY (8 + n.length)) (c := 32) (l := I.map (·.name)) fun n hn => by
  obtain ⟨s, hs, rfl⟩ := List.mem_map.1 hn;have := (h s hs).q.nm.l;exact UY (by omega), Vx (f := fun s => zY (Zn s).toNat) (c := 32) fun s hs => (h s hs).q.siz, List.length_map]
 show zY 9 + _ + _ = _;rw [UY (by decide)];omega
theorem mV {I : List St} {s : St} (h : ∀ s ∈ I, Yb s) (hs : Yb s) (hn : s.name ∉ I.map (·.name)) : uD I s = if I = [] then 96 else 64 := by
 have q := hs.q;have hl := q.nm.l;have hz := q.nm.z;have e0 : ([0] : Bs) ∈ eF I ↔ I ≠ [] := by
  rw [eD h];constructor
  ·rintro (hm | hm)
   ·obtain ⟨x, hx, e⟩ := List.mem_map.1 hm;exact absurd e (h x hx).q.nm.z
   ·exact hm.2
  ·exact fun hm => .inr ⟨rfl, hm⟩
 have e1 : s.name ∉ eF I := fun hm => by
  rcases (eD h _).1 hm with hm | hm
  ·exact hn hm
  ·exact hz hm.1
 unfold uD;rw [if_pos q.err, q.cst, q.nms];unfold yJ yJ yJ;rw [q.nm.f, YD, if_neg (by simpa using e1), UY (by omega), show zY (8 + ([0] : Bs).length) = 32 from UY (by decide)];by_cases hI : I = []
 ·rw [if_pos hI, if_neg]
  ·rfl
  ·rw [e0];rintro (hm | hm)
   ·exact hz (List.mem_singleton.1 hm).symm
   ·exact hm hI
 ·rw [if_neg hI, if_pos (.inr (e0.2 hI))]; rfl
/-! ### items of such sets -/
structure Fam (I : List It) : Prop where
 a : ∀ i ∈ I, Yb i.s
 k : ∀ i ∈ I, i.k = Z9 i.s
 n : (keys I).Nodup
theorem Fam.key {I : List It} (h : Fam I) {i : It} (hi : i ∈ I) : i.k = ⟨i.s.name, 1⟩ := by rw [h.k i hi, (h.a i hi).q.key]
theorem Fam.sa {I : List It} (h : Fam I) : ∀ s ∈ sets I, Yb s := fun s hs => by
 obtain ⟨i, hi, rfl⟩ := List.mem_map.1 hs;exact h.a i hi
theorem Fam.nms {I : List It} (h : Fam I) : (sets I).map (·.name) = (keys I).map (·.n) := by
 unfold sets keys;rw [List.map_map, List.map_map];refine List.map_congr_left fun i hi => ?_
 show i.s.name = i.k.n;rw [h.key hi]
theorem Fam.Li {I : List It} (h : Fam I) : ((keys I).map (·.n)).Nodup := by
 have : ∀ k ∈ keys I, k.t = 1 := fun k hk => by
  obtain ⟨i, hi, rfl⟩ := List.mem_map.1 hk;rw [h.key hi]
 have hn := h.n;generalize keys I = K at *
 induction K with
 | nil => simp
 | cons k K ih =>
  have h2 := List.nodup_cons.1 hn;rw [List.map_cons];refine List.nodup_cons.2 ⟨fun hm => ?_, ih (fun x hx => this x (List.mem_cons_of_mem _ hx)) h2.2⟩;obtain ⟨x, hx, e⟩ := List.mem_map.1 hm;exact h2.1 (by rw [show k = x from Ky.ext' e.symm (by rw [this k (by simp), this x (List.mem_cons_of_mem _ hx)])]; exact hx)
theorem Fam.used {I : List It} (h : Fam I) (h0 : I ≠ []) : Vk (sets I) = 64 * I.length + 32 := by
 rw [iO h.sa (by rw [h.nms]; exact h.Li) (by unfold sets; simpa using h0)];unfold sets;rw [List.length_map]
theorem Fam.cost {I : List It} (h : Fam I) {s : St} (hs : Yb s) (hb : WC I (Z9 s) = none) : uD (sets I) s = if I = [] then 96 else 64 := by
 rw [mV h.sa hs fun hm => ?_]
 ·unfold sets;cases I <;> rfl
 ·rw [h.nms] at hm;obtain ⟨k, hk, e⟩ := List.mem_map.1 hm;refine Wz.1 hb ?_;obtain ⟨i, hi, rfl⟩ := List.mem_map.1 hk;rw [hs.q.key, ← e, show (⟨i.k.n, 1⟩ : Ky) = i.k from by rw [h.key hi]];exact hk
theorem Fam.left {N : Nat} {S : Ss} (h : Fam S.I) : Ue N S = ((N - (if S.I = [] then 0 else 64 * S.I.length + 32) : Nat) : Int) := by
 unfold Ue;split
 ·next e => rw [e]; rfl
 ·next e => rw [h.used e]
theorem Fam.nil : Fam [] := ⟨fun i hi => by simp at hi, fun i hi => by simp at hi, List.nodup_nil⟩
theorem Fam.out {I : List It} (h : Fam I) (k : Ky) : Fam (vL I k) := ⟨fun i hi => h.a i ((Vd _ _).subset hi), fun i hi => h.k i ((Vd _ _).subset hi), ((Vd I k).map _).nodup h.n⟩
theorem Fam.vS {I : List It} (h : Fam I) (k : Ky) (p : Int) : Fam (vS I k p) := by
 have hq : ∀ i ∈ Go.Proofs.YtejmbmenbailmaaGreat.vS I k p, ∃ j ∈ I, i.s = j.s ∧ i.k = j.k := fun i hi => by
  obtain ⟨j, hj, rfl⟩ := List.mem_map.1 hi;refine ⟨j, hj, ?_⟩;show (if j.k = k then { j with pins := p } else j).s = j.s ∧ (if j.k = k then { j with pins := p } else j).k = j.k;split <;> exact ⟨rfl, rfl⟩
 refine ⟨fun i hi => ?_, fun i hi => ?_, by rw [xG]; exact h.n⟩
 ·obtain ⟨j, hj, e, _⟩ := hq i hi;rw [e]; exact h.a j hj
 ·obtain ⟨j, hj, e1, e2⟩ := hq i hi;rw [e1, e2]; exact h.k j hj
abbrev rT (s : St) (rank now exp : Int) : It := ⟨Z9 s, s, rank, now, exp, 0⟩
def Ya (s : St) (rank now exp : Int) (S : Ss) : Ss := ⟨S.I ++ [rT s rank now exp], S.P ++ [Z9 s], S.Q, S.V⟩
theorem Fam.add {I : List It} (h : Fam I) {s : St} (hs : Yb s) (hb : WC I (Z9 s) = none) (rank now exp : Int) : Fam (I ++ [rT s rank now exp]) := by
 refine ⟨fun i hi => ?_, fun i hi => ?_, ?_⟩
 ·rcases List.mem_append.1 hi with hi | hi
  ·exact h.a i hi
  ·rw [List.mem_singleton.1 hi]; exact hs
 ·rcases List.mem_append.1 hi with hi | hi
  ·exact h.k i hi
  ·rw [List.mem_singleton.1 hi]
 ·unfold keys;rw [List.map_append];refine List.nodup_append.2 ⟨h.n, by simp, fun a ha b hb2 q => ?_⟩;simp at hb2;exact Wz.1 hb (by rw [← hb2, ← q]; exact ha)
theorem kU {N : Nat} {s : St} (hs : Yb s) {rank now exp : Int} (hk : KC rank now exp = true) (S : Ss) : uE N s rank now exp S = Ju N s rank now exp S := by
 unfold uE;rw [if_neg (by rw [hs.q.err]; decide), if_neg (by rw [hk]; decide)]
/-- there is room -/
theorem Fam.room {N : Nat} {S : Ss} (h : Fam S.I) {s : St} (hs : Yb s) (hb : WC S.I (Z9 s) = none) {rank now exp : Int} (hN : 64 * S.I.length + 96 ≤ N) : Uj N (Z9 s) s rank now exp S = (Ya s rank now exp S, 0) := by
 rw [cu]
 ·rfl
 rw [h.left, h.cost hs hb];split
 ·next e => omega
 ·next e => omega
theorem Fam.nP {N : Nat} {S : Ss} (h : Fam S.I) {s : St} (hs : Yb s) (hb : WC S.I (Z9 s) = none) {rank now exp : Int} (hk : KC rank now exp = true) (hN : 64 * S.I.length + 96 ≤ N) : uE N s rank now exp S = (Ya s rank now exp S, 0) := by
 rw [kU hs hk, uX hb, h.room hs hb hN]
/-- there is none: who goes -/
theorem Fam.Bw {N : Nat} {S : Ss} (h : Fam S.I) {s : St} (hs : Yb s) (hb : WC S.I (Z9 s) = none) {rank now exp : Int} (hk : KC rank now exp = true) (h0 : S.I ≠ []) (hN : N < 64 * S.I.length + 96) (hN2 : 64 * S.I.length + 32 ≤ N) {k : Ky} (hn : Ww now S = some k) :
 uE N s rank now exp S = (Ya s rank now exp (KD k S), 0) := by
 obtain ⟨i, hi, _⟩ := Q7 hn;have hol := VH h.n hi;rw [kU hs hk, uX hb, j5 h.n ?_ hn hi]
 ·exact (h.out k).room (S := KD k S) hs (Qp hb) (by show 64 * (vL S.I k).length + 96 ≤ N; omega)
 ·rw [h.left, h.cost hs hb, if_neg h0, if_neg h0]; omega
theorem Fam.Bv {N : Nat} {S : Ss} (h : Fam S.I) {s : St} (hs : Yb s) (hb : WC S.I (Z9 s) = none) {rank now exp : Int} (hk : KC rank now exp = true) (h0 : S.I ≠ []) (hN : N < 64 * S.I.length + 96) (hn : Ww now S = none) :
 uE N s rank now exp S = (S, 4) := by
 rw [kU hs hk, uX hb, cK ?_ hn];rw [h.left, h.cost hs hb, if_neg h0, if_neg h0];omega
theorem free_eq {I : List It} (hn : (keys I).Nodup) {i : It} (hi : i ∈ I) : free I i.k = decide (i.pins = 0) := by
 unfold free;rw [Qq hn hi]
theorem YF {f : Ky → Bool} {a : Ky} : ∀ {l : List Ky}, (∀ x ∈ l, f x = true ↔ x = a) → a ∈ l → l.find? f = some a
 | x :: l, h, ha => by
  rw [List.find?_cons];cases hx : f x with
  | true => rw [(h x (by simp)).1 hx]
  | false =>
   have hne : x ≠ a := fun e => by
    have := (h x (by simp)).2 e;rw [hx] at this; cases this
   rcases List.mem_cons.1 ha with rfl | ha
   ·exact absurd rfl hne
   ·exact YF (fun y hy => h y (List.mem_cons_of_mem _ hy)) ha
end Go.Proofs.YtejmbmenbailmaaGreat