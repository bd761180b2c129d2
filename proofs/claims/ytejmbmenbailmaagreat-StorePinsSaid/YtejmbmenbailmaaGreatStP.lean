/- Stores of addresses' sets, plainly: what they take, who goes. -/
import Derived.Test.YtejmbmenbailmaaGreatStA
import Derived.Test.YtejmbmenbailmaaGreatStE
import Derived.Test.YtejmbmenbailmaaGreatStG
import Derived.Test.YtejmbmenbailmaaGreatStH
import Derived.Test.YtejmbmenbailmaaGreatSetA
namespace Go.Proofs.YtejmbmenbailmaaGreat
open Go.Xs
open Enc (enc)
/-- a short name in small letters, not the root's -/
structure Av (n : Bs) : Prop where
 v : vG n = true
 f : zx n = n
 l : 1 ≤ n.length ∧ n.length ≤ 16
 z : n ≠ [0]
def jS (s : St) : Prop := ∃ n d, Av n ∧ d.length = 4 ∧ s = WV n d
theorem Yx : zx [0] = [0] := by decide +kernel
theorem UY {k : Nat} (h : 9 ≤ k ∧ k ≤ 24) : zY k = 32 := by
 unfold zY;rw [if_neg (by omega), if_pos (by omega)]
structure Gs (s : St) : Prop where
 err : wz s = 0
 ok : jQ s
 nms : Z8 s = [s.name, [0]]
 siz : zY (Zm s).toNat = 32
 cst : cost (Zm s) = 32
 key : Z6 s = ⟨s.name, 1⟩
 nm : Av s.name
theorem jS.q {s : St} (h : jS s) : Gs s := by
 obtain ⟨n, d, hn, hd, rfl⟩ := h;obtain ⟨h1, h2, h3, h4⟩ := iQ hn.v hd;refine ⟨h1, h4, h3, by rw [h2]; decide, by rw [h2]; decide, ?_, hn⟩;show fk ⟨n, 1⟩ = ⟨n, 1⟩;unfold fk;rw [hn.f]
theorem nN {n : Bs} (h : Av n) (t : Int) : fk ⟨n, t⟩ = ⟨n, t⟩ := by unfold fk; rw [h.f]
theorem Vp {α : Type} {f : α → Nat} {c : Nat} : ∀ {l : List α}, (∀ x ∈ l, f x = c) → (l.map f).sum = c * l.length
 | [], _ => by simp
 | x :: l, h => by
  rw [List.map_cons, List.sum_cons, Vp fun y hy => h y (List.mem_cons_of_mem _ hy), h x (by simp), List.length_cons, Nat.mul_succ]; omega
theorem dS {I : List St} (h : ∀ s ∈ I, jS s) (n : Bs) : n ∈ dU I ↔ n ∈ I.map (·.name) ∨ (n = [0] ∧ I ≠ []) := by
 rw [qX, List.mem_map];have e : ∀ s ∈ I, (Z8 s).map zx = [s.name, [0]] := fun s hs => by
  rw [(h s hs).q.nms];simp only [List.map_cons, List.map_nil, (h s hs).q.nm.f, Yx]
 constructor
 ·rintro ⟨s, hs, hn⟩;rw [e s hs] at hn;rcases List.mem_cons.1 hn with rfl | hn
  ·exact .inl ⟨s, hs, rfl⟩
  ·exact .inr ⟨List.mem_singleton.1 hn, fun q => by rw [q] at hs; simp at hs⟩
 ·rintro (⟨s, hs, rfl⟩ | ⟨rfl, hne⟩)
  ·exact ⟨s, hs, by rw [e s hs]; simp⟩
  ·obtain ⟨s, hs⟩ := List.exists_mem_of_ne_nil _ hne;exact ⟨s, hs, by rw [e s hs]; simp⟩
theorem iA {I : List St} (h : ∀ s ∈ I, jS s) (hn : (I.map (·.name)).Nodup) (h0 : I ≠ []) : U6 I = 64 * I.length + 32 := by
 have hd : ([0] :: I.map (·.name)).Nodup := List.nodup_cons.2 ⟨fun hm => by
  obtain ⟨s, hs, e⟩ := List.mem_map.1 hm;exact (h s hs).q.nm.z e, hn⟩
 rw [Qy hd fun n => by
  rw [dS h, List.mem_cons];constructor
  ·rintro (rfl | h2)
   ·exact .inr ⟨rfl, h0⟩
   ·exact .inl h2
  ·rintro (h2 | ⟨rfl, _⟩)
   ·exact .inr h2
   ·exact .inl rfl]
 rw [List.map_cons, List.sum_cons, Vp (f := fun n : Bs => zY (8 + n.length)) (c := 32) (l := I.map (·.name)) fun n hn => by
  obtain ⟨s, hs, rfl⟩ := List.mem_map.1 hn;have := (h s hs).q.nm.l;exact UY (by omega), Vp (f := fun s => zY (Zm s).toNat) (c := 32) fun s hs => (h s hs).q.siz, List.length_map]
 show zY 9 + _ + _ = _;rw [UY (by decide)];omega
theorem mh {I : List St} {s : St} (h : ∀ s ∈ I, jS s) (hs : jS s) (hn : s.name ∉ I.map (·.name)) : uo I s = if I = [] then 96 else 64 := by
 have q := hs.q;have hl := q.nm.l;have hz := q.nm.z;have e0 : ([0] : Bs) ∈ dU I ↔ I ≠ [] := by
  rw [dS h];constructor
  ·rintro (hm | hm)
   ·obtain ⟨x, hx, e⟩ := List.mem_map.1 hm;exact absurd e (h x hx).q.nm.z
   ·exact hm.2
  ·exact fun hm => .inr ⟨rfl, hm⟩
 have e1 : s.name ∉ dU I := fun hm => by
  rcases (dS h _).1 hm with hm | hm
  ·exact hn hm
  ·exact hz hm.1
 unfold uo;rw [if_pos q.err, q.cst, q.nms];unfold yE yE yE;rw [q.nm.f, Yx, if_neg (by simpa using e1), UY (by omega), show zY (8 + ([0] : Bs).length) = 32 from UY (by decide)];by_cases hI : I = []
 ·rw [if_pos hI, if_neg]
  ·rfl
  ·rw [e0];rintro (hm | hm)
   ·exact hz (List.mem_singleton.1 hm).symm
   ·exact hm hI
 ·rw [if_neg hI, if_pos (.inr (e0.2 hI))]; rfl
/-! ### items of such sets -/
structure Fam (I : List It) : Prop where
 a : ∀ i ∈ I, jS i.s
 k : ∀ i ∈ I, i.k = Z6 i.s
 n : (keys I).Nodup
theorem Fam.key {I : List It} (h : Fam I) {i : It} (hi : i ∈ I) : i.k = ⟨i.s.name, 1⟩ := by rw [h.k i hi, (h.a i hi).q.key]
theorem Fam.sa {I : List It} (h : Fam I) : ∀ s ∈ sets I, jS s := fun s hs => by
 obtain ⟨i, hi, rfl⟩ := List.mem_map.1 hs;exact h.a i hi
theorem Fam.nms {I : List It} (h : Fam I) : (sets I).map (·.name) = (keys I).map (·.n) := by
 unfold sets keys;rw [List.map_map, List.map_map];refine List.map_congr_left fun i hi => ?_
 show i.s.name = i.k.n;rw [h.key hi]
theorem Fam.Iq {I : List It} (h : Fam I) : ((keys I).map (·.n)).Nodup := by
 have : ∀ k ∈ keys I, k.t = 1 := fun k hk => by
  obtain ⟨i, hi, rfl⟩ := List.mem_map.1 hk;rw [h.key hi]
 have hn := h.n;generalize keys I = K at *
 induction K with
 | nil => simp
 | cons k K ih =>
  have h2 := List.nodup_cons.1 hn;rw [List.map_cons];refine List.nodup_cons.2 ⟨fun hm => ?_, ih (fun x hx => this x (List.mem_cons_of_mem _ hx)) h2.2⟩;obtain ⟨x, hx, e⟩ := List.mem_map.1 hm;exact h2.1 (by rw [show k = x from Ky.ext' e.symm (by rw [this k (by simp), this x (List.mem_cons_of_mem _ hx)])]; exact hx)
theorem Fam.used {I : List It} (h : Fam I) (h0 : I ≠ []) : U6 (sets I) = 64 * I.length + 32 := by
 rw [iA h.sa (by rw [h.nms]; exact h.Iq) (by unfold sets; simpa using h0)];unfold sets;rw [List.length_map]
theorem Fam.cost {I : List It} (h : Fam I) {s : St} (hs : jS s) (hb : WM I (Z6 s) = none) : uo (sets I) s = if I = [] then 96 else 64 := by
 rw [mh h.sa hs fun hm => ?_]
 ·unfold sets;cases I <;> rfl
 ·rw [h.nms] at hm;obtain ⟨k, hk, e⟩ := List.mem_map.1 hm;refine vB.1 hb ?_;obtain ⟨i, hi, rfl⟩ := List.mem_map.1 hk;rw [hs.q.key, ← e, show (⟨i.k.n, 1⟩ : Ky) = i.k from by rw [h.key hi]];exact hk
theorem Fam.left {N : Nat} {S : Ss} (h : Fam S.I) : UO N S = ((N - (if S.I = [] then 0 else 64 * S.I.length + 32) : Nat) : Int) := by
 unfold UO;split
 ·next e => rw [e]; rfl
 ·next e => rw [h.used e]
theorem Fam.nil : Fam [] := ⟨fun i hi => by simp at hi, fun i hi => by simp at hi, List.nodup_nil⟩
theorem Fam.out {I : List It} (h : Fam I) (k : Ky) : Fam (vJ I k) := ⟨fun i hi => h.a i ((V3 _ _).subset hi), fun i hi => h.k i ((V3 _ _).subset hi), ((V3 I k).map _).nodup h.n⟩
theorem Fam.VO {I : List It} (h : Fam I) (k : Ky) (p : Int) : Fam (VO I k p) := by
 have hq : ∀ i ∈ Go.Proofs.YtejmbmenbailmaaGreat.VO I k p, ∃ j ∈ I, i.s = j.s ∧ i.k = j.k := fun i hi => by
  obtain ⟨j, hj, rfl⟩ := List.mem_map.1 hi;refine ⟨j, hj, ?_⟩;show (if j.k = k then { j with pins := p } else j).s = j.s ∧ (if j.k = k then { j with pins := p } else j).k = j.k;split <;> exact ⟨rfl, rfl⟩
 refine ⟨fun i hi => ?_, fun i hi => ?_, by rw [xG]; exact h.n⟩
 ·obtain ⟨j, hj, e, _⟩ := hq i hi;rw [e]; exact h.a j hj
 ·obtain ⟨j, hj, e1, e2⟩ := hq i hi;rw [e1, e2]; exact h.k j hj
abbrev BG (s : St) (rank now exp : Int) : It := ⟨Z6 s, s, rank, now, exp, 0⟩
def Ea (s : St) (rank now exp : Int) (S : Ss) : Ss := ⟨S.I ++ [BG s rank now exp], S.P ++ [Z6 s], S.Q, S.V⟩
theorem Fam.add {I : List It} (h : Fam I) {s : St} (hs : jS s) (hb : WM I (Z6 s) = none) (rank now exp : Int) : Fam (I ++ [BG s rank now exp]) := by
 refine ⟨fun i hi => ?_, fun i hi => ?_, ?_⟩
 ·rcases List.mem_append.1 hi with hi | hi
  ·exact h.a i hi
  ·rw [List.mem_singleton.1 hi]; exact hs
 ·rcases List.mem_append.1 hi with hi | hi
  ·exact h.k i hi
  ·rw [List.mem_singleton.1 hi]
 ·unfold keys;rw [List.map_append];refine List.nodup_append.2 ⟨h.n, by simp, fun a ha b hb2 q => ?_⟩;simp at hb2;exact vB.1 hb (by rw [← hb2, ← q]; exact ha)
theorem Jj {N : Nat} {s : St} (hs : jS s) {rank now exp : Int} (hk : qW rank now exp = true) (S : Ss) : UD N s rank now exp S = Jk N s rank now exp S := by
 unfold UD;rw [if_neg (by rw [hs.q.err]; decide), if_neg (by rw [hk]; decide)]
/-- there is room -/
theorem Fam.room {N : Nat} {S : Ss} (h : Fam S.I) {s : St} (hs : jS s) (hb : WM S.I (Z6 s) = none) {rank now exp : Int} (hN : 64 * S.I.length + 96 ≤ N) : Ue N (Z6 s) s rank now exp S = (Ea s rank now exp S, 0) := by
 rw [bT]
 ·rfl
 rw [h.left, h.cost hs hb];split
 ·next e => omega
 ·next e => omega
theorem Fam.AU {N : Nat} {S : Ss} (h : Fam S.I) {s : St} (hs : jS s) (hb : WM S.I (Z6 s) = none) {rank now exp : Int} (hk : qW rank now exp = true) (hN : 64 * S.I.length + 96 ≤ N) : UD N s rank now exp S = (Ea s rank now exp S, 0) := by
 rw [Jj hs hk, Yo hb, h.room hs hb hN]
end Go.Proofs.YtejmbmenbailmaaGreat