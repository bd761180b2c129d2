/- StoreHolds, plainly. -/
import Derived.Test.YtejmbmenbailmaaGreatC2
namespace Go.Proofs.YtejmbmenbailmaaGreat
open Go.Xs
open Enc (enc)
/-- the name of a number below 60 -/
def UM (i : Nat) : Bs := [3, 97, U0 (97 + (i : Int).tdiv 8), U0 (97 + (i : Int).tmod 8), 0]
def wD (i : Nat) : Ky := ⟨UM i, 1⟩
theorem gP {i : Nat} (h : i < 60) : Av (UM i) := by
 have : ∀ i, i < 60 → vG (UM i) = true ∧ zA (UM i) = UM i := by decide +kernel
 obtain ⟨h1, h2⟩ := this i h;exact ⟨h1, h2, by show 1 ≤ 5 ∧ 5 ≤ 16; decide, by unfold UM; simp⟩
theorem nQ {i j : Nat} (hi : i < 60) (hj : j < 60) (h : UM i = UM j) : i = j := by
 have : ∀ i, i < 60 → ∀ j, j < 60 → UM i = UM j → i = j := by decide +kernel
 exact this i hi j hj h
theorem xH {i j : Nat} (hi : i < 60) (hj : j < 60) (h : wD i = wD j) : i = j := nQ hi hj (congrArg Ky.n h)
theorem YV {i : Nat} (h : i < 60) {d : Bs} (hd : d.length = 4) : Yo (ZV (UM i) d) := ⟨_, d, gP h, hd, rfl⟩
theorem ru {i : Nat} (h : i < 60) {d : Bs} (hd : d.length = 4) : Z8 (ZV (UM i) d) = wD i := (YV h hd).q.key
theorem iP {i : Nat} (h : i < 60) : fk (wD i) = wD i := QO (gP h) 1
structure Yp (h : Nat → Bool) (n : Nat) (S : Ss) : Prop where
 fam : Fam S.I
 ks : ∀ k ∈ keys S.I, ∃ j, j < n ∧ k = wD j
 pn : ∀ x ∈ S.I, ∀ j, j < n → x.k = wD j → x.pins = if h j = true then 1 else 0
 hl : ∀ j, j < n → h j = true → wD j ∈ keys S.I
 v : ∀ k ∈ S.V, wG S.I k = none ∧ ∃ j, j < n ∧ k = wD j
 vl : S.V.length ≤ 1
theorem Yp.nil (h : Nat → Bool) : Yp h 0 aV := ⟨Fam.nil, fun k hk => by simp [keys] at hk, fun x hx => by simp at hx, fun j hj => absurd hj (Nat.not_lt_zero _), fun k hk => by simp at hk, Nat.zero_le _⟩
theorem mem_keys {I : List It} {i : It} (h : i ∈ I) : i.k ∈ keys I := List.mem_map.2 ⟨i, h, rfl⟩
theorem xO {I : List It} {k : Ky} : k ∈ keys I ↔ (wG I k).isSome = true := by
 cases hb : wG I k with
 | none => simpa using ZJ.1 hb
 | some i =>
  obtain ⟨hi, rfl⟩ := u7 hb;simpa using mem_keys hi
/-- one more put in, when there is room -/
theorem Yp.add {h : Nat → Bool} {n : Nat} {S : Ss} (q : Yp h n S) (hn : n < 60) (hh : h n = false) {d : Bs} (hd : d.length = 4) (r now x : Int) : Yp h (n + 1) (xR (ZV (UM n) d) r now x S) ∧ (wG (xR (ZV (UM n) d) r now x S).I (wD n)).isSome = true := by
 have hK := ru hn hd;have hne : ∀ j, j < n → wD j ≠ wD n := fun j hj e => by have := xH (by omega) hn e; omega
 have hb : wG S.I (Z8 (ZV (UM n) d)) = none := by
  rw [hK, ZJ];intro hm;obtain ⟨j, hj, e⟩ := q.ks _ hm;exact hne j hj e.symm
 have hks : keys (xR (ZV (UM n) d) r now x S).I = keys S.I ++ [wD n] := by
  show keys (S.I ++ [_]) = _;unfold keys;rw [List.map_append, ← hK]; rfl
 have hmn : wD n ∈ keys (xR (ZV (UM n) d) r now x S).I := by rw [hks]; simp
 refine ⟨⟨q.fam.add (YV hn hd) hb r now x, fun k hk => ?_, fun y hy j hj hij => ?_, fun j hj hhj => ?_, fun k hk => ?_, q.vl⟩, xO.1 hmn⟩
 ·rw [hks] at hk;rcases List.mem_append.1 hk with hk | hk
  ·obtain ⟨j, hj, e⟩ := q.ks k hk;exact ⟨j, by omega, e⟩
  ·exact ⟨n, by omega, List.mem_singleton.1 hk⟩
 ·rcases List.mem_append.1 hy with hy | hy
  ·by_cases hjn : j = n
   ·obtain ⟨a, ha, e⟩ := q.ks _ (mem_keys hy);exact absurd (e.symm.trans (hij.trans (by rw [hjn]))) (hne a ha)
   ·exact q.pn y hy j (by omega) hij
  ·rw [List.mem_singleton.1 hy] at hij ⊢;by_cases hjn : j = n
   ·rw [hjn, hh]; rfl
   ·exact absurd (hij.symm.trans hK) (hne j (by omega))
 ·rw [hks];by_cases hjn : j = n
  ·rw [hjn, hh] at hhj; cases hhj
  ·exact List.mem_append.2 (.inl (q.hl j (by omega) hhj))
 ·obtain ⟨h1, j, hj, rfl⟩ := q.v k hk;refine ⟨?_, j, by omega, rfl⟩;rw [ZJ, hks];intro hm;rcases List.mem_append.1 hm with hm | hm
  ·exact ZJ.1 h1 hm
  ·exact hne j hj (List.mem_singleton.1 hm)
/-- one goes that is not held -/
theorem Yp.ev {h : Nat → Bool} {n : Nat} {S : Ss} (q : Yp h n S) (hn : n ≤ 60) (hV : S.V = []) {now : Int} {k : Ky} (hk : wN now S = some k) : Yp h n (Xb k S) := by
 obtain ⟨i, hi, hp⟩ := KD hk;obtain ⟨him, rfl⟩ := u7 hi;obtain ⟨a, ha, hka⟩ := q.ks _ (mem_keys him);have hpa := q.pn i him a ha hka;refine ⟨q.fam.out _, fun x hx => ?_, fun y hy j hj hij => q.pn y ((WC _ _).subset hy) j hj hij, fun j hj hhj => ?_, fun x hx => ?_, ?_⟩
 ·rw [show (Xb i.k S).I = Wx S.I i.k from rfl, Vf, List.mem_filter] at hx;exact q.ks x hx.1
 ·rw [show (Xb i.k S).I = Wx S.I i.k from rfl, Vf, List.mem_filter];refine ⟨q.hl j hj hhj, ?_⟩;have : wD j ≠ i.k := fun e => by
   have := xH (by omega) (by omega) (e.trans hka);rw [this] at hhj;rw [if_pos hhj] at hpa;omega
  simpa using this
 ·rw [show (Xb i.k S).V = S.V ++ [i.k] from rfl, hV, List.nil_append, List.mem_singleton] at hx;rw [hx];exact ⟨Jg _ _, a, ha, hka⟩
 ·rw [show (Xb i.k S).V = S.V ++ [i.k] from rfl, hV]; exact Nat.le_refl 1
/-- Put -/
theorem Yp.put {h : Nat → Bool} {n : Nat} {S : Ss} (q : Yp h n S) (hn : n < 60) (hh : h n = false) (hV : S.V = []) (hu : Vl (sets S.I) ≤ 2048) {d : Bs} (hd : d.length = 4) {x : Int} (hx : 1 ≤ x ∧ x ≤ 1000) {R : Ss × Int} (hR : VO 2048 (ZV (UM n) d) 4 0 x S = R) :
 (R.2 = 0 ∨ R.2 = 4) ∧ ((wG R.1.I (wD n)).isSome = decide (R.2 = 0)) ∧ Yp h (n + 1) R.1 := by
 subst hR;have hok : Yu 4 0 x = true := (Qx _ _ _).2 (by omega);have hne : ∀ j, j < n → wD j ≠ wD n := fun j hj e => by have := xH (by omega) hn e; omega
 have hb0 : wG S.I (wD n) = none := by
  rw [ZJ];intro hm;obtain ⟨j, hj, e⟩ := q.ks _ hm;exact hne j hj e.symm
 have hb : wG S.I (Z8 (ZV (UM n) d)) = none := by rw [ru hn hd]; exact hb0
 by_cases hl : 64 * S.I.length + 96 ≤ 2048
 ·rw [q.fam.fA (YV hn hd) hb hok hl];obtain ⟨h1, h2⟩ := q.add hn hh hd 4 0 x;exact ⟨.inl rfl, h2, h1⟩
 ·have h0 : S.I ≠ [] := fun e => by rw [e] at hl; exact hl (by decide)
  cases hk : wN 0 S with
  | none =>
   rw [q.fam.Cn (YV hn hd) hb hok h0 (by omega) hk];refine ⟨.inr rfl, ?_, q.fam, fun k hk => ?_, fun y hy j hj hij => ?_, fun j hj hhj => ?_, fun k hk => ?_, q.vl⟩
   ·rw [hb0]; rfl
   ·obtain ⟨j, hj, e⟩ := q.ks k hk;exact ⟨j, by omega, e⟩
   ·by_cases hjn : j = n
    ·obtain ⟨a, ha, e⟩ := q.ks _ (mem_keys hy);exact absurd (e.symm.trans (hij.trans (by rw [hjn]))) (hne a ha)
    ·exact q.pn y hy j (by omega) hij
   ·by_cases hjn : j = n
    ·rw [hjn, hh] at hhj; cases hhj
    ·exact q.hl j (by omega) hhj
   ·rw [hV] at hk; simp at hk
  | some k =>
   rw [q.fam.used h0] at hu;rw [q.fam.fB (YV hn hd) hb hok h0 (by omega) hu hk];obtain ⟨h1, h2⟩ := (q.ev (by omega) hV hk).add hn hh hd 4 0 x;exact ⟨.inl rfl, h2, h1⟩
/-- held from now on -/
theorem Yp.pin {h : Nat → Bool} {n : Nat} {S : Ss} (q : Yp h (n + 1) S) (hn : n < 60) (hh : h n = false) (hi : (wG S.I (wD n)).isSome = true) : (V3 (wD n) 1 S).2 = 0 ∧ (V3 (wD n) 1 S).1.V = S.V ∧ Yp (fun j => if j = n then true else h j) (n + 1) (V3 (wD n) 1 S).1 ∧ (wG (V3 (wD n) 1 S).1.I (wD n)).isSome = true := by
 obtain ⟨i, hb⟩ := Option.isSome_iff_exists.1 hi;obtain ⟨him, hik⟩ := u7 hb;have hp := q.pn i him n (by omega) hik;rw [hh, if_neg (by decide)] at hp;have e : V3 (wD n) 1 S = (⟨WS S.I (wD n) 1, S.P, S.Q, S.V⟩, 0) := by
  unfold V3;rw [iP hn, hb];show (if j5 (i.pins + 1) 1000 = false then _ else _) = _;rw [hp];rfl
 rw [e];have hkk : ∀ k, k ∈ keys (WS S.I (wD n) 1) ↔ k ∈ keys S.I := fun k => by rw [U8]
 refine ⟨rfl, rfl, ⟨q.fam.WS _ _, fun k hk => q.ks k ((hkk k).1 hk), fun y hy j hj hij => ?_, fun j hj hhj => ?_, fun k hk => ?_, q.vl⟩, xO.1 ((hkk _).2 (xO.2 hi))⟩
 ·obtain ⟨z, hz, rfl⟩ := List.mem_map.1 hy;show (if z.k = wD n then { z with pins := 1 } else z).pins = if (if j = n then true else h j) = true then 1 else 0
  have hij : (if z.k = wD n then { z with pins := 1 } else z).k = wD j := hij;by_cases hz2 : z.k = wD n
  ·rw [if_pos hz2] at hij ⊢;have : j = n := xH (by omega) hn (hij.symm.trans hz2);rw [if_pos this]; rfl
  ·rw [if_neg hz2] at hij ⊢;have hjn : ¬ j = n := fun e => hz2 (by rw [hij, e])
   have e2 : (if j = n then true else h j) = h j := if_neg hjn;rw [e2];exact q.pn z hz j hj hij
 ·refine (hkk _).2 ?_;by_cases hjn : j = n
  ·rw [hjn]; exact xO.2 hi
  ·exact q.hl j hj (by rw [if_neg hjn] at hhj; exact hhj)
 ·obtain ⟨h1, h2⟩ := q.v k hk;exact ⟨by rw [ZJ, hkk, ← ZJ]; exact h1, h2⟩
/-- those that are held are there, pinned once -/
theorem Yp.get {h : Nat → Bool} {n j : Nat} {S : Ss} (q : Yp h n S) (hj : j < n) (hh : h j = true) : ∃ i, wG S.I (wD j) = some i ∧ i.pins = 1 := by
 obtain ⟨i, hb⟩ := Option.isSome_iff_exists.1 (xO.1 (q.hl j hj hh));obtain ⟨him, hik⟩ := u7 hb;have := q.pn i him j hj hik;rw [if_pos hh] at this;exact ⟨i, hb, this⟩
theorem Yp.told {h : Nat → Bool} {n : Nat} {S : Ss} (q : Yp h n S) : Yp h n ⟨S.I, S.P, S.Q, []⟩ := ⟨q.fam, q.ks, q.pn, q.hl, fun k hk => by simp at hk, Nat.zero_le _⟩
end Go.Proofs.YtejmbmenbailmaaGreat