/- StoreFirst, plainly: who goes first. -/
import Derived.Test.YtejmbmenbailmaaGreatFullP
namespace Go.Proofs.YtejmbmenbailmaaGreat
open Go.Xs
open Enc (enc)
/-- n of them are there, none pinned; those that u says were used -/
structure QL (e : Nat → Int) (u : Nat → Bool) (c : Nat) (S : Ss) : Prop where
 rw : Rw Zj e (fun _ => 0) 31 S.I
 p : S.P = ((List.range 31).filter fun j => !u j).map Zj
 q : S.Q.length ≤ c
 pq : (S.P ++ S.Q).Perm (keys S.I)
 v : S.V = []
theorem J8.fst {e : Nat → Int} {S : Ss} (h : J8 e (fun _ => 0) 31 S) : QL e (fun _ => false) 0 S :=
 ⟨h.rw, h.p, by rw [h.q]; exact Nat.le_refl 0, by rw [h.p, h.q, List.append_nil, h.rw.ks], h.v⟩
theorem QL.touch {e : Nat → Int} {u : Nat → Bool} {c k : Nat} {S : Ss} (h : QL e u c S) (hc : c < 4) (hk : k < 31) :
 QL e (fun j => if j = k then true else u j) (c + 1) ⟨S.I, U6 4 (Zj k) S.P S.Q, U5 4 (Zj k) S.P S.Q, S.V⟩ := by
 have hm : Zj k ∈ keys S.I := h.rw.mem.2 ⟨k, hk, rfl⟩;have hm2 : Zj k ∈ S.P ∨ Zj k ∈ S.Q := List.mem_append.1 (h.pq.mem_iff.2 hm);have hnd : (S.P ++ S.Q).Nodup := h.pq.nodup_iff.2 h.rw.fam.n;have hle : (S.Q.erase (Zj k) ++ [Zj k]).length ≤ c + 1 := by
  rw [List.length_append, List.length_singleton];have := (List.erase_sublist (a := Zj k) (l := S.Q)).length_le;have := h.q;omega
 have hno : ¬ ((4 : Int) < ((S.Q.erase (Zj k) ++ [Zj k]).length : Int)) := by omega
 have hA : U6 4 (Zj k) S.P S.Q = S.P.erase (Zj k) := by unfold U6; rw [if_pos hm2, if_neg hno]
 have hB : U5 4 (Zj k) S.P S.Q = S.Q.erase (Zj k) ++ [Zj k] := by unfold U5; rw [if_pos hm2, if_neg hno]
 refine ⟨h.rw, ?_, ?_, (KX hnd hm2).trans h.pq, h.v⟩
 ·show U6 4 (Zj k) S.P S.Q = _;rw [hA, (List.nodup_append.1 hnd).1.erase_eq_filter, h.p, List.filter_map, List.filter_filter];congr 1;refine List.filter_congr fun j hj => ?_
  have hj := List.mem_range.1 hj;show (!(Zj j == Zj k) && !u j) = _;by_cases hjk : j = k
  ·subst hjk;simp
  ·have : Zj j ≠ Zj k := fun q => hjk (Qe hj hk (congrArg Ky.n q))
   rw [if_neg hjk];simp [this]
 ·show (U5 4 (Zj k) S.P S.Q).length ≤ _;rw [hB]; exact hle
/-- the first that is over, or the first that was not used -/
theorem YN {f : Ky → Bool} {l : List Ky} {k : Ky} {l' : List Ky} (h : l = k :: l') (hf : f k = true) : l.find? f = some k := by rw [h, List.find?_cons, hf]
theorem QL.CJ {e : Nat → Int} {u : Nat → Bool} {c k : Nat} {S : Ss} {l : List Nat} (h : QL e u c S) {now : Int} (ho : Qa e 31 now = k :: l) : wX now S = some (Zj k) := by
 have hk : k < 31 := (UQ (e := e) (n := 31) (now := now).1 (by rw [ho]; simp)).1;unfold wX;rw [h.rw.due, ho];exact YN (by rfl) (by rw [h.rw.free hk]; rfl)
theorem QL.CG {e : Nat → Int} {u : Nat → Bool} {c k : Nat} {S : Ss} {l : List Nat} (h : QL e u c S) {now : Int} (ho : Qa e 31 now = []) (hu : ((List.range 31).filter fun j => !u j) = k :: l) : wX now S = some (Zj k) := by
 have hk : k < 31 := by
  have : k ∈ (List.range 31).filter fun j => !u j := by rw [hu]; simp
  exact List.mem_range.1 (List.mem_filter.1 this).1
 unfold wX;rw [h.rw.due, ho, h.p, hu];exact YN (by rfl) (by rw [h.rw.free hk]; rfl)
theorem QL.put {e : Nat → Int} {u : Nat → Bool} {c k : Nat} {S : Ss} (h : QL e u c S) {d : Bs} (hd : d.length = 4) {r now x : Int} (hok : Kc r now x = true) (hn : wX now S = some (Zj k)) :
 uH 2048 (wS [2, 122, 122, 0] d) r now x S = (Yg (wS [2, 122, 122, 0] d) r now x (Yb (Zj k) S), 0) := by
 have hl := h.rw.len;refine h.rw.fam.ow (yB hd) (h.rw.non fun j hj q => fD hj ?_) hok (fun q => by rw [q] at hl; simp at hl) (by omega) (by omega) hn;have := (yB hd).q.key;rw [this] at q;exact congrArg Ky.n q
/-- the least seen so far, and whose it is -/
def wl (e : Nat → Int) (w0 : Nat) : Nat → Int × Nat
 | 0 => (1000, w0)
 | i + 1 => if e i < (wl e w0 i).1 then (e i, i) else wl e w0 i
structure Wl (e : Nat → Int) (w0 i : Nat) (r : Int × Nat) : Prop where
 le : r.1 ≤ 1000
 all : ∀ x, x < i → r.1 ≤ e x
 or : r = (1000, w0) ∨ ∃ x, x < i ∧ r = (e x, x) ∧ e x < 1000 ∧ ∀ y, y < x → e x < e y
theorem nY (e : Nat → Int) (w0 : Nat) : ∀ i, Wl e w0 i (wl e w0 i)
 | 0 => ⟨Int.le_refl _, fun x hx => absurd hx (Nat.not_lt_zero _), .inl rfl⟩
 | i + 1 => by
  have ih := nY e w0 i;unfold wl;split
  ·next h =>
   refine ⟨by have := ih.le; show e i ≤ 1000; omega, fun x hx => ?_, .inr ⟨i, by omega, rfl, by have := ih.le; omega, fun y hy => ?_⟩⟩
   ·show e i ≤ e x;by_cases hxi : x = i
    ·rw [hxi]; exact Int.le_refl _
    ·have := ih.all x (by omega);omega
   ·have := ih.all y hy;omega
  ·next h =>
   refine ⟨ih.le, fun x hx => ?_, ?_⟩
   ·by_cases hxi : x = i
    ·rw [hxi]; omega
    ·exact ih.all x (by omega)
   ·rcases ih.or with h1 | ⟨x, hx, h2, h3, h4⟩
    ·exact .inl h1
    ·exact .inr ⟨x, by omega, h2, h3, h4⟩
theorem y5 {n j : Nat} {f : Nat → Bool} {l : List Nat} (h : (List.range n).filter f = j :: l) : ∀ y, y < j → f y = false := fun y hy => by
 have hj : j ∈ (List.range n).filter f := by rw [h]; simp
 have hjn := List.mem_range.1 (List.mem_filter.1 hj).1;cases hf : f y with
 | false => rfl
 | true =>
  have hy2 : y ∈ (List.range n).filter f := List.mem_filter.2 ⟨List.mem_range.2 (by omega), hf⟩;have hp : ((List.range n).filter f).Pairwise (· < ·) := List.Pairwise.filter _ List.pairwise_lt_range;rw [h] at hy2 hp;rcases List.mem_cons.1 hy2 with h1 | h1
  ·omega
  ·have := (List.pairwise_cons.1 hp).1 y h1;omega
theorem jr {e : Nat → Int} {n j : Nat} {now : Int} {l : List Nat} (h : Qa e n now = j :: l) : j < n ∧ e j ≤ now ∧ (∀ x, x < n → e j ≤ e x) ∧ ∀ y, y < j → e j < e y := by
 have hS := yA (key := e) (List.range n);have hm := UQ (e := e) (n := n) (now := now).1 (by rw [h]; exact List.mem_cons_self : j ∈ Qa e n now);have hF := hS.filter now;have h0 : (Xe e (List.range n)).filter (fun j => decide (e j ≤ now)) = j :: l := h;rw [h0] at hF;have hmin : ∀ x, x < n → e j ≤ e x := fun x hx => by
  by_cases hxn : e x ≤ now
  ·have : x ∈ Qa e n now := UQ.2 ⟨hx, hxn⟩;rw [h] at this;rcases List.mem_cons.1 this with h1 | h1
   ·rw [h1]; exact Int.le_refl _
   ·exact (List.pairwise_cons.1 hF.1).1 x h1
  ·omega
 refine ⟨hm.1, hm.2, hmin, fun y hy => ?_⟩;have hk := hF.2 (e j);simp only [keyed, List.filter_filter] at hk;rw [List.filter_cons, if_pos (by simp)] at hk;have := y5 hk.symm y hy;have h1 := hmin y (by omega);simp at this;by_cases hxy : e y = e j
 ·have := this hxy; omega
 ·omega
/-- whom the law wants -/
theorem lg {e : Nat → Int} (he : ∀ j, j < 31 → e j = 1000 ∨ e j ≤ 100) {w0 : Nat} : (Qa e 31 100 = [] ∧ (wl e w0 31).2 = w0) ∨ ∃ k l, Qa e 31 100 = k :: l ∧ (wl e w0 31).2 = k := by
 have hw := nY e w0 31;cases ho : Qa e 31 100 with
 | nil =>
  refine .inl ⟨rfl, ?_⟩;rcases hw.or with h | ⟨x, hx, h2, h3, _⟩
  ·rw [h]
  ·exfalso;have : x ∈ Qa e 31 100 := UQ.2 ⟨hx, by rcases he x hx with h | h <;> omega⟩;rw [ho] at this;simp at this
 | cons k l =>
  refine .inr ⟨k, l, rfl, ?_⟩;obtain ⟨h1, h2, h3, h4⟩ := jr ho;rcases hw.or with h | ⟨x, hx, g2, g3, g4⟩
  ·exfalso;have := hw.all k h1;rw [h] at this;simp at this;omega
  ·rw [g2];show x = k;have a1 := hw.all k h1;rw [g2] at a1;have a1 : e x ≤ e k := a1;have a2 := h3 x hx;rcases Nat.lt_trichotomy x k with q | q | q
   ·have := h4 x q; omega
   ·exact q
   ·have := g4 k q; omega
end Go.Proofs.YtejmbmenbailmaaGreat