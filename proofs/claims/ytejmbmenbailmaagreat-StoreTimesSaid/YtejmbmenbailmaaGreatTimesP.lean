/- StoreTimes, plainly: who goes when all goes that is over. -/
import Derived.Test.YtejmbmenbailmaaGreatC2
namespace Go.Proofs.YtejmbmenbailmaaGreat
open Go.Xs
open Enc (enc)
theorem gL {I : List It} {k x : Ky} (h : x ≠ k) : free (WS I k) x = free I x := by
 have : Wo (WS I k) x = Wo I x := by
  unfold Wo WS
  induction I with
  | nil => rfl
  | cons e I ih =>
   rw [List.filter_cons, List.find?_cons];by_cases hk : e.k = k
   ·rw [if_neg (by simp [hk]), ih, decide_eq_false (show ¬ e.k = x from fun q => h (q.symm.trans hk))]
   ·rw [if_pos (by simp [hk]), List.find?_cons, ih]
 unfold free;rw [this]
theorem kR : ∀ (K : List Ky) (S : Ss) (c : Nat), K.Nodup → (keys S.I).Nodup →
 (K.foldl swp (S, c)).1.V = S.V ++ K.filter (free S.I) ∧ (K.foldl swp (S, c)).2 = c + (K.filter (free S.I)).length ∧ (K.foldl swp (S, c)).1.I.length + (K.filter (free S.I)).length = S.I.length
 | [], S, c, _, _ => by simp
 | k :: K, S, c, hk, hn => by
  obtain ⟨h1, h2⟩ := List.nodup_cons.1 hk;rw [List.foldl_cons];by_cases hf : free S.I k = true
  ·have e0 : swp (S, c) k = (Jf k S, c + 1) := by unfold swp; rw [if_pos hf]
   rw [e0, List.filter_cons, if_pos hf];obtain ⟨i, hb, _⟩ := Qt hf;have hl := uP hn hb;obtain ⟨a1, a2, a3⟩ := kR K (Jf k S) (c + 1) h2 (((vE S.I k).map _).nodup hn);have e : K.filter (free (Jf k S).I) = K.filter (free S.I) := List.filter_congr fun x hx => gL fun q => h1 (q ▸ hx)
   have el : (Jf k S).I.length = (WS S.I k).length := rfl;rw [e] at a1 a2 a3;rw [el] at a3;refine ⟨a1.trans ?_, a2.trans ?_, ?_⟩
   ·show (S.V ++ [k]) ++ _ = _;rw [List.append_assoc]; rfl
   ·rw [List.length_cons]; omega
   ·rw [List.length_cons]; omega
  ·have e0 : swp (S, c) k = (S, c) := by unfold swp; rw [if_neg hf]
   rw [e0, List.filter_cons, if_neg hf];exact kR K S c h2 hn
/-- those that go, by their numbers -/
def oL (e p : Nat → Int) (n : Nat) (now : Int) : List Nat := (Aj e n now).filter fun j => decide (p j = 0)
theorem Rw.swp {kF : Nat → Ky} {e p : Nat → Int} {n : Nat} {S : Ss} (h : Rw kF e p n S.I) (now : Int) :
 (Xm now S).1.V = S.V ++ (oL e p n now).map kF ∧ (Xm now S).2 = (oL e p n now).length ∧ (Xm now S).1.I.length + (oL e p n now).length = n := by
 obtain ⟨h1, h2, h3⟩ := kR (Go.Proofs.YtejmbmenbailmaaGreat.due now S.I) S 0 (xW h.fam.n) h.fam.n;have hf : (Go.Proofs.YtejmbmenbailmaaGreat.due now S.I).filter (Go.Proofs.YtejmbmenbailmaaGreat.free S.I) = (oL e p n now).map kF := by
  rw [h.due, List.filter_map];unfold oL;congr 1;refine List.filter_congr fun j hj => ?_
  show Go.Proofs.YtejmbmenbailmaaGreat.free S.I (kF j) = _;exact h.free (mJ.1 hj).1
 rw [hf, List.length_map] at h2 h3;rw [hf] at h1;rw [h.len] at h3;exact ⟨h1, by rw [Nat.zero_add] at h2; exact h2, h3⟩
/-- by their times one behind the other -/
def KL (e p : Nat → Int) (n : Nat) : Nat → List Nat
 | 0 => []
 | m + 1 => KL e p n m ++ (List.range n).filter fun j => decide (e j = ((m + 1 : Nat) : Int)) && decide (p j = 0)
theorem qH {e p : Nat → Int} {n : Nat} : ∀ {m j : Nat}, j ∈ KL e p n m → e j ≤ (m : Int)
 | m + 1, j, h => by
  rcases List.mem_append.1 h with h | h
  ·have := qH h; omega
  ·have := (List.mem_filter.1 h).2;simp at this;omega
theorem bU {e p : Nat → Int} {n : Nat} (h1 : ∀ j, j < n → 1 ≤ e j) : ∀ m : Nat, SS e ((List.range n).filter fun j => decide (e j ≤ (m : Int)) && decide (p j = 0)) (KL e p n m)
 | 0 => by
  have : ((List.range n).filter fun j => decide (e j ≤ ((0 : Nat) : Int)) && decide (p j = 0)) = [] := by
   rw [List.filter_eq_nil_iff];intro j hj;have := h1 j (List.mem_range.1 hj);simp;intro h; omega
  rw [this];exact ⟨List.Pairwise.nil, fun k => rfl⟩
 | m + 1 => by
  obtain ⟨ih1, ih2⟩ := bU h1 m;refine ⟨List.pairwise_append.2 ⟨ih1, ?_, fun a ha b hb => ?_⟩, fun k => ?_⟩
  ·refine List.Pairwise.filter _ ?_ |>.imp_of_mem ?_ (R := fun _ _ => True)
   ·exact List.pairwise_of_forall fun _ _ => trivial
   ·intro a b ha hb _;have a1 := (List.mem_filter.1 ha).2;have b1 := (List.mem_filter.1 hb).2;simp at a1 b1;omega
  ·have := qH ha;have b1 := (List.mem_filter.1 hb).2;simp at b1;omega
  ·have ih := ih2 k;simp only [keyed, List.filter_filter] at ih ⊢;rw [KL, List.filter_append, ih, List.filter_filter];by_cases hk : k = ((m + 1 : Nat) : Int)
   ·have e1 : (List.range n).filter (fun a => e a == k && (decide (e a ≤ (m : Int)) && decide (p a = 0))) = [] := by
     rw [List.filter_eq_nil_iff];intro j _;simp;intro h h2; omega
    rw [e1, List.nil_append];refine List.filter_congr fun j _ => ?_
    rw [Bool.eq_iff_iff];simp;intro h _;omega
   ·have e2 : (List.range n).filter (fun a => e a == k && (decide (e a = ((m + 1 : Nat) : Int)) && decide (p a = 0))) = [] := by
     rw [List.filter_eq_nil_iff];intro j _;simp;intro h h2; omega
    rw [e2, List.append_nil];refine List.filter_congr fun j _ => ?_
    rw [Bool.eq_iff_iff];simp;intro h _;omega
theorem lg {e p : Nat → Int} {n : Nat} (h1 : ∀ j, j < n → 1 ≤ e j ∧ e j ≤ 30) {t : Int} {m : Nat} (hm : (m : Int) = min t 30) : KL e p n m = oL e p n t := by
 refine (bU (p := p) (fun j hj => (h1 j hj).1) m).unique ?_;have hS := (yx (key := e) (List.range n)).filter t;have e1 : ((List.range n).filter fun j => decide (e j ≤ (m : Int)) && decide (p j = 0)) = ((List.range n).filter fun j => decide (e j ≤ t)).filter fun j => decide (p j = 0) := by
  rw [List.filter_filter];refine List.filter_congr fun j hj => ?_
  have := h1 j (List.mem_range.1 hj);rw [Bool.eq_iff_iff];simp;constructor
  ·rintro ⟨h2, h3⟩; exact ⟨h3, by omega⟩
  ·rintro ⟨h2, h3⟩; exact ⟨by omega, h2⟩
 rw [e1];refine ⟨hS.1.filter _, fun k => ?_⟩;have := congrArg (List.filter fun j => decide (p j = 0)) (hS.2 k);simp only [keyed, List.filter_filter] at this ⊢;unfold oL Aj;simp only [List.filter_filter];simpa [Bool.and_comm, Bool.and_assoc, Bool.and_left_comm] using this
/-! ### the names -/
def Xg (i : Nat) : Bs := [2, 113, Xt (97 + (i : Int)), 0]
def wL (i : Nat) : Ky := ⟨Xg i, 1⟩
/-- .. in other letters -/
def bW (i : Nat) : Bs := [2, 81, Xt (97 + (i : Int)), 0]
theorem fD {i : Nat} (h : i < 15) : Av (Xg i) := by
 have : ∀ i, i < 15 → vL (Xg i) = true ∧ zx (Xg i) = Xg i := by decide +kernel
 obtain ⟨h1, h2⟩ := this i h;exact ⟨h1, h2, by show 1 ≤ 4 ∧ 4 ≤ 16; decide, by unfold Xg; simp⟩
theorem mP {i j : Nat} (hi : i < 15) (hj : j < 15) (h : Xg i = Xg j) : i = j := by
 have : ∀ i, i < 15 → ∀ j, j < 15 → Xg i = Xg j → i = j := by decide +kernel
 exact this i hi j hj h
theorem bV {i : Nat} (h : i < 15) : zx (bW i) = Xg i := by
 have : ∀ i, i < 15 → zx (bW i) = Xg i := by decide +kernel
 exact this i h
theorem Ij {i : Nat} (h : i < 15) : fk (wL i) = wL i := gQ (fD h) 1
theorem oP {i : Nat} (h : i < 15) : fk ⟨bW i, 1⟩ = wL i := by unfold fk wL; rw [bV h]
theorem Qq {i : Nat} (h : i < 15) {d : Bs} (hd : d.length = 4) : KO (WO (Xg i) d) := ⟨_, d, fD h, hd, rfl⟩
theorem oK {i : Nat} (h : i < 15) {d : Bs} (hd : d.length = 4) : Za (WO (Xg i) d) = wL i := (Qq h hd).q.key
theorem Qp {n j : Nat} (hn : n < 15) (hj : j < n) : wL j ≠ wL n := fun h => by
 have := mP (by omega) hn (congrArg Ky.n h);omega
theorem Rw.Gc {N : Nat} {e p : Nat → Int} {n : Nat} {S : Ss} (h : Rw wL e p n S.I) (hn : n < 15) {d : Bs} (hd : d.length = 4) {r x : Int} (he : e n = x) (hp : p n = 0) (hk : Je r 0 x = true) (hN : 64 * n + 96 ≤ N) :
 UM N (WO (Xg n) d) r 0 x S = (aZ (WO (Xg n) d) r 0 x S, 0) ∧ Rw wL e p (n + 1) (aZ (WO (Xg n) d) r 0 x S).I := by
 have hb : Wo S.I (Za (WO (Xg n) d)) = none := h.non fun j hj q => Qp hn hj (by rw [← oK hn hd]; exact q)
 exact ⟨h.fam.ow (Qq hn hd) hb hk (by rw [h.len]; omega), h.add (Qq hn hd) (oK hn hd) (fun j hj => Qp hn hj) he hp⟩
end Go.Proofs.YtejmbmenbailmaaGreat