/- StoreTimes, plainly: who goes when all goes that is over. -/
import Derived.Test.YtejmbmenbailmaaGreatC2
namespace Go.Proofs.YtejmbmenbailmaaGreat
open Go.Xs
open Enc (enc)
theorem gK {I : List It} {k x : Ky} (h : x ≠ k) : free (WE I k) x = free I x := by
 have : Wm (WE I k) x = Wm I x := by
  unfold Wm WE
  induction I with
  | nil => rfl
  | cons e I ih =>
   rw [List.filter_cons, List.find?_cons];by_cases hk : e.k = k
   ·rw [if_neg (by simp [hk]), ih, decide_eq_false (show ¬ e.k = x from fun q => h (q.symm.trans hk))]
   ·rw [if_pos (by simp [hk]), List.find?_cons, ih]
 unfold free;rw [this]
theorem kQ : ∀ (K : List Ky) (S : Ss) (c : Nat), K.Nodup → (keys S.I).Nodup →
 (K.foldl swp (S, c)).1.V = S.V ++ K.filter (free S.I) ∧ (K.foldl swp (S, c)).2 = c + (K.filter (free S.I)).length ∧ (K.foldl swp (S, c)).1.I.length + (K.filter (free S.I)).length = S.I.length
 | [], S, c, _, _ => by simp
 | k :: K, S, c, hk, hn => by
  obtain ⟨h1, h2⟩ := List.nodup_cons.1 hk;rw [List.foldl_cons];by_cases hf : free S.I k = true
  ·have e0 : swp (S, c) k = (Yb k S, c + 1) := by unfold swp; rw [if_pos hf]
   rw [e0, List.filter_cons, if_pos hf];obtain ⟨i, hb, _⟩ := Qs hf;have hl := VF hn hb;obtain ⟨a1, a2, a3⟩ := kQ K (Yb k S) (c + 1) h2 (((vw S.I k).map _).nodup hn);have e : K.filter (free (Yb k S).I) = K.filter (free S.I) := List.filter_congr fun x hx => gK fun q => h1 (q ▸ hx)
   have el : (Yb k S).I.length = (WE S.I k).length := rfl;rw [e] at a1 a2 a3;rw [el] at a3;refine ⟨a1.trans ?_, a2.trans ?_, ?_⟩
   ·show (S.V ++ [k]) ++ _ = _;rw [List.append_assoc]; rfl
   ·rw [List.length_cons]; omega
   ·rw [List.length_cons]; omega
  ·have e0 : swp (S, c) k = (S, c) := by unfold swp; rw [if_neg hf]
   rw [e0, List.filter_cons, if_neg hf];exact kQ K S c h2 hn
/-- those that go, by their numbers -/
def D5 (e p : Nat → Int) (n : Nat) (now : Int) : List Nat := (Qa e n now).filter fun j => decide (p j = 0)
theorem Rw.swp {kF : Nat → Ky} {e p : Nat → Int} {n : Nat} {S : Ss} (h : Rw kF e p n S.I) (now : Int) :
 (XU now S).1.V = S.V ++ (D5 e p n now).map kF ∧ (XU now S).2 = (D5 e p n now).length ∧ (XU now S).1.I.length + (D5 e p n now).length = n := by
 obtain ⟨h1, h2, h3⟩ := kQ (Go.Proofs.YtejmbmenbailmaaGreat.due now S.I) S 0 (xY h.fam.n) h.fam.n;have hf : (Go.Proofs.YtejmbmenbailmaaGreat.due now S.I).filter (Go.Proofs.YtejmbmenbailmaaGreat.free S.I) = (D5 e p n now).map kF := by
  rw [h.due, List.filter_map];unfold D5;congr 1;refine List.filter_congr fun j hj => ?_
  show Go.Proofs.YtejmbmenbailmaaGreat.free S.I (kF j) = _;exact h.free (UQ.1 hj).1
 rw [hf, List.length_map] at h2 h3;rw [hf] at h1;rw [h.len] at h3;exact ⟨h1, by rw [Nat.zero_add] at h2; exact h2, h3⟩
/-! ### the names -/
end Go.Proofs.YtejmbmenbailmaaGreat