/- freshetalike: two lists of keys. -/
import Derived.Test.YtejmbmenbailmaaGreatL1
import Derived.Test.YtejmbmenbailmaaGreatL0
import Derived.Test.YtejmbmenbailmaaGreatFAlk
namespace Go.Proofs.YtejmbmenbailmaaGreat
open Go.Xs
open Enc (enc)
theorem oQ {u v : Value} {A B : List Ky} {H G : List Chunk} (hA : Za 43 u A H) (hB : Za 43 v B G) (hl : A.length < 2 ^ 40) : Tri Tryz.prog 35 #[u, v] [H, G] (fun r S' => r = .bool (decide (A = B)) ∧ S' = [H, G]) := by
 refine Tri.forget (zm Tryz.Hy (Nat.le_of_ble_eq_true rfl) ?_);unfold Tryz.Lj;obtain ⟨a, c, rfl⟩ := hA.isSlice;obtain ⟨a', c', rfl⟩ := hB.isSlice;refine ze (z8 (yp pC (zf (za (ze (ze (z8 (yp (pS rfl) (yp (ZC rfl) (yp (pS rfl) (yp (ZC rfl) (yp (Xk rfl rfl) (zf (za ?_))))))))))))));refine Vd rfl (fun h => ?_) (fun h => ?_)
 ·refine ze (z8 (yp pC (zf (za (zJ (zU ?_))))));refine zI (rB rfl) ⟨_, .of, ?_, rfl⟩;rw [decide_eq_false];intro e; subst e; exact h rfl
 have hlen : A.length = B.length := by omega
 refine zu (za (ze (ze (z8 (yp pC (zf (za (zq ?_))))))));refine Z5 (σ := Nat) (fun i E S' => Has E [(0, .slice a A.length c), (1, .slice a' B.length c'), (5, .int .i64 i)] ∧ i ≤ A.length ∧ A.take i = B.take i ∧ S' = [H, G]) (fun i => A.length - i) 0 ⟨⟨rfl, rfl, rfl, trivial⟩, Nat.zero_le _, by simp, rfl⟩ fun i E S' ⟨hE, hi, he, hS⟩ => ?_
 subst hS;obtain ⟨E0, e0⟩ := zx hE; subst e0; clear hE;refine ze (ze (z8 (yp (pI rfl) (yp (pS rfl) (yp (ZC rfl) (yp (ZO rfl rfl) (zf (za ?_))))))));refine zP rfl (fun h => ?_) (fun h => ?_)
 ·have hlt : i < A.length := by omega
  have hlt' : i < B.length := by omega
  obtain ⟨b, sp, fz2, hz, rfl, _, rfl, rfl⟩ := hA.at' (by intro h; simp [h] at hlt);obtain ⟨b', sp', fz2', hz', rfl, _, rfl, rfl⟩ := hB.at' (by intro h; simp [h] at hlt');refine zu (za (ze (zq (ze (zW (zi (pS rfl) (zi (pI rfl) (zi (zS rfl rfl (by omega)) (vV (l := enc A[i]) rfl (wh hlt rfl) rfl (zi (pS rfl) (zi (pI rfl) (zi (zS rfl rfl (by omega)) (vV (l := enc B[i]) rfl (wh hlt' rfl) rfl (zi (Gb (a := A[i]) (b := B[i]) rfl rfl) ?_))))))))))))));by_cases h2 : A[i] = B[i]
  ·rw [decide_eq_true h2];refine zL (za (zA rfl (zu (zR (za (z8 (yp (pI rfl) (yp (Ze rfl rfl (by omega)) (yp (pI rfl) (zf (za ?_)))))))))));refine ⟨i + 1, ⟨⟨rfl, rfl, rfl, trivial⟩, by omega, ?_, rfl⟩, by omega⟩;rw [List.take_succ_eq_append_getElem hlt, List.take_succ_eq_append_getElem hlt', he, h2]
  ·rw [decide_eq_false h2];refine zL (za (zH rfl (ze (z8 (yp pC (zf (za (zJ (bret (zU (zU (bret (zU ?_)))))))))))));refine zI (rB rfl) ⟨_, .of, ?_, rfl⟩;rw [decide_eq_false];intro e; subst e; exact h2 rfl
 ·refine zX (zF (zF (zZ (za (ze (z8 (yp pC (zf (za (zJ ?_))))))))));refine zI (rB rfl) ⟨_, .of, ?_, rfl⟩;rw [decide_eq_true];rw [List.take_of_length_le (by omega), List.take_of_length_le (by omega)] at he;exact he
end Go.Proofs.YtejmbmenbailmaaGreat