/- freshetalike: Round and Ints. -/
import Derived.Test.YtmgiamagocefcaaLists
namespace Go.Proofs.Ytmgiamagocefcaa
open Go.Xs
open Enc (enc)

def round (k n : Int) : Int := k % n
theorem c26 (k n : Int) (hn : 0 < n ∧ n ≤ 2 ^ 60) : Tri Try.prog 26 #[.int .i64 k, .int .i64 n] [] (fun r S => r = .int .i64 (round k n) ∧ S = []) := by
  have h1 : -n < k.tmod n := Int.lt_tmod_of_pos k hn.1
  have h2 : k.tmod n < n := Int.tmod_lt_of_pos k hn.1
  refine Tri.forget (ycallee Try.fx26 (Nat.le_of_ble_eq_true rfl) ?_)
  unfold Try.x26
  refine yseq ?_
  refine yregion ?_
  refine yp pC ?_
  refine ynil ?_
  refine tnorm ?_
  refine yseq ?_
  refine yregion ?_
  refine yp (pI rfl) ?_
  refine yp (pI rfl) ?_
  refine yp (pRem rfl rfl (by omega)) ?_
  refine yp (pI rfl) ?_
  refine yp (pAdd rfl rfl (by omega)) ?_
  refine yp (pI rfl) ?_
  refine yp (pRem rfl rfl (by omega)) ?_
  refine yp (pI rfl) ?_
  refine ynil ?_
  refine tnorm ?_
  refine yret ?_
  have e : (k.tmod n + n).tmod n = round k n := by
    have : 0 ≤ k.tmod n + n := by omega
    rw [Int.tmod_eq_emod_of_nonneg this, Int.add_emod_right, round, Int.tmod_eq_emod]
    split
    · simp
    · rw [Int.sub_emod, Int.emod_emod_of_dvd _ (Int.dvd_refl n)]
      have : ((n.natAbs : Int)) % n = 0 := Int.emod_eq_zero_of_dvd (Int.dvd_natAbs.2 (Int.dvd_refl n))
      rw [this]; simp
  exact yfin (rI rfl) ⟨_, .of, by rw [e], rfl⟩
theorem round_lt (k n : Int) (hn : 0 < n) : 0 ≤ round k n ∧ round k n < n := ⟨Int.emod_nonneg _ (by omega), Int.emod_lt_of_pos _ hn⟩

theorem c22 {S : Segs} {u v : Value} {A B : List Int} (hA : Src S u A) (hB : Src S v B) (hl : A.length < 2 ^ 60) : Tri Try.prog 22 #[u, v] S (fun r S' => r = .bool (decide (A = B)) ∧ S' = S) := by
  refine Tri.forget (ycallee Try.fx22 (Nat.le_of_ble_eq_true rfl) ?_)
  unfold Try.x22
  obtain ⟨a, c, rfl⟩ := hA.isSlice
  obtain ⟨a', c', rfl⟩ := hB.isSlice
  refine yseq ?_
  refine yregion ?_
  refine yp pC ?_
  refine ynil ?_
  refine tnorm ?_
  refine yseq ?_
  refine yseq ?_
  refine yregion ?_
  refine yp (pS rfl) ?_
  refine yp (pLen rfl) ?_
  refine yp (pS rfl) ?_
  refine yp (pLen rfl) ?_
  refine yp (pNe rfl rfl) ?_
  refine ynil ?_
  refine tnorm ?_
  refine ycondN rfl (fun h => ?_) (fun h => ?_)
  · refine yseq ?_
    refine yregion ?_
    refine yp pC ?_
    refine ynil ?_
    refine tnorm ?_
    refine yret ?_
    refine tret ?_
    refine yfin (rB rfl) ⟨_, .self, ?_, rfl⟩
    rw [decide_eq_false]
    intro e; subst e; exact h rfl
  have hlen : A.length = B.length := by omega
  refine yskip ?_
  refine tnorm ?_
  refine yseq ?_
  refine yseq ?_
  refine yregion ?_
  refine yp pC ?_
  refine ynil ?_
  refine tnorm ?_
  refine yblock ?_
  refine yloop (σ := Nat) (fun i E S' => Has E [(0, .slice a A.length c), (1, .slice a' B.length c'), (5, .int .i64 i)] ∧ i ≤ A.length ∧ A.take i = B.take i ∧ S' = S) (fun i => A.length - i) 0 ⟨⟨rfl, rfl, rfl, trivial⟩, Nat.zero_le _, by simp, rfl⟩ fun i E S' ⟨hE, hi, he, hS⟩ => ?_
  subst hS
  obtain ⟨E0, e0⟩ := has_puts hE; subst e0; clear hE
  refine yseq ?_
  refine yseq ?_
  refine yregion ?_
  refine yp (pI rfl) ?_
  refine yp (pS rfl) ?_
  refine yp (pLen rfl) ?_
  refine yp (pLt rfl rfl) ?_
  refine ynil ?_
  refine tnorm ?_
  refine ycondD rfl (fun h => ?_) (fun h => ?_)
  · have hlt : i < A.length := by omega
    have hlt' : i < B.length := by omega
    obtain ⟨b, o, ca, ty, fz, rfl, hm, hmem, hg, _⟩ := hA.get (by intro h; simp [h] at hlt)
    obtain ⟨b', o', ca', ty', fz', rfl, hm', hmem', hg', _⟩ := hB.get (by intro h; simp [h] at hlt')
    obtain ⟨f, hAt⟩ := At.of_mem hmem
    obtain ⟨f', hAt'⟩ := At.of_mem hmem'
    refine yskip ?_
    refine tnorm ?_
    refine yseq ?_
    refine yblock ?_
    refine yseq ?_
    refine ydraw ?_
    refine ytq (pS rfl) ?_
    refine ytq (pI rfl) ?_
    refine ytq (pIxN rfl rfl (by omega)) ?_
    refine ytl1 (hA := hAt) (v := .int .i64 A[i]) rfl (hg i 0 hlt (by decide)) ?_
    refine ytq (pS rfl) ?_
    refine ytq (pI rfl) ?_
    refine ytq (pIxN rfl rfl (by omega)) ?_
    refine ytl1 (hA := hAt') (v := .int .i64 B[i]) rfl (hg' i 0 hlt' (by decide)) ?_
    refine ytq (pNe rfl rfl) ?_
    refine ytdone ?_
    refine tnorm ?_
    refine ycondN rfl (fun h2 => ?_) (fun h2 => ?_)
    · refine yseq ?_
      refine yregion ?_
      refine yp pC ?_
      refine ynil ?_
      refine tnorm ?_
      refine yret ?_
      refine bret ?_
      refine tret ?_
      refine tret ?_
      refine bret ?_
      refine tret ?_
      refine yfin (rB rfl) ⟨_, .self, ?_, rfl⟩
      rw [decide_eq_false]
      intro e; subst e; exact h2 rfl
    · refine yskip ?_
      refine bnorm ?_
      refine tnorm ?_
      refine yregion ?_
      refine yp (pI rfl) ?_
      refine yp (pInc rfl rfl (by omega)) ?_
      refine yp (pI rfl) ?_
      refine ynil ?_
      refine tnorm ?_
      refine ⟨i + 1, ⟨⟨rfl, rfl, rfl, trivial⟩, by omega, ?_, rfl⟩, by omega⟩
      rw [List.take_add_one, List.take_add_one, he, List.getElem?_eq_getElem hlt, List.getElem?_eq_getElem hlt', h2]
  · refine yexit ?_
    refine texit ?_
    refine texit ?_
    refine bexit ?_
    refine tnorm ?_
    refine yseq ?_
    refine yregion ?_
    refine yp pC ?_
    refine ynil ?_
    refine tnorm ?_
    refine yret ?_
    refine yfin (rB rfl) ⟨_, .self, ?_, rfl⟩
    rw [List.take_of_length_le (by omega), List.take_of_length_le (by omega)] at he
    rw [decide_eq_true he]
end Go.Proofs.Ytmgiamagocefcaa
