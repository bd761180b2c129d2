/- ListsPlaces: what it computes. -/
import Derived.Test.YtmgiamagocefcaaNew
import Derived.Test.YtmgiamagocefcaaFrame
import Derived.Test.YtmgiamagocefcaaTypes
namespace Go.Proofs.Ytmgiamagocefcaa
open Go.Xs
open Enc (enc)

theorem tch_perm {most k : Int} {A B : List Int} (hn : (A ++ B).Nodup) (hk : k ∈ A ∨ k ∈ B) : (tchA most k A B ++ tchB most k A B).Perm (A ++ B) := by
  have h0 : (A.erase k ++ (B.erase k ++ [k])).Perm (A ++ B) := by
    obtain ⟨_, _, hd⟩ := List.pairwise_append.1 hn
    by_cases hA : k ∈ A
    · have hB : k ∉ B := fun h => hd k hA k h rfl
      rw [List.erase_of_not_mem hB]
      refine List.perm_append_comm.trans ?_
      rw [List.append_assoc]
      refine ((List.perm_cons_erase hA).symm.append_left B).trans List.perm_append_comm
    · have hB : k ∈ B := hk.resolve_left hA
      rw [List.erase_of_not_mem hA]
      refine List.Perm.append_left A (List.perm_append_comm.trans (List.perm_cons_erase hB).symm)
  unfold tchA tchB
  rw [if_pos hk, if_pos hk]
  split
  · refine List.Perm.trans ?_ h0
    rw [List.append_assoc]
    refine List.Perm.append_left _ ?_
    cases B.erase k ++ [k] with
    | nil => simp
    | cons x l => simp
  · exact h0
theorem tch_last {most k : Int} {A B : List Int} (hm : 1 ≤ most) (hk : k ∈ A ∨ k ∈ B) : (tchB most k A B).getLast? = some k := by
  unfold tchB
  rw [if_pos hk]
  split
  · next h =>
    have h2 : 2 ≤ (B.erase k ++ [k]).length := by omega
    cases hb : B.erase k with
    | nil => rw [hb] at h2; simp at h2
    | cons x l =>
      show (l ++ [k]).getLast? = some k
      simp
  · simp
theorem tch_le {most k : Int} {A B : List Int} (hm : 0 ≤ most) (hb : (B.length : Int) ≤ most) : ((tchB most k A B).length : Int) ≤ most := by
  unfold tchB
  have := List.length_erase_le (l := B) (a := k)
  split
  · split
    · rw [List.length_eraseIdx]
      split
      · simp at *; omega
      · simp at *
    · omega
  · exact hb

theorem c10 {S : Segs} (n most : Int) {v : Value} {T : List Int} (hT : Src S v T) (_hm : T.length ≤ maxLen) (_hq : ∀ a ∈ T, InI a) : Tri Try.prog 10 #[.int .i64 n, .int .i64 most, v] S (fun r S' => r = .bool true ∧ S' = S) := by
  refine Tri.forget (ycallee Try.fx10 (Nat.le_of_ble_eq_true rfl) ?_)
  unfold Try.x10
  obtain ⟨at0, ct0, rfl⟩ := hT.isSlice
  refine yseq ?_
  refine yregion ?_
  refine yp pC ?_
  refine ynil ?_
  refine tnorm ?_
  refine yseq ?_
  refine yseq ?_
  refine yregion ?_
  refine yp (pI rfl) ?_
  refine yp (pLt rfl rfl) ?_
  refine yp (pB rfl) ?_
  by_cases h1 : n < 1
  · rw [decide_eq_true h1]
    refine ygF rfl ?_
    refine ygF rfl ?_
    refine yp (pPickT rfl rfl) ?_
    refine yp (pB rfl) ?_
    refine ygF rfl ?_
    refine ygF rfl ?_
    refine yp (pPickT rfl rfl) ?_
    refine yp (pB rfl) ?_
    refine ygF rfl ?_
    refine ygF rfl ?_
    refine yp (pPickT rfl rfl) ?_
    refine yp (pB rfl) ?_
    refine ygF rfl ?_
    refine ygF rfl ?_
    refine ygF rfl ?_
    refine yp (pPickT rfl rfl) ?_
    refine ynil ?_
    refine tnorm ?_
    refine ycondT rfl ?_
    refine yseq ?_
    refine yregion ?_
    refine ycons (ycall c27 rfl rfl fun r S' h => ?_)
    obtain ⟨rfl, rfl⟩ := h
    refine yp (pB rfl) ?_
    refine ynil ?_
    refine tnorm ?_
    refine yret ?_
    refine tret ?_
    exact yfin (rB rfl) ⟨_, .of, rfl, rfl⟩
  rw [decide_eq_false h1]
  refine ygT rfl ?_
  refine yop (pI rfl) ?_
  refine ygT rfl ?_
  refine yop (pGt rfl rfl) ?_
  refine yp (pPickF rfl rfl) ?_
  refine yp (pB rfl) ?_
  by_cases h2 : 20 < n
  · rw [decide_eq_true h2]
    refine ygF rfl ?_
    refine ygF rfl ?_
    refine yp (pPickT rfl rfl) ?_
    refine yp (pB rfl) ?_
    refine ygF rfl ?_
    refine ygF rfl ?_
    refine yp (pPickT rfl rfl) ?_
    refine yp (pB rfl) ?_
    refine ygF rfl ?_
    refine ygF rfl ?_
    refine ygF rfl ?_
    refine yp (pPickT rfl rfl) ?_
    refine ynil ?_
    refine tnorm ?_
    refine ycondT rfl ?_
    refine yseq ?_
    refine yregion ?_
    refine ycons (ycall c27 rfl rfl fun r S' h => ?_)
    obtain ⟨rfl, rfl⟩ := h
    refine yp (pB rfl) ?_
    refine ynil ?_
    refine tnorm ?_
    refine yret ?_
    refine tret ?_
    exact yfin (rB rfl) ⟨_, .of, rfl, rfl⟩
  rw [decide_eq_false h2]
  refine ygT rfl ?_
  refine yop (pI rfl) ?_
  refine ygT rfl ?_
  refine yop (pLt rfl rfl) ?_
  refine yp (pPickF rfl rfl) ?_
  refine yp (pB rfl) ?_
  by_cases h3 : most < 1
  · rw [decide_eq_true h3]
    refine ygF rfl ?_
    refine ygF rfl ?_
    refine yp (pPickT rfl rfl) ?_
    refine yp (pB rfl) ?_
    refine ygF rfl ?_
    refine ygF rfl ?_
    refine ygF rfl ?_
    refine yp (pPickT rfl rfl) ?_
    refine ynil ?_
    refine tnorm ?_
    refine ycondT rfl ?_
    refine yseq ?_
    refine yregion ?_
    refine ycons (ycall c27 rfl rfl fun r S' h => ?_)
    obtain ⟨rfl, rfl⟩ := h
    refine yp (pB rfl) ?_
    refine ynil ?_
    refine tnorm ?_
    refine yret ?_
    refine tret ?_
    exact yfin (rB rfl) ⟨_, .of, rfl, rfl⟩
  rw [decide_eq_false h3]
  refine ygT rfl ?_
  refine yop (pI rfl) ?_
  refine ygT rfl ?_
  refine yop (pGt rfl rfl) ?_
  refine yp (pPickF rfl rfl) ?_
  refine yp (pB rfl) ?_
  by_cases h4 : 10 < most
  · rw [decide_eq_true h4]
    refine ygF rfl ?_
    refine ygF rfl ?_
    refine ygF rfl ?_
    refine yp (pPickT rfl rfl) ?_
    refine ynil ?_
    refine tnorm ?_
    refine ycondT rfl ?_
    refine yseq ?_
    refine yregion ?_
    refine ycons (ycall c27 rfl rfl fun r S' h => ?_)
    obtain ⟨rfl, rfl⟩ := h
    refine yp (pB rfl) ?_
    refine ynil ?_
    refine tnorm ?_
    refine yret ?_
    refine tret ?_
    exact yfin (rB rfl) ⟨_, .of, rfl, rfl⟩
  rw [decide_eq_false h4]
  refine ygT rfl ?_
  refine yop (pS rfl) ?_
  refine ygT rfl ?_
  refine yop (pLen rfl) ?_
  refine ygT rfl ?_
  refine yop (pGt rfl rfl) ?_
  refine yp (pPickF rfl rfl) ?_
  refine ynil ?_
  refine tnorm ?_
  by_cases h5 : 20 < (T.length : Int)
  · rw [decide_eq_true h5]
    refine ycondT rfl ?_
    refine yseq ?_
    refine yregion ?_
    refine ycons (ycall c27 rfl rfl fun r S' h => ?_)
    obtain ⟨rfl, rfl⟩ := h
    refine yp (pB rfl) ?_
    refine ynil ?_
    refine tnorm ?_
    refine yret ?_
    refine tret ?_
    exact yfin (rB rfl) ⟨_, .of, rfl, rfl⟩
  rw [decide_eq_false h5]
  obtain ⟨N, rfl⟩ := Int.eq_ofNat_of_zero_le (show 0 ≤ n from by omega)
  refine ycondF rfl ?_
  refine yskip ?_
  refine tnorm ?_
  refine yseq ?_
  refine yregion ?_
  refine yp (pI rfl) ?_
  refine ycons (ycall (c28 most) rfl rfl fun r S' h => ?_)
  obtain ⟨lb, rfl, rfl⟩ := h
  rw [show max most 0 = most from by omega]
  refine yp (pP rfl) ?_
  refine ynil ?_
  refine tnorm ?_
  refine yseq ?_
  refine yseq ?_
  refine yregion ?_
  refine yp (pP rfl) ?_
  refine yp (pNilP rfl rfl) ?_
  refine ynil ?_
  refine tnorm ?_
  refine ycondF rfl ?_
  refine yskip ?_
  refine tnorm ?_
  refine yseq ?_
  refine yseq ?_
  refine yregion ?_
  refine yp pC ?_
  refine ynil ?_
  refine tnorm ?_
  refine yblock ?_
  refine yloop (σ := Nat) (fun i E S' => Has E [(0, .int .i64 N), (1, .int .i64 most), (2, .slice at0 T.length ct0), (7, .pointer (some ⟨lb, 0, none⟩)), (8, .int .i64 i)] ∧ i ≤ N ∧ ∃ u H, Slc 3 u (iotaI i) H ∧ Junk S' (lseg lb most u (.slice none 0 0) :: H :: S)) (fun i => N - i) 0 ⟨⟨rfl, rfl, rfl, rfl, rfl, trivial⟩, Nat.zero_le _, _, [], .nil, .of⟩ fun i E S' ⟨hE, hi, u, H, hA, hJ⟩ => ?_
  obtain ⟨E0, e0⟩ := has_puts hE; subst e0; clear hE
  refine yforget hJ ?_
  have hil := iotaI_length i
  refine yseq ?_
  refine yseq ?_
  refine yregion ?_
  refine yp (pI rfl) ?_
  refine yp (pI rfl) ?_
  refine yp (pLt rfl rfl) ?_
  refine ynil ?_
  refine tnorm ?_
  refine ycondD rfl (fun h => ?_) (fun h => ?_)
  · have hadd : addL (i : Int) (iotaI i) [] = iotaI (i + 1) := by
      rw [addL, if_neg (by simp [mem_iotaI]), iotaI_succ]
    refine yskip ?_
    refine tnorm ?_
    refine yseq ?_
    refine yblock ?_
    refine yseq ?_
    refine yregion ?_
    refine yp (pP rfl) ?_
    refine yp (pI rfl) ?_
    refine ycons (ycall (c29 (lb := lb) (most := most) (B := []) hA .nil (by omega) (by decide) i) rfl rfl fun r S' h => ?_)
    obtain ⟨rfl, u1, H1, hA1, rfl⟩ := h
    rw [hadd] at hA1
    refine ynil ?_
    refine tnorm ?_
    refine yregion ?_
    refine yp (pP rfl) ?_
    refine yp (pI rfl) ?_
    refine yp (pQuo rfl rfl (by omega) (by omega)) ?_
    refine ycons (ycall (c29 (lb := lb) (most := most) (B := []) hA1 .nil (by rw [iotaI_length]; omega) (by decide) _) rfl rfl fun r S' h => ?_)
    obtain ⟨rfl, u2, H2, hA2, rfl⟩ := h
    rw [addL, if_pos (.inl (mem_iotaI.2 (by rw [Int.tdiv_eq_ediv_of_nonneg (by omega)]; omega)))] at hA2
    refine ynil ?_
    refine bnorm ?_
    refine tnorm ?_
    refine yregion ?_
    refine yp (pI rfl) ?_
    refine yp (pInc rfl rfl (by omega)) ?_
    refine yp (pI rfl) ?_
    refine ynil ?_
    refine tnorm ?_
    exact ⟨i + 1, ⟨⟨rfl, rfl, rfl, rfl, rfl, trivial⟩, by omega, u2, H2, hA2, .of⟩, by omega⟩
  obtain rfl : i = N := by omega
  refine yexit ?_
  refine texit ?_
  refine texit ?_
  refine bexit ?_
  refine tnorm ?_
  refine yseq ?_
  refine yseq ?_
  refine yregion ?_
  refine yp pC ?_
  refine ynil ?_
  refine tnorm ?_
  refine yblock ?_
  refine yloop (σ := Nat) (fun j E S' => Has E [(0, .int .i64 i), (1, .int .i64 most), (2, .slice at0 T.length ct0), (7, .pointer (some ⟨lb, 0, none⟩)), (9, .int .i64 j)] ∧ j ≤ T.length ∧ ∃ A B u H v G, (A ++ B).Perm (iotaI i) ∧ (B.length : Int) ≤ most ∧ (j = 0 → A = iotaI i ∧ B = []) ∧ (∀ t, 0 < j → T[j - 1]? = some t → B.getLast? = some (round t i)) ∧ Slc 3 u A H ∧ Slc 3 v B G ∧ Junk S' (lseg lb most u v :: H :: G :: S)) (fun j => T.length - j) 0 ⟨⟨rfl, rfl, rfl, rfl, rfl, trivial⟩, Nat.zero_le _, iotaI i, [], _, H, _, [], by simp, by simp; omega, fun _ => ⟨rfl, rfl⟩, fun t h => absurd h (Nat.lt_irrefl 0), hA, .nil, .of⟩ fun j E S' ⟨hE, hj, A, B, u, H, v, G, hp, hbm, hj0, hlast, hA, hB, hJ⟩ => ?_
  have hll := hp.length_eq
  rw [List.length_append, hil] at hll
  obtain ⟨E0, e0⟩ := has_puts hE; subst e0; clear hE
  refine yforget hJ ?_
  refine yseq ?_
  refine yseq ?_
  refine yregion ?_
  refine yp (pI rfl) ?_
  refine yp (pS rfl) ?_
  refine yp (pLen rfl) ?_
  refine yp (pLt rfl rfl) ?_
  refine ynil ?_
  refine tnorm ?_
  refine ycondD rfl (fun h => ?_) (fun h => ?_)
  · have hlt : j < T.length := by omega
    obtain ⟨b, o, ca, ty, fz, rfl, hm', hmem, hg, _⟩ := hT.get (by intro h; simp [h] at hlt)
    refine yskip ?_
    refine tnorm ?_
    refine yseq ?_
    refine yblock ?_
    refine yseq ?_
    refine yregion ?_
    refine yp (pP rfl) ?_
    refine yp (pS rfl) ?_
    refine yp (pI rfl) ?_
    refine yp (pIxN rfl rfl (by omega)) ?_
    refine ycons (yloadM (S := lseg lb most u v :: H :: G :: S) (v := .int .i64 T[j]) (by repeat (first | exact hmem | apply List.mem_cons_of_mem)) rfl (hg j 0 hlt (by decide)) ?_)
    refine yp (pI rfl) ?_
    refine ycons (ycall (c26 T[j] i (by omega)) rfl rfl fun r S' h => ?_)
    obtain ⟨rfl, rfl⟩ := h
    have hr := round_lt T[j] i (by omega)
    generalize hk : round T[j] i = k at hr
    have hmem2 : k ∈ A ∨ k ∈ B := List.mem_append.1 (hp.mem_iff.2 (mem_iotaI.2 hr))
    refine ycons (ycall (c31 (lb := lb) (most := most) hA hB (by omega) (by omega) k) rfl rfl fun r S' h => ?_)
    obtain ⟨rfl, u1, H1, v1, G1, hA1, hB1, rfl⟩ := h
    rw [decide_eq_true hmem2]
    refine yp (pNot rfl) ?_
    refine ynil ?_
    refine tnorm ?_
    refine ycondF rfl ?_
    refine yskip ?_
    refine bnorm ?_
    refine tnorm ?_
    refine yregion ?_
    refine yp (pI rfl) ?_
    refine yp (pInc rfl rfl (by omega)) ?_
    refine yp (pI rfl) ?_
    refine ynil ?_
    refine tnorm ?_
    refine ⟨j + 1, ⟨⟨rfl, rfl, rfl, rfl, rfl, trivial⟩, by omega, _, _, u1, H1, v1, G1, (tch_perm (hp.nodup_iff.2 (iotaI_nodup i)) hmem2).trans hp, tch_le (by omega) hbm, fun h => by omega, fun t _ ht => ?_, hA1, hB1, .of⟩, by omega⟩
    rw [Nat.add_sub_cancel, List.getElem?_eq_getElem hlt] at ht
    cases ht
    rw [tch_last (by omega) hmem2, ← hk]
  obtain rfl : j = T.length := by omega
  refine yexit ?_
  refine texit ?_
  refine texit ?_
  refine bexit ?_
  refine tnorm ?_
  refine yseq ?_
  refine yregion ?_
  refine yp (pP rfl) ?_
  refine ycons (ycall (c35 (lb := lb) (most := most) hA hB) rfl rfl fun r S' h => ?_)
  obtain ⟨rfl, rfl⟩ := h
  refine yp (pU rfl) ?_
  refine yp (pExt rfl rfl) ?_
  refine yp (pExt rfl rfl) ?_
  refine yp (pI rfl) ?_
  refine yp (pI rfl) ?_
  refine ynil ?_
  refine tnorm ?_
  refine yseq ?_
  refine yseq ?_
  refine yregion ?_
  refine yp (pI rfl) ?_
  refine yp (pI rfl) ?_
  refine yp (pAddN rfl rfl (by omega)) ?_
  refine yp (pI rfl) ?_
  refine yp (pNe rfl rfl) ?_
  refine yp (pB rfl) ?_
  rw [decide_eq_true (show ((A.length + B.length : Nat) : Int) = (i : Int) from by omega)]
  refine ygT rfl ?_
  refine yop (pI rfl) ?_
  refine ygT rfl ?_
  refine yop (pI rfl) ?_
  refine ygT rfl ?_
  refine yop (pGt rfl rfl) ?_
  refine yp (pPickF rfl rfl) ?_
  refine yp (pB rfl) ?_
  rw [decide_eq_false (show ¬ most < (B.length : Int) from by omega)]
  refine ygT rfl ?_
  refine yop (pS rfl) ?_
  refine ygT rfl ?_
  refine yop (pLen rfl) ?_
  refine ygT rfl ?_
  refine yop (pGt rfl rfl) ?_
  refine ygT rfl ?_
  refine yop (pB rfl) ?_
  have hfin : ∀ x, (A ++ B).getLast? = some x → (A ++ B)[i - 1]? = some x := by
    intro x hx
    rw [List.getLast?_eq_getElem?] at hx
    rwa [List.length_append, hll] at hx
  rcases Nat.eq_zero_or_pos T.length with hT0 | hT0
  · obtain rfl := List.length_eq_zero_iff.1 hT0
    obtain ⟨rfl, rfl⟩ := hj0 rfl
    refine ygF rfl ?_
    refine ygF rfl ?_
    refine ygT rfl ?_
    refine yop (pPickF rfl rfl) ?_
    refine yp (pPickF rfl rfl) ?_
    refine ynil ?_
    refine tnorm ?_
    refine ycondF rfl ?_
    refine yskip ?_
    refine tnorm ?_
    refine yseq ?_
    refine yregion ?_
    refine yp (pP rfl) ?_
    refine ycons (ycall (c36 (lb := lb) (most := most) hA hB (by omega) (by decide) (-1)) rfl rfl fun r S' h => ?_)
    obtain ⟨Ho, hLo, rfl⟩ := h
    rw [show firstL (-1) (iotaI i ++ []) = iotaI i from by simp [firstL]] at hLo
    obtain ⟨ao, co, rfl⟩ := hLo.isSlice
    refine yp (pS rfl) ?_
    refine ynil ?_
    refine tnorm ?_
    refine yseq ?_
    refine yseq ?_
    refine yregion ?_
    refine yp (pS rfl) ?_
    refine yp (pLen rfl) ?_
    refine yp (pI rfl) ?_
    refine yp (pNe rfl rfl) ?_
    refine ynil ?_
    refine tnorm ?_
    refine ycondN rfl (fun h => absurd (by omega) h) (fun _ => ?_)
    refine yskip ?_
    refine tnorm ?_
    refine yseq ?_
    refine yseq ?_
    refine yregion ?_
    refine yp (pS rfl) ?_
    refine yp (pLen rfl) ?_
    refine yp (pEq rfl rfl) ?_
    refine ynil ?_
    refine tnorm ?_
    refine ycondT rfl ?_
    refine yseq ?_
    refine yseq ?_
    refine yregion ?_
    refine yp pC ?_
    refine ynil ?_
    refine tnorm ?_
    refine yblock ?_
    refine yloop (σ := Nat) (fun j E S' => Has E [(0, .int .i64 i), (11, .int .i64 0), (12, .slice ao (iotaI i).length co), (13, .int .i64 j)] ∧ j ≤ i ∧ Junk S' (Ho :: S)) (fun j => i - j) 0 ⟨⟨rfl, rfl, rfl, rfl, trivial⟩, Nat.zero_le _, .of⟩ fun j E S' ⟨hE, hj, hJ⟩ => ?_
    obtain ⟨E0, e0⟩ := has_puts hE; subst e0; clear hE
    refine yforget hJ ?_
    refine yseq ?_
    refine yseq ?_
    refine yregion ?_
    refine yp (pI rfl) ?_
    refine yp (pI rfl) ?_
    refine yp (pLt rfl rfl) ?_
    refine ynil ?_
    refine tnorm ?_
    refine ycondD rfl (fun h => ?_) (fun h => ?_)
    · have hlt : j < (iotaI i).length := by omega
      obtain ⟨b, sp, fz, hz, rfl, _, _, rfl⟩ := hLo.at' (by intro h; simp [h] at hlt)
      have hje : (iotaI i)[j] = (j : Int) := by simp [iotaI]
      refine yskip ?_
      refine tnorm ?_
      refine yseq ?_
      refine yblock ?_
      refine yseq ?_
      refine yregion ?_
      refine yp (pS rfl) ?_
      refine yp (pI rfl) ?_
      refine yp (pIxN rfl rfl (by omega)) ?_
      refine ycons (yload1 (v := .int .i64 (j : Int)) rfl ((row_cell (kk := 1) (j := 0) hlt rfl (by omega)).trans (by rw [hje]; rfl)) ?_)
      refine yp (pI rfl) ?_
      refine yp (pNe rfl rfl) ?_
      refine ynil ?_
      refine tnorm ?_
      refine ycondN rfl (fun h => absurd rfl h) (fun _ => ?_)
      refine yskip ?_
      refine bnorm ?_
      refine tnorm ?_
      refine yregion ?_
      refine yp (pI rfl) ?_
      refine yp (pInc rfl rfl (by omega)) ?_
      refine yp (pI rfl) ?_
      refine ynil ?_
      refine tnorm ?_
      exact ⟨j + 1, ⟨⟨rfl, rfl, rfl, rfl, trivial⟩, by omega, .of⟩, by omega⟩
    · refine yexit ?_
      refine texit ?_
      refine texit ?_
      refine bexit ?_
      refine tnorm ?_
      refine yseq ?_
      refine yregion ?_
      refine yp (pI rfl) ?_
      refine yp (pEq rfl rfl) ?_
      refine yp (pB rfl) ?_
      refine ygT rfl ?_
      refine ycall c27 rfl rfl fun r S' h => ?_
      obtain ⟨rfl, rfl⟩ := h
      refine yp (pPickT rfl rfl) ?_
      refine yp (pB rfl) ?_
      refine ynil ?_
      refine tnorm ?_
      refine yret ?_
      refine tret ?_
      exact yfin (rB rfl) ⟨_, .of, rfl, rfl⟩
  · obtain ⟨t, ht⟩ : ∃ t, T[T.length - 1]? = some t := ⟨_, List.getElem?_eq_getElem (by omega)⟩
    have hla := hlast t hT0 ht
    have hB0 : 0 < B.length := by
      cases B with
      | nil => simp at hla
      | cons x l => simp
    rw [decide_eq_true (show (0 : Int) < (T.length : Int) from by omega)]
    refine ygT rfl ?_
    refine yop (pI rfl) ?_
    refine ygT rfl ?_
    refine yop (pEq rfl rfl) ?_
    refine ygT rfl ?_
    refine yop (pPickT rfl rfl) ?_
    refine yp (pPickF rfl rfl) ?_
    refine ynil ?_
    refine tnorm ?_
    rw [decide_eq_false (show ¬ (B.length : Int) = 0 from by omega)]
    refine ycondF rfl ?_
    refine yskip ?_
    refine tnorm ?_
    refine yseq ?_
    refine yregion ?_
    refine yp (pP rfl) ?_
    refine ycons (ycall (c36 (lb := lb) (most := most) hA hB (by omega) (by omega) (-1)) rfl rfl fun r S' h => ?_)
    obtain ⟨Ho, hLo, rfl⟩ := h
    rw [show firstL (-1) (A ++ B) = A ++ B from by simp [firstL]] at hLo
    obtain ⟨ao, co, rfl⟩ := hLo.isSlice
    have hABl : (A ++ B).length = i := by rw [List.length_append, hll]
    refine yp (pS rfl) ?_
    refine ynil ?_
    refine tnorm ?_
    refine yseq ?_
    refine yseq ?_
    refine yregion ?_
    refine yp (pS rfl) ?_
    refine yp (pLen rfl) ?_
    refine yp (pI rfl) ?_
    refine yp (pNe rfl rfl) ?_
    refine ynil ?_
    refine tnorm ?_
    refine ycondN rfl (fun h => absurd (by omega) h) (fun _ => ?_)
    refine yskip ?_
    refine tnorm ?_
    refine yseq ?_
    refine yseq ?_
    refine yregion ?_
    refine yp (pS rfl) ?_
    refine yp (pLen rfl) ?_
    refine yp (pEq rfl rfl) ?_
    refine ynil ?_
    refine tnorm ?_
    refine ycondD rfl (fun h => by omega) (fun _ => ?_)
    obtain ⟨b, sp, fz, hz, rfl, _, _, rfl⟩ := hLo.at' (by intro h; rw [h] at hABl; simp at hABl; omega)
    obtain ⟨b', o', ca, ty, fz', rfl, hm', hmem, hg, _⟩ := hT.get (by intro h; simp [h] at hT0)
    refine yskip ?_
    refine tnorm ?_
    refine yseq ?_
    refine ydraw ?_
    refine ytq (pS rfl) ?_
    refine ytq (pI rfl) ?_
    refine ytq (pDec rfl rfl (by omega)) ?_
    refine ytq (pIxN rfl rfl (by omega)) ?_
    have hoi : (A ++ B)[i - 1]? = some (round t i) := hfin _ (by rw [List.getLast?_append, hla]; rfl)
    obtain ⟨hlt1, he1⟩ := List.getElem?_eq_some_iff.1 hoi
    obtain ⟨hlt2, he2⟩ := List.getElem?_eq_some_iff.1 ht
    refine ytl1 (v := .int .i64 (round t i)) rfl ((row_cell (kk := 1) (j := 0) hlt1 rfl (by omega)).trans (by rw [he1]; rfl)) ?_
    refine ytq (pS rfl) ?_
    refine ytq (pS rfl) ?_
    refine ytq (pLen rfl) ?_
    refine ytq (pDec rfl rfl (by omega)) ?_
    refine ytq (pIxN rfl rfl (by omega)) ?_
    refine ytlM (v := .int .i64 t) (List.mem_append.2 (.inr hmem)) rfl ((hg (T.length - 1) 0 hlt2 (by decide)).trans (by rw [he2]; rfl)) ?_
    refine ytq (pI rfl) ?_
    refine ytaltC (ycall (c26 t i (by omega)) rfl rfl fun r S' h => ?_) ytno
    obtain ⟨rfl, rfl⟩ := h
    refine ⟨by simp, ?_⟩
    refine ytq (pEq rfl rfl) ?_
    refine ytq (pB rfl) ?_
    rw [decide_eq_true (rfl : round t i = round t i)]
    refine ytaltT rfl ?_ ytno
    refine ytalt (ycall c27 rfl rfl fun r S' h => ?_) ytno
    obtain ⟨rfl, rfl⟩ := h
    refine ytq (pPickT rfl rfl) ?_
    refine ytq (pB rfl) ?_
    refine ytdone ?_
    refine tnorm ?_
    refine yret ?_
    exact yfin (rB rfl) ⟨_, .of, rfl, rfl⟩
end Go.Proofs.Ytmgiamagocefcaa
