/- ListsTimes: what it computes. -/
import Derived.Test.YtmgiamagocefcaaNew
import Derived.Test.YtmgiamagocefcaaFrame
import Derived.Test.YtmgiamagocefcaaTypes
namespace Go.Proofs.Ytmgiamagocefcaa
open Go.Xs
open Enc (enc)

theorem dropK_cons (k : Int) (e : Int × Int) (L : List (Int × Int)) : dropK k (e :: L) = if e.1 = k then L else e :: dropK k L := by
  by_cases h : e.1 = k
  · rw [if_pos h]
    simp [dropK, idx, h]
  · rw [if_neg h]
    simp only [dropK, idx, if_neg h]
    cases idx k L <;> rfl
def t5 (k : Int) : Int × Int := (k, 5)
theorem dropK_t5 (k : Int) : ∀ O : List Int, dropK k (O.map t5) = (O.erase k).map t5
  | [] => rfl
  | e :: O => by
    rw [List.map_cons, dropK_cons]
    by_cases h : e = k
    · subst h
      rw [if_pos (show (t5 e).1 = e from rfl)]; simp
    · rw [if_neg (show ¬ (t5 e).1 = k from h), dropK_t5 k O, List.erase_cons_tail (by simpa using h)]
      rfl
theorem upto_t5 (at_ : Int) (O : List Int) : upto at_ (O.map t5) = if 5 ≤ at_ then O.map t5 else [] := by
  have hs : isort byAt (O.map t5) = O.map t5 := by
    refine (SS.eq (L := O.map t5) (R := O.map t5) ⟨?_, fun _ => rfl⟩).symm
    refine List.pairwise_map.2 (List.Pairwise.imp (R := fun _ _ => True) (fun _ => Int.le_refl _) ?_)
    exact List.pairwise_of_forall (fun _ _ => trivial)
  rw [upto, hs]
  split
  · next h =>
    refine List.filter_eq_self.2 fun e he => ?_
    obtain ⟨k, _, rfl⟩ := List.mem_map.1 he
    exact decide_eq_true h
  · next h =>
    refine List.filter_eq_nil_iff.2 fun e he => ?_
    obtain ⟨k, _, rfl⟩ := List.mem_map.1 he
    show ¬ decide ((5 : Int) ≤ at_) = true
    simpa using h

theorem c11 {S : Segs} (n at_ : Int) {v : Value} {T : List Int} (hT : Src S v T) (_hm : T.length ≤ maxLen) (_hq : ∀ a ∈ T, InI a) : Tri Try.prog 11 #[.int .i64 n, v, .int .i64 at_] S (fun r S' => r = .bool true ∧ S' = S) := by
  refine Tri.forget (ycallee Try.fx11 (Nat.le_of_ble_eq_true rfl) ?_)
  unfold Try.x11
  obtain ⟨at0, ct0, rfl⟩ := hT.isSlice
  refine yseq ?_
  refine yregion ?_
  refine yp pC ?_
  refine ynil ?_
  refine tnorm ?_
  refine yseq ?_
  refine yseq ?_
  refine yregion ?_
  refine yp (pI rfl) ?_
  refine yp (pLt rfl rfl) ?_
  refine yp (pB rfl) ?_
  by_cases h1 : n < 1
  · rw [decide_eq_true h1]
    refine ygF rfl ?_
    refine ygF rfl ?_
    refine yp (pPickT rfl rfl) ?_
    refine yp (pB rfl) ?_
    refine ygF rfl ?_
    refine ygF rfl ?_
    refine ygF rfl ?_
    refine yp (pPickT rfl rfl) ?_
    refine ynil ?_
    refine tnorm ?_
    refine ycondT rfl ?_
    refine yseq ?_
    refine yregion ?_
    refine ycons (ycall c27 rfl rfl fun r S' h => ?_)
    obtain ⟨rfl, rfl⟩ := h
    refine yp (pB rfl) ?_
    refine ynil ?_
    refine tnorm ?_
    refine yret ?_
    refine tret ?_
    exact yfin (rB rfl) ⟨_, .of, rfl, rfl⟩
  rw [decide_eq_false h1]
  refine ygT rfl ?_
  refine yop (pI rfl) ?_
  refine ygT rfl ?_
  refine yop (pGt rfl rfl) ?_
  refine yp (pPickF rfl rfl) ?_
  refine yp (pB rfl) ?_
  by_cases h2 : 20 < n
  · rw [decide_eq_true h2]
    refine ygF rfl ?_
    refine ygF rfl ?_
    refine ygF rfl ?_
    refine yp (pPickT rfl rfl) ?_
    refine ynil ?_
    refine tnorm ?_
    refine ycondT rfl ?_
    refine yseq ?_
    refine yregion ?_
    refine ycons (ycall c27 rfl rfl fun r S' h => ?_)
    obtain ⟨rfl, rfl⟩ := h
    refine yp (pB rfl) ?_
    refine ynil ?_
    refine tnorm ?_
    refine yret ?_
    refine tret ?_
    exact yfin (rB rfl) ⟨_, .of, rfl, rfl⟩
  rw [decide_eq_false h2]
  refine ygT rfl ?_
  refine yop (pS rfl) ?_
  refine ygT rfl ?_
  refine yop (pLen rfl) ?_
  refine ygT rfl ?_
  refine yop (pGt rfl rfl) ?_
  refine yp (pPickF rfl rfl) ?_
  refine ynil ?_
  refine tnorm ?_
  by_cases h5 : 20 < (T.length : Int)
  · rw [decide_eq_true h5]
    refine ycondT rfl ?_
    refine yseq ?_
    refine yregion ?_
    refine ycons (ycall c27 rfl rfl fun r S' h => ?_)
    obtain ⟨rfl, rfl⟩ := h
    refine yp (pB rfl) ?_
    refine ynil ?_
    refine tnorm ?_
    refine yret ?_
    refine tret ?_
    exact yfin (rB rfl) ⟨_, .of, rfl, rfl⟩
  rw [decide_eq_false h5]
  obtain ⟨N, rfl⟩ := Int.eq_ofNat_of_zero_le (show 0 ≤ n from by omega)
  refine ycondF rfl ?_
  refine yskip ?_
  refine tnorm ?_
  refine yseq ?_
  refine yregion ?_
  refine ycons (ycall c38 rfl rfl fun r S' h => ?_)
  obtain ⟨db, rfl, rfl⟩ := h
  refine yp (pP rfl) ?_
  refine ynil ?_
  refine tnorm ?_
  refine yseq ?_
  refine yseq ?_
  refine yregion ?_
  refine yp (pP rfl) ?_
  refine yp (pNilP rfl rfl) ?_
  refine ynil ?_
  refine tnorm ?_
  refine ycondF rfl ?_
  refine yskip ?_
  refine tnorm ?_
  refine yseq ?_
  refine yseq ?_
  refine yregion ?_
  refine yp pC ?_
  refine ynil ?_
  refine tnorm ?_
  refine yblock ?_
  refine yloop (σ := Nat) (fun i E S' => Has E [(0, .int .i64 N), (1, .slice at0 T.length ct0), (2, .int .i64 at_), (7, .pointer (some ⟨db, 0, none⟩)), (8, .int .i64 i)] ∧ i ≤ N ∧ ∃ u H, Slc 93 u ((iotaI i).map t5) H ∧ Junk S' (dseg db u :: H :: S)) (fun i => N - i) 0 ⟨⟨rfl, rfl, rfl, rfl, rfl, trivial⟩, Nat.zero_le _, _, [], .nil, .of⟩ fun i E S' ⟨hE, hi, u, H, hD, hJ⟩ => ?_
  obtain ⟨E0, e0⟩ := has_puts hE; subst e0; clear hE
  refine yforget hJ ?_
  have hil := iotaI_length i
  refine yseq ?_
  refine yseq ?_
  refine yregion ?_
  refine yp (pI rfl) ?_
  refine yp (pI rfl) ?_
  refine yp (pLt rfl rfl) ?_
  refine ynil ?_
  refine tnorm ?_
  refine ycondD rfl (fun h => ?_) (fun h => ?_)
  · have hadd : dropK (i : Int) ((iotaI i).map t5) ++ [((i : Int), 5)] = (iotaI (i + 1)).map t5 := by
      rw [dropK_t5, List.erase_of_not_mem (by simp [mem_iotaI]), iotaI_succ, List.map_append]; rfl
    refine yskip ?_
    refine tnorm ?_
    refine yseq ?_
    refine yblock ?_
    refine yregion ?_
    refine yp (pP rfl) ?_
    refine yp (pI rfl) ?_
    refine ycons (ycall (c39 (db := db) hD (by simp; omega) i 5) rfl rfl fun r S' h => ?_)
    obtain ⟨rfl, u1, H1, hD1, rfl⟩ := h
    rw [hadd] at hD1
    refine ynil ?_
    refine bnorm ?_
    refine tnorm ?_
    refine yregion ?_
    refine yp (pI rfl) ?_
    refine yp (pInc rfl rfl (by omega)) ?_
    refine yp (pI rfl) ?_
    refine ynil ?_
    refine tnorm ?_
    exact ⟨i + 1, ⟨⟨rfl, rfl, rfl, rfl, rfl, trivial⟩, by omega, u1, H1, hD1, .of⟩, by omega⟩
  obtain rfl : i = N := by omega
  refine yexit ?_
  refine texit ?_
  refine texit ?_
  refine bexit ?_
  refine tnorm ?_
  refine yseq ?_
  refine yregion ?_
  refine yp pC ?_
  refine ynil ?_
  refine tnorm ?_
  refine yseq ?_
  refine yseq ?_
  refine yregion ?_
  refine yp pC ?_
  refine ynil ?_
  refine tnorm ?_
  refine yblock ?_
  refine yloop (σ := Nat) (fun j E S' => Has E [(0, .int .i64 i), (1, .slice at0 T.length ct0), (2, .int .i64 at_), (7, .pointer (some ⟨db, 0, none⟩)), (10, .int .i64 j)] ∧ j ≤ i ∧ ∃ w G, Slc 3 w (iotaI j) G ∧ E 9 = w ∧ Junk S' (G :: dseg db u :: H :: S)) (fun j => i - j) 0 ⟨⟨rfl, rfl, rfl, rfl, rfl, trivial⟩, Nat.zero_le _, _, [], .nil, rfl, .of⟩ fun j E S' ⟨hE, hj, w, G, hO, hE9, hJ⟩ => ?_
  have hjl := iotaI_length j
  obtain ⟨a1, c1, rfl⟩ := hO.isSlice
  have hE2 : Has E [(9, .slice a1 (iotaI j).length c1), (0, .int .i64 i), (1, .slice at0 T.length ct0), (2, .int .i64 at_), (7, .pointer (some ⟨db, 0, none⟩)), (10, .int .i64 j)] := ⟨hE9, hE⟩
  obtain ⟨E0, e0⟩ := has_puts hE2; subst e0; clear hE2
  refine yforget hJ ?_
  refine yseq ?_
  refine yseq ?_
  refine yregion ?_
  refine yp (pI rfl) ?_
  refine yp (pI rfl) ?_
  refine yp (pLt rfl rfl) ?_
  refine ynil ?_
  refine tnorm ?_
  refine ycondD rfl (fun h => ?_) (fun h => ?_)
  · refine yskip ?_
    refine tnorm ?_
    refine yseq ?_
    refine yblock ?_
    refine yregion ?_
    refine yp (pS rfl) ?_
    refine yp (pI rfl) ?_
    refine ycons (ybsl1 (j : Int) rfl rfl (by decide) (by decide) rfl fun p47 => ?_)
    refine ycons (yapp (Y := [(j : Int)]) rfl rfl hO (.lit (by repeat (first | exact List.mem_cons_self | apply List.mem_cons_of_mem)) rfl) rfl 0 rfl (by simp; omega) (by simp; omega) fun w1 K1 hU1 => ?_)
    obtain ⟨a3, c3, rfl⟩ := hU1.isSlice
    refine yp (pS rfl) ?_
    refine ynil ?_
    refine bnorm ?_
    refine tnorm ?_
    refine yregion ?_
    refine yp (pI rfl) ?_
    refine yp (pInc rfl rfl (by omega)) ?_
    refine yp (pI rfl) ?_
    refine ynil ?_
    refine tnorm ?_
    exact ⟨j + 1, ⟨⟨rfl, rfl, rfl, rfl, rfl, trivial⟩, by omega, .slice a3 (iotaI j ++ [(j : Int)]).length c3, K1, by rw [iotaI_succ]; exact hU1, rfl, .of⟩, by omega⟩
  obtain rfl : j = i := by omega
  refine yexit ?_
  refine texit ?_
  refine texit ?_
  refine bexit ?_
  refine tnorm ?_
  refine yseq ?_
  refine yseq ?_
  refine yregion ?_
  refine yp pC ?_
  refine ynil ?_
  refine tnorm ?_
  refine yblock ?_
  refine yloop (σ := Nat) (fun i E S' => Has E [(0, .int .i64 j), (1, .slice at0 T.length ct0), (2, .int .i64 at_), (7, .pointer (some ⟨db, 0, none⟩)), (11, .int .i64 i)] ∧ i ≤ T.length ∧ ∃ O u H w G, O.Perm (iotaI j) ∧ Slc 93 u (O.map t5) H ∧ Slc 3 w O G ∧ E 9 = w ∧ Junk S' (G :: dseg db u :: H :: S)) (fun i => T.length - i) 0 ⟨⟨rfl, rfl, rfl, rfl, rfl, trivial⟩, Nat.zero_le _, iotaI j, u, H, _, G, .refl _, hD, hO, rfl, .of⟩ fun i E S' ⟨hE, hi2, O, u, H, w, G, hp, hD, hO, hE9, hJ⟩ => ?_
  have hOl : O.length = j := by rw [hp.length_eq, hjl]
  obtain ⟨a1, c1, rfl⟩ := hO.isSlice
  have hE2 : Has E [(9, .slice a1 O.length c1), (0, .int .i64 j), (1, .slice at0 T.length ct0), (2, .int .i64 at_), (7, .pointer (some ⟨db, 0, none⟩)), (11, .int .i64 i)] := ⟨hE9, hE⟩
  obtain ⟨E0, e0⟩ := has_puts hE2; subst e0; clear hE2
  refine yforget hJ ?_
  refine yseq ?_
  refine yseq ?_
  refine yregion ?_
  refine yp (pI rfl) ?_
  refine yp (pS rfl) ?_
  refine yp (pLen rfl) ?_
  refine yp (pLt rfl rfl) ?_
  refine ynil ?_
  refine tnorm ?_
  refine ycondD rfl (fun h => ?_) (fun h => ?_)
  · have hlt : i < T.length := by omega
    obtain ⟨b, o, ca, ty, fz, rfl, hm', hmem, hg, _⟩ := hT.get (by intro h; simp [h] at hlt)
    refine yskip ?_
    refine tnorm ?_
    refine yseq ?_
    refine yblock ?_
    refine yseq ?_
    refine yregion ?_
    refine yp (pS rfl) ?_
    refine yp (pI rfl) ?_
    refine yp (pIxN rfl rfl (by omega)) ?_
    refine ycons (yloadM (S := G :: dseg db u :: H :: S) (v := .int .i64 T[i]) (by repeat (first | exact hmem | apply List.mem_cons_of_mem)) rfl (hg i 0 hlt (by decide)) ?_)
    refine yp (pI rfl) ?_
    refine ycons (ycall (c26 T[i] j (by omega)) rfl rfl fun r S' h => ?_)
    obtain ⟨rfl, rfl⟩ := h
    have hr := round_lt T[i] j (by omega)
    generalize round T[i] j = k at hr
    have hkO : k ∈ O := hp.mem_iff.2 (mem_iotaI.2 hr)
    have hnd : O.Nodup := hp.nodup_iff.2 (iotaI_nodup j)
    have hef : O.erase k = O.filter (fun e => decide (e ≠ k)) := by
      rw [List.Nodup.erase_eq_filter hnd]
      congr 1
      funext e
      by_cases h : e = k <;> simp [h]
    refine yp (pI rfl) ?_
    refine ynil ?_
    refine tnorm ?_
    refine yseq ?_
    refine yregion ?_
    refine yp (pP rfl) ?_
    refine yp (pI rfl) ?_
    refine ycons (ycall (c39 (db := db) hD (by simp; omega) k 5) rfl rfl fun r S' h => ?_)
    obtain ⟨rfl, u1, H1, hD1, rfl⟩ := h
    rw [dropK_t5] at hD1
    refine ynil ?_
    refine tnorm ?_
    refine yseq ?_
    refine yregion ?_
    refine yp pC ?_
    refine ynil ?_
    refine tnorm ?_
    refine yseq ?_
    refine yseq ?_
    refine yregion ?_
    refine yp pC ?_
    refine ynil ?_
    refine tnorm ?_
    refine yblock ?_
    refine yloop (σ := Nat) (fun t E S' => Has E [(0, .int .i64 j), (1, .slice (some ⟨b, o, none⟩) T.length ct0), (2, .int .i64 at_), (7, .pointer (some ⟨db, 0, none⟩)), (9, .slice a1 O.length c1), (11, .int .i64 i), (12, .int .i64 k), (14, .int .i64 t)] ∧ t ≤ j ∧ ∃ w2 G2, Slc 3 w2 ((O.take t).filter (fun e => decide (e ≠ k))) G2 ∧ E 13 = w2 ∧ Junk S' (G2 :: G :: dseg db u1 :: H1 :: S)) (fun t => j - t) 0 ⟨⟨rfl, rfl, rfl, rfl, rfl, rfl, rfl, rfl, trivial⟩, Nat.zero_le _, _, [], .nil, rfl, .of⟩ fun t E S' ⟨hE, ht, w2, G2, hO2, hE13, hJ⟩ => ?_
    have hfl := List.length_filter_le (fun e => decide (e ≠ k)) (O.take t)
    have htl := List.length_take_le t O
    obtain ⟨a4, c4, rfl⟩ := hO2.isSlice
    have hE3 : Has E [(13, .slice a4 ((O.take t).filter (fun e => decide (e ≠ k))).length c4), (0, .int .i64 j), (1, .slice (some ⟨b, o, none⟩) T.length ct0), (2, .int .i64 at_), (7, .pointer (some ⟨db, 0, none⟩)), (9, .slice a1 O.length c1), (11, .int .i64 i), (12, .int .i64 k), (14, .int .i64 t)] := ⟨hE13, hE⟩
    obtain ⟨E0, e0⟩ := has_puts hE3; subst e0; clear hE3
    refine yforget hJ ?_
    refine yseq ?_
    refine yseq ?_
    refine yregion ?_
    refine yp (pI rfl) ?_
    refine yp (pI rfl) ?_
    refine yp (pLt rfl rfl) ?_
    refine ynil ?_
    refine tnorm ?_
    refine ycondD rfl (fun h => ?_) (fun h => ?_)
    · have hlt2 : t < O.length := by omega
      obtain ⟨bb, sp, fz2, hz, rfl, _, _, rfl⟩ := hO.at' (by intro h; simp [h] at hlt2)
      have htk : O.take (t + 1) = O.take t ++ [O[t]] := by rw [List.take_add_one, List.getElem?_eq_getElem hlt2]; rfl
      refine yskip ?_
      refine tnorm ?_
      refine yseq ?_
      refine yblock ?_
      refine yseq ?_
      refine yregion ?_
      refine yp (pS rfl) ?_
      refine yp (pI rfl) ?_
      refine yp (pIxN rfl rfl (by omega)) ?_
      refine ycons (yload1 (v := .int .i64 O[t]) rfl ((row_cell (kk := 1) (j := 0) hlt2 rfl (by omega)).trans rfl) ?_)
      refine yp (pI rfl) ?_
      refine yp (pNe rfl rfl) ?_
      refine ynil ?_
      refine tnorm ?_
      refine ycondN rfl (fun h3 => ?_) (fun h3 => ?_)
      · refine yregion ?_
        refine yp (pS rfl) ?_
        refine yp (pS rfl) ?_
        refine yp (pI rfl) ?_
        refine yp (pIxN rfl rfl (by omega)) ?_
        refine ycons (yload1 (v := .int .i64 O[t]) rfl ((row_cell (kk := 1) (j := 0) hlt2 rfl (by omega)).trans rfl) ?_)
        skip
        refine ycons (ybsl1 O[t] rfl rfl (by decide) (by decide) rfl fun p80 => ?_)
        refine ycons (yapp (Y := [O[t]]) rfl rfl hO2 (.lit (by repeat (first | exact List.mem_cons_self | apply List.mem_cons_of_mem)) rfl) rfl 0 rfl (by rw [List.length_singleton]; omega) (by rw [List.length_singleton]; omega) fun w3 K3 hU3 => ?_)
        obtain ⟨a5, c5, rfl⟩ := hU3.isSlice
        refine yp (pS rfl) ?_
        refine ynil ?_
        refine bnorm ?_
        refine tnorm ?_
        refine yregion ?_
        refine yp (pI rfl) ?_
        refine yp (pInc rfl rfl (by omega)) ?_
        refine yp (pI rfl) ?_
        refine ynil ?_
        refine tnorm ?_
        refine ⟨t + 1, ⟨⟨rfl, rfl, rfl, rfl, rfl, rfl, rfl, rfl, trivial⟩, by omega, .slice a5 ((O.take t).filter (fun e => decide (e ≠ k)) ++ [O[t]]).length c5, K3, ?_, rfl, .of⟩, by omega⟩
        rw [htk, List.filter_append, List.filter_cons_of_pos (by simpa using h3)]; exact hU3
      · refine yskip ?_
        refine bnorm ?_
        refine tnorm ?_
        refine yregion ?_
        refine yp (pI rfl) ?_
        refine yp (pInc rfl rfl (by omega)) ?_
        refine yp (pI rfl) ?_
        refine ynil ?_
        refine tnorm ?_
        refine ⟨t + 1, ⟨⟨rfl, rfl, rfl, rfl, rfl, rfl, rfl, rfl, trivial⟩, by omega, .slice a4 ((O.take t).filter (fun e => decide (e ≠ k))).length c4, G2, ?_, rfl, .of⟩, by omega⟩
        rw [htk, List.filter_append, List.filter_cons_of_neg (by simpa using h3), List.filter_nil, List.append_nil]; exact hO2
    · have htj : t = O.length := by omega
      subst htj
      rw [List.take_length, ← hef] at hO2 hfl
      rw [List.take_length, ← hef]
      have hel := List.length_erase_of_mem hkO
      refine yexit ?_
      refine texit ?_
      refine texit ?_
      refine bexit ?_
      refine tnorm ?_
      refine yregion ?_
      refine yp (pS rfl) ?_
      refine yp (pI rfl) ?_
      refine ycons (ybsl1 k rfl rfl (by decide) (by decide) rfl fun p84 => ?_)
      refine ycons (yapp (Y := [k]) rfl rfl hO2 (.lit (by repeat (first | exact List.mem_cons_self | apply List.mem_cons_of_mem)) rfl) rfl 0 rfl (by rw [List.length_singleton]; omega) (by rw [List.length_singleton]; omega) fun w3 K3 hU3 => ?_)
      obtain ⟨a5, c5, rfl⟩ := hU3.isSlice
      refine yp (pS rfl) ?_
      refine ynil ?_
      refine bnorm ?_
      refine tnorm ?_
      refine yregion ?_
      refine yp (pI rfl) ?_
      refine yp (pInc rfl rfl (by omega)) ?_
      refine yp (pI rfl) ?_
      refine ynil ?_
      refine tnorm ?_
      refine ⟨i + 1, ⟨⟨rfl, rfl, rfl, rfl, rfl, trivial⟩, by omega, O.erase k ++ [k], u1, H1, .slice a5 (O.erase k ++ [k]).length c5, K3, ?_, ?_, hU3, rfl, .of⟩, by omega⟩
      · exact (List.perm_append_comm.trans (List.perm_cons_erase hkO).symm).trans hp
      · rw [List.map_append]; exact hD1
  refine yexit ?_
  refine texit ?_
  refine texit ?_
  refine bexit ?_
  refine tnorm ?_
  refine yseq ?_
  refine yregion ?_
  refine yp pC ?_
  refine ynil ?_
  refine tnorm ?_
  refine yseq ?_
  refine yseq ?_
  refine yregion ?_
  refine yp pC ?_
  refine ynil ?_
  refine tnorm ?_
  refine yblock ?_
  refine yloop (σ := Nat) (fun t E S' => Has E [(0, .int .i64 j), (2, .int .i64 at_), (7, .pointer (some ⟨db, 0, none⟩)), (9, .slice a1 O.length c1), (16, .int .i64 t)] ∧ t ≤ j ∧ ∃ w2 G2, Slc 42 w2 (if 5 ≤ at_ then (O.take t).map t5 else []) G2 ∧ E 15 = w2 ∧ Junk S' (G2 :: G :: dseg db u :: H :: S)) (fun t => j - t) 0 ⟨⟨rfl, rfl, rfl, rfl, rfl, trivial⟩, Nat.zero_le _, _, [], by simpa using .nil, rfl, .of⟩ fun t E S' ⟨hE, ht, w2, G2, hO2, hE15, hJ⟩ => ?_
  obtain ⟨a4, c4, rfl⟩ := hO2.isSlice
  have hE3 : Has E [(15, .slice a4 (if 5 ≤ at_ then (O.take t).map t5 else []).length c4), (0, .int .i64 j), (2, .int .i64 at_), (7, .pointer (some ⟨db, 0, none⟩)), (9, .slice a1 O.length c1), (16, .int .i64 t)] := ⟨hE15, hE⟩
  obtain ⟨E0, e0⟩ := has_puts hE3; subst e0; clear hE3
  refine yforget hJ ?_
  refine yseq ?_
  refine yseq ?_
  refine yregion ?_
  refine yp (pI rfl) ?_
  refine yp (pI rfl) ?_
  refine yp (pLt rfl rfl) ?_
  refine yp (pB rfl) ?_
  by_cases htj : (t : Int) < j
  · rw [decide_eq_true htj]
    refine ygT rfl ?_
    refine yop (pI rfl) ?_
    refine ygT rfl ?_
    refine yop (pGe rfl rfl) ?_
    refine yp (pPickT rfl rfl) ?_
    refine ynil ?_
    refine tnorm ?_
    have hlt2 : t < O.length := by omega
    by_cases hat : 5 ≤ at_
    · rw [decide_eq_true hat]
      rw [if_pos hat] at hO2 ⊢
      obtain ⟨bb, sp, fz2, hz, rfl, _, _, rfl⟩ := hO.at' (by intro h; simp [h] at hlt2)
      have htk : O.take (t + 1) = O.take t ++ [O[t]] := by rw [List.take_add_one, List.getElem?_eq_getElem hlt2]; rfl
      have htl := List.length_take_le t O
      refine ycondT rfl ?_
      refine yskip ?_
      refine tnorm ?_
      refine yseq ?_
      refine yblock ?_
      refine yregion ?_
      refine yp (pS rfl) ?_
      refine yp (pS rfl) ?_
      refine yp (pI rfl) ?_
      refine yp (pIxN rfl rfl (by omega)) ?_
      refine ycons (yload1 (v := .int .i64 O[t]) rfl ((row_cell (kk := 1) (j := 0) hlt2 rfl (by omega)).trans rfl) ?_)
      refine yp (pBuild2 (scI rfl) (scI rfl)) ?_
      refine ycons (ybsl1 (O[t], (5 : Int)) rfl rfl (by decide) (by decide) rfl fun p101 => ?_)
      refine ycons (yapp (Y := [(O[t], (5 : Int))]) rfl rfl hO2 (.lit (by repeat (first | exact List.mem_cons_self | apply List.mem_cons_of_mem)) rfl) rfl (0, 0) rfl (by rw [List.length_singleton, List.length_map]; omega) (by rw [List.length_singleton, List.length_map]; omega) fun w3 K3 hU3 => ?_)
      obtain ⟨a5, c5, rfl⟩ := hU3.isSlice
      refine yp (pS rfl) ?_
      refine ynil ?_
      refine bnorm ?_
      refine tnorm ?_
      refine yregion ?_
      refine yp (pI rfl) ?_
      refine yp (pInc rfl rfl (by omega)) ?_
      refine yp (pI rfl) ?_
      refine ynil ?_
      refine tnorm ?_
      refine ⟨t + 1, ⟨⟨rfl, rfl, rfl, rfl, rfl, trivial⟩, by omega, .slice a5 ((O.take t).map t5 ++ [(O[t], (5 : Int))]).length c5, K3, ?_, rfl, .of⟩, by omega⟩
      rw [if_pos hat, htk, List.map_append]; exact hU3
    · rw [decide_eq_false hat]
      have e0 : (if 5 ≤ at_ then (O.take t).map t5 else []) = (if 5 ≤ at_ then O.map t5 else []) := by rw [if_neg hat, if_neg hat]
      rw [e0] at hO2 ⊢
      refine ycondF rfl ?_
      refine yexit ?_
      refine texit ?_
      refine texit ?_
      refine bexit ?_
      refine tnorm ?_
      refine yseq ?_
      refine yregion ?_
      refine yp (pP rfl) ?_
      refine yp (pI rfl) ?_
      refine ycons (ycall (c44 (db := db) hD (by simp; omega) at_ (-1)) rfl rfl fun r S' h => ?_)
      obtain ⟨Ho, hLo, rfl⟩ := h
      rw [show firstP (-1) (upto at_ (O.map t5)) = upto at_ (O.map t5) from by simp [firstP], upto_t5] at hLo
      obtain ⟨ao, co, rfl⟩ := hLo.isSlice
      refine yp (pS rfl) ?_
      refine ycons (ycall (c43 (S := [Ho, G2]) (hLo.src (by simp)) (hO2.src (by simp)) (by split <;> simp <;> omega)) rfl rfl fun r S' h => ?_)
      obtain ⟨rfl, rfl⟩ := h
      rw [decide_eq_true (rfl : (if 5 ≤ at_ then O.map t5 else []) = (if 5 ≤ at_ then O.map t5 else []))]
      refine yp (pB rfl) ?_
      refine ygT rfl ?_
      refine yop (pP rfl) ?_
      refine ygT rfl ?_
      refine ycall (c42 (db := db) hD) rfl rfl fun r S' h => ?_
      obtain ⟨rfl, rfl⟩ := h
      refine ygT rfl ?_
      refine yop (pI rfl) ?_
      refine ygT rfl ?_
      refine yop (pEq rfl rfl) ?_
      refine yp (pPickT rfl rfl) ?_
      refine yp (pB rfl) ?_
      have hml : (((O.map t5).length : Nat) : Int) = (j : Int) := by simp; omega
      rw [decide_eq_true hml]
      refine ygT rfl ?_
      refine ycall c27 rfl rfl fun r S' h => ?_
      obtain ⟨rfl, rfl⟩ := h
      refine yp (pPickT rfl rfl) ?_
      refine yp (pB rfl) ?_
      refine ynil ?_
      refine tnorm ?_
      refine yret ?_
      exact yfin (rB rfl) ⟨_, .of, rfl, rfl⟩
  · rw [decide_eq_false htj]
    have e0 : (if 5 ≤ at_ then (O.take t).map t5 else []) = (if 5 ≤ at_ then O.map t5 else []) := by rw [List.take_of_length_le (by omega)]
    rw [e0] at hO2 ⊢
    refine ygF rfl ?_
    refine ygF rfl ?_
    refine yp (pPickF rfl rfl) ?_
    refine ynil ?_
    refine tnorm ?_
    refine ycondF rfl ?_
    refine yexit ?_
    refine texit ?_
    refine texit ?_
    refine bexit ?_
    refine tnorm ?_
    refine yseq ?_
    refine yregion ?_
    refine yp (pP rfl) ?_
    refine yp (pI rfl) ?_
    refine ycons (ycall (c44 (db := db) hD (by simp; omega) at_ (-1)) rfl rfl fun r S' h => ?_)
    obtain ⟨Ho, hLo, rfl⟩ := h
    rw [show firstP (-1) (upto at_ (O.map t5)) = upto at_ (O.map t5) from by simp [firstP], upto_t5] at hLo
    obtain ⟨ao, co, rfl⟩ := hLo.isSlice
    refine yp (pS rfl) ?_
    refine ycons (ycall (c43 (S := [Ho, G2]) (hLo.src (by simp)) (hO2.src (by simp)) (by split <;> simp <;> omega)) rfl rfl fun r S' h => ?_)
    obtain ⟨rfl, rfl⟩ := h
    rw [decide_eq_true (rfl : (if 5 ≤ at_ then O.map t5 else []) = (if 5 ≤ at_ then O.map t5 else []))]
    refine yp (pB rfl) ?_
    refine ygT rfl ?_
    refine yop (pP rfl) ?_
    refine ygT rfl ?_
    refine ycall (c42 (db := db) hD) rfl rfl fun r S' h => ?_
    obtain ⟨rfl, rfl⟩ := h
    refine ygT rfl ?_
    refine yop (pI rfl) ?_
    refine ygT rfl ?_
    refine yop (pEq rfl rfl) ?_
    refine yp (pPickT rfl rfl) ?_
    refine yp (pB rfl) ?_
    have hml : (((O.map t5).length : Nat) : Int) = (j : Int) := by simp; omega
    rw [decide_eq_true hml]
    refine ygT rfl ?_
    refine ycall c27 rfl rfl fun r S' h => ?_
    obtain ⟨rfl, rfl⟩ := h
    refine yp (pPickT rfl rfl) ?_
    refine yp (pB rfl) ?_
    refine ynil ?_
    refine tnorm ?_
    refine yret ?_
    exact yfin (rB rfl) ⟨_, .of, rfl, rfl⟩
end Go.Proofs.Ytmgiamagocefcaa
