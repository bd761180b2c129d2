/- ListsNew: what it computes. -/
import Derived.Test.YtmgiamagocefcaaLawL
namespace Go.Proofs.Ytmgiamagocefcaa
open Go.Xs
open Enc (enc)

def iotaI (m : Nat) : List Int := (List.range m).map fun (j : Nat) => (j : Int)
theorem iotaI_length (m : Nat) : (iotaI m).length = m := by simp [iotaI]
theorem iotaI_succ (m : Nat) : iotaI (m + 1) = iotaI m ++ [(m : Int)] := by simp [iotaI, List.range_succ]
theorem mem_iotaI {m : Nat} {e : Int} : e ∈ iotaI m ↔ 0 ≤ e ∧ e < m := by
  constructor
  · intro h
    obtain ⟨j, hj, rfl⟩ := List.mem_map.1 h
    have := List.mem_range.1 hj
    omega
  · intro h
    exact List.mem_map.2 ⟨e.toNat, List.mem_range.2 (by omega), by omega⟩
theorem iotaI_nodup (m : Nat) : (iotaI m).Nodup := by
  refine List.Pairwise.map _ (fun a b h => ?_) List.nodup_range
  omega
def butI (k : Int) (m : Nat) : List Int := (iotaI m).filter (fun e => decide (e ≠ k))
theorem butI_succ (k : Int) (m : Nat) : butI k (m + 1) = if (m : Int) = k then butI k m else butI k m ++ [(m : Int)] := by
  rw [butI, iotaI_succ, List.filter_append]
  split
  · next h => rw [List.filter_cons_of_neg (by simpa using h)]; simp [butI]
  · next h => rw [List.filter_cons_of_pos (by simpa using h)]; simp [butI]
theorem butI_erase (k : Int) (m : Nat) : (iotaI m).erase k = butI k m := by
  rw [List.Nodup.erase_eq_filter (iotaI_nodup m), butI]
  congr 1
  funext e
  by_cases h : e = k <;> simp [h]

theorem c12 (n used : Int) : Tri Try.prog 12 #[.int .i64 n, .int .i64 used] [] (fun r S => r = .bool true ∧ S = []) := by
  refine Tri.forget (ycallee Try.fx12 (Nat.le_of_ble_eq_true rfl) ?_)
  unfold Try.x12
  refine yseq ?_
  refine yregion ?_
  refine yp pC ?_
  refine ynil ?_
  refine tnorm ?_
  refine yseq ?_
  refine yseq ?_
  refine yregion ?_
  refine yp (pI rfl) ?_
  refine yp (pLt rfl rfl) ?_
  refine yp (pB rfl) ?_
  by_cases h1 : n < 1
  · rw [decide_eq_true h1]
    refine ygF rfl ?_
    refine ygF rfl ?_
    refine yp (pPickT rfl rfl) ?_
    refine ynil ?_
    refine tnorm ?_
    refine ycondT rfl ?_
    refine yseq ?_
    refine yregion ?_
    refine ycons (ycall c27 rfl rfl fun r S' h => ?_)
    obtain ⟨rfl, rfl⟩ := h
    refine yp (pB rfl) ?_
    refine ynil ?_
    refine tnorm ?_
    refine yret ?_
    refine tret ?_
    exact yfin (rB rfl) ⟨_, .of, rfl, rfl⟩
  rw [decide_eq_false h1]
  refine ygT rfl ?_
  refine yop (pI rfl) ?_
  refine ygT rfl ?_
  refine yop (pGt rfl rfl) ?_
  refine yp (pPickF rfl rfl) ?_
  refine ynil ?_
  refine tnorm ?_
  by_cases h2 : 20 < n
  · rw [decide_eq_true h2]
    refine ycondT rfl ?_
    refine yseq ?_
    refine yregion ?_
    refine ycons (ycall c27 rfl rfl fun r S' h => ?_)
    obtain ⟨rfl, rfl⟩ := h
    refine yp (pB rfl) ?_
    refine ynil ?_
    refine tnorm ?_
    refine yret ?_
    refine tret ?_
    exact yfin (rB rfl) ⟨_, .of, rfl, rfl⟩
  rw [decide_eq_false h2]
  obtain ⟨N, rfl⟩ := Int.eq_ofNat_of_zero_le (show 0 ≤ n from by omega)
  refine ycondF rfl ?_
  refine yskip ?_
  refine tnorm ?_
  refine yseq ?_
  refine yregion ?_
  refine yp (pI rfl) ?_
  refine ycons (ycall (c28 N) rfl rfl fun r S' h => ?_)
  obtain ⟨lb, rfl, rfl⟩ := h
  rw [show max (N : Int) 0 = N from by omega]
  refine ycons (ycall (c28 0) rfl rfl fun r S' h => ?_)
  obtain ⟨mb, rfl, rfl⟩ := h
  rw [show max (0 : Int) 0 = 0 from by omega]
  refine yp (pP rfl) ?_
  refine yp (pP rfl) ?_
  refine ynil ?_
  refine tnorm ?_
  refine yseq ?_
  refine yseq ?_
  refine yregion ?_
  refine yp (pP rfl) ?_
  refine yp (pNilP rfl rfl) ?_
  refine yp (pB rfl) ?_
  refine ygT rfl ?_
  refine yop (pP rfl) ?_
  refine ygT rfl ?_
  refine yop (pNilP rfl rfl) ?_
  refine yp (pPickF rfl rfl) ?_
  refine ynil ?_
  refine tnorm ?_
  refine ycondF rfl ?_
  refine yskip ?_
  refine tnorm ?_
  refine yseq ?_
  refine yregion ?_
  refine yp (pI rfl) ?_
  refine yp (pI rfl) ?_
  refine ycons (ycall (c26 used N (by omega)) rfl rfl fun r S' h => ?_)
  obtain ⟨rfl, rfl⟩ := h
  have hr := round_lt used N (by omega)
  generalize round used N = k at hr
  refine yp (pI rfl) ?_
  refine ynil ?_
  refine tnorm ?_
  refine yseq ?_
  refine yseq ?_
  refine yregion ?_
  refine yp pC ?_
  refine ynil ?_
  refine tnorm ?_
  refine yblock ?_
  refine yloop (σ := Nat) (fun i E S => Has E [(0, .int .i64 N), (5, .pointer (some ⟨lb, 0, none⟩)), (6, .pointer (some ⟨mb, 0, none⟩)), (7, .int .i64 k), (8, .int .i64 i)] ∧ i ≤ N ∧ ∃ u H v G, Slc 3 u (iotaI i) H ∧ Slc 3 v (iotaI i) G ∧ Junk S [lseg lb N u (.slice none 0 0), H, lseg mb 0 v (.slice none 0 0), G]) (fun i => N - i) 0 ⟨⟨rfl, rfl, rfl, rfl, rfl, trivial⟩, Nat.zero_le _, _, [], _, [], .nil, .nil, .of⟩ fun i E S ⟨hE, hi, u, H, v, G, hA, hB, hJ⟩ => ?_
  obtain ⟨E0, e0⟩ := has_puts hE; subst e0; clear hE
  refine yforget hJ ?_
  have hil := iotaI_length i
  refine yseq ?_
  refine yseq ?_
  refine yregion ?_
  refine yp (pI rfl) ?_
  refine yp (pI rfl) ?_
  refine yp (pLt rfl rfl) ?_
  refine ynil ?_
  refine tnorm ?_
  refine ycondD rfl (fun h => ?_) (fun h => ?_)
  · have hadd : addL (i : Int) (iotaI i) [] = iotaI (i + 1) := by
      rw [addL, if_neg (by simp [mem_iotaI]), iotaI_succ]
    refine yskip ?_
    refine tnorm ?_
    refine yseq ?_
    refine yblock ?_
    refine yseq ?_
    refine yregion ?_
    refine yp (pP rfl) ?_
    refine yp (pI rfl) ?_
    refine ycons (ycall (c29 (lb := lb) (most := N) (B := []) hA .nil (by omega) (by decide) i) rfl rfl fun r S' h => ?_)
    obtain ⟨rfl, u1, H1, hA1, rfl⟩ := h
    rw [hadd] at hA1
    refine ynil ?_
    refine tnorm ?_
    refine yregion ?_
    refine yp (pP rfl) ?_
    refine yp (pI rfl) ?_
    refine ycons (ycall (c29 (lb := mb) (most := 0) (B := []) hB .nil (by omega) (by decide) i) rfl rfl fun r S' h => ?_)
    obtain ⟨rfl, v1, G1, hB1, rfl⟩ := h
    rw [hadd] at hB1
    refine ynil ?_
    refine bnorm ?_
    refine tnorm ?_
    refine yregion ?_
    refine yp (pI rfl) ?_
    refine yp (pInc rfl rfl (by omega)) ?_
    refine yp (pI rfl) ?_
    refine ynil ?_
    refine tnorm ?_
    exact ⟨i + 1, ⟨⟨rfl, rfl, rfl, rfl, rfl, trivial⟩, by omega, u1, H1, v1, G1, hA1, hB1, .of⟩, by omega⟩
  obtain rfl : i = N := by omega
  have hk : k ∈ iotaI i := mem_iotaI.2 hr
  have hkk : (k ∈ iotaI i ∨ k ∈ ([] : List Int)) := .inl hk
  have hbl : (butI k i).length = i - 1 := by rw [← butI_erase, List.length_erase_of_mem hk, iotaI_length]
  have h100 : ∀ e ∈ butI k i, e ≠ 100 := by
    intro e he
    have := mem_iotaI.1 (List.mem_filter.1 he).1
    omega
  refine yexit ?_
  refine texit ?_
  refine texit ?_
  refine bexit ?_
  refine tnorm ?_
  refine yseq ?_
  refine yseq ?_
  refine yregion ?_
  refine yp (pP rfl) ?_
  refine yp (pI rfl) ?_
  refine ycons (ycall (c31 (lb := lb) (most := (i : Int)) (B := []) hA .nil (by omega) (by decide) k) rfl rfl fun r S' h => ?_)
  obtain ⟨rfl, u1, H1, v1, G1, hA1, hB1, rfl⟩ := h
  rw [decide_eq_true hkk]
  rw [tchA, if_pos hkk, if_neg (by simp; omega), butI_erase] at hA1
  rw [tchB, if_pos hkk, if_neg (by simp; omega), show List.erase [] k ++ [k] = [k] from rfl] at hB1
  refine yp (pNot rfl) ?_
  refine yp (pB rfl) ?_
  refine ygT rfl ?_
  refine yop (pP rfl) ?_
  refine ygT rfl ?_
  refine yop (pI rfl) ?_
  refine ygT rfl ?_
  refine ycall (c31 (lb := mb) (most := 0) (B := []) hB .nil (by omega) (by decide) k) rfl rfl fun r S' h => ?_
  obtain ⟨rfl, u2, H2, v2, G2, hA2, hB2, rfl⟩ := h
  rw [decide_eq_true hkk]
  rw [tchA, if_pos hkk, if_pos (by simp), butI_erase, show (List.erase [] k ++ [k]).take 1 = [k] from rfl] at hA2
  rw [tchB, if_pos hkk, if_pos (by simp), show (List.erase [] k ++ [k]).eraseIdx 0 = [] from rfl] at hB2
  refine ygT rfl ?_
  refine yop (pNot rfl) ?_
  refine yp (pPickF rfl rfl) ?_
  refine ynil ?_
  refine tnorm ?_
  refine ycondF rfl ?_
  refine yskip ?_
  refine tnorm ?_
  refine yseq ?_
  refine yregion ?_
  refine yp (pP rfl) ?_
  refine ycons (ycall (c29 (lb := lb) (most := (i : Int)) hA1 hB1 (by omega) (by simp) 100) rfl rfl fun r S' h => ?_)
  obtain ⟨rfl, u3, H3, hA3, rfl⟩ := h
  rw [addL, if_neg (by
    intro h
    rcases h with h | h
    · exact h100 _ h rfl
    · have := List.mem_singleton.1 h; omega)] at hA3
  refine ynil ?_
  refine tnorm ?_
  refine yseq ?_
  refine yregion ?_
  refine yp (pP rfl) ?_
  refine ycons (ycall (c29 (lb := mb) (most := 0) hA2 hB2 (by simp; omega) (by decide) 100) rfl rfl fun r S' h => ?_)
  obtain ⟨rfl, u4, H4, hA4, rfl⟩ := h
  rw [addL, if_neg (by
    intro h
    rcases h with h | h
    · rcases List.mem_append.1 h with h | h
      · exact h100 _ h rfl
      · have := List.mem_singleton.1 h; omega
    · cases h)] at hA4
  refine ynil ?_
  refine tnorm ?_
  refine yseq ?_
  refine yregion ?_
  refine yp pC ?_
  refine yp pC ?_
  refine ynil ?_
  refine tnorm ?_
  refine yseq ?_
  refine yseq ?_
  refine yregion ?_
  refine yp pC ?_
  refine ynil ?_
  refine tnorm ?_
  refine yblock ?_
  refine yloop (σ := Nat) (fun j E S => Has E [(0, .int .i64 i), (5, .pointer (some ⟨lb, 0, none⟩)), (6, .pointer (some ⟨mb, 0, none⟩)), (7, .int .i64 k), (11, .int .i64 j)] ∧ j ≤ i ∧ ∃ u H v G, Slc 3 u (butI k j) H ∧ Slc 3 v (butI k j) G ∧ E 9 = u ∧ E 10 = v ∧ Junk S [lseg lb i u3 v1, H3, G1, lseg mb 0 u4 v2, H4, G2, H, G]) (fun j => i - j) 0 ⟨⟨rfl, rfl, rfl, rfl, rfl, trivial⟩, Nat.zero_le _, _, [], _, [], .nil, .nil, rfl, rfl, .of⟩ fun j E S ⟨hE, hj, u, H, v, G, hU, hV, hE9, hE10, hJ⟩ => ?_
  have hbj : (butI k j).length ≤ j := by
    have := List.length_filter_le (fun e => decide (e ≠ k)) (iotaI j)
    rw [iotaI_length] at this
    exact this
  obtain ⟨a1, c1, rfl⟩ := hU.isSlice
  obtain ⟨a2, c2, rfl⟩ := hV.isSlice
  have hE2 : Has E [(9, .slice a1 (butI k j).length c1), (10, .slice a2 (butI k j).length c2), (0, .int .i64 i), (5, .pointer (some ⟨lb, 0, none⟩)), (6, .pointer (some ⟨mb, 0, none⟩)), (7, .int .i64 k), (11, .int .i64 j)] := ⟨hE9, hE10, hE⟩
  obtain ⟨E0, e0⟩ := has_puts hE2; subst e0; clear hE2
  refine yforget hJ ?_
  refine yseq ?_
  refine yseq ?_
  refine yregion ?_
  refine yp (pI rfl) ?_
  refine yp (pI rfl) ?_
  refine yp (pLt rfl rfl) ?_
  refine ynil ?_
  refine tnorm ?_
  refine ycondD rfl (fun h => ?_) (fun h => ?_)
  · refine yskip ?_
    refine tnorm ?_
    refine yseq ?_
    refine yblock ?_
    refine yseq ?_
    refine yregion ?_
    refine yp (pI rfl) ?_
    refine yp (pI rfl) ?_
    refine yp (pNe rfl rfl) ?_
    refine ynil ?_
    refine tnorm ?_
    refine ycondN rfl (fun h2 => ?_) (fun h2 => ?_)
    · refine yseq ?_
      refine yregion ?_
      refine yp (pS rfl) ?_
      refine yp (pI rfl) ?_
      refine ycons (ybsl1 (j : Int) rfl rfl (by decide) (by decide) rfl fun p70 => ?_)
      refine ycons (yapp (Y := [(j : Int)]) rfl rfl hU (.lit (by repeat (first | exact List.mem_cons_self | apply List.mem_cons_of_mem)) rfl) rfl 0 rfl (by simp; omega) (by simp; omega) fun w1 K1 hU1 => ?_)
      obtain ⟨a3, c3, rfl⟩ := hU1.isSlice
      refine yp (pS rfl) ?_
      refine ynil ?_
      refine tnorm ?_
      refine yregion ?_
      refine yp (pS rfl) ?_
      refine yp (pI rfl) ?_
      refine ycons (ybsl1 (j : Int) rfl rfl (by decide) (by decide) rfl fun p74 => ?_)
      refine ycons (yapp (Y := [(j : Int)]) rfl rfl hV (.lit (by repeat (first | exact List.mem_cons_self | apply List.mem_cons_of_mem)) rfl) rfl 0 rfl (by simp; omega) (by simp; omega) fun w2 K2 hV1 => ?_)
      obtain ⟨a4, c4, rfl⟩ := hV1.isSlice
      refine yp (pS rfl) ?_
      refine ynil ?_
      refine bnorm ?_
      refine tnorm ?_
      refine yregion ?_
      refine yp (pI rfl) ?_
      refine yp (pInc rfl rfl (by omega)) ?_
      refine yp (pI rfl) ?_
      refine ynil ?_
      refine tnorm ?_
      have e1 : butI k (j + 1) = butI k j ++ [(j : Int)] := by rw [butI_succ, if_neg h2]
      exact ⟨j + 1, ⟨⟨rfl, rfl, rfl, rfl, rfl, trivial⟩, by omega, .slice a3 (butI k j ++ [(j : Int)]).length c3, K1, .slice a4 (butI k j ++ [(j : Int)]).length c4, K2, by rw [e1]; exact hU1, by rw [e1]; exact hV1, rfl, rfl, .of⟩, by omega⟩
    · refine yskip ?_
      refine bnorm ?_
      refine tnorm ?_
      refine yregion ?_
      refine yp (pI rfl) ?_
      refine yp (pInc rfl rfl (by omega)) ?_
      refine yp (pI rfl) ?_
      refine ynil ?_
      refine tnorm ?_
      have e1 : butI k (j + 1) = butI k j := by rw [butI_succ, if_pos h2]
      exact ⟨j + 1, ⟨⟨rfl, rfl, rfl, rfl, rfl, trivial⟩, by omega, .slice a1 (butI k j).length c1, H, .slice a2 (butI k j).length c2, G, by rw [e1]; exact hU, by rw [e1]; exact hV, rfl, rfl, .of⟩, by omega⟩
  obtain rfl : j = i := by omega
  refine yexit ?_
  refine texit ?_
  refine texit ?_
  refine bexit ?_
  refine tnorm ?_
  refine yseq ?_
  refine yregion ?_
  refine yp (pP rfl) ?_
  refine ycons (ycall (c35 (lb := lb) (most := (j : Int)) hA3 hB1) rfl rfl fun r S' h => ?_)
  obtain ⟨rfl, rfl⟩ := h
  refine yp (pU rfl) ?_
  refine yp (pExt rfl rfl) ?_
  refine yp (pExt rfl rfl) ?_
  refine yp (pI rfl) ?_
  refine yp (pI rfl) ?_
  refine ynil ?_
  refine tnorm ?_
  refine yseq ?_
  refine yregion ?_
  refine yp (pP rfl) ?_
  refine ycons (ycall (c35 (lb := mb) (most := 0) hA4 hB2) rfl rfl fun r S' h => ?_)
  obtain ⟨rfl, rfl⟩ := h
  refine yp (pU rfl) ?_
  refine yp (pExt rfl rfl) ?_
  refine yp (pExt rfl rfl) ?_
  refine yp (pI rfl) ?_
  refine yp (pI rfl) ?_
  refine ynil ?_
  refine tnorm ?_
  refine yseq ?_
  refine yregion ?_
  refine yp (pP rfl) ?_
  refine ycons (ycall (c36 (lb := lb) (most := (j : Int)) hA3 hB1 (by simp; omega) (by simp) (-1)) rfl rfl fun r S' h => ?_)
  obtain ⟨Ho, hLo, rfl⟩ := h
  rw [show firstL (-1) (butI k j ++ [100] ++ [k]) = butI k j ++ [100, k] from by simp [firstL]] at hLo
  obtain ⟨ao, co, rfl⟩ := hLo.isSlice
  refine yp (pS rfl) ?_
  refine yp (pI rfl) ?_
  refine ycons (ybsl (l := cells [(100 : Int), k]) rfl (by decide) (by decide) (by decide) rfl fun p90 => ?_)
  refine ycons (yapp (Y := [(100 : Int), k]) rfl rfl hU (.lit (by repeat (first | exact List.mem_cons_self | apply List.mem_cons_of_mem)) rfl) rfl 0 rfl (by simp; omega) (by simp; omega) fun w1 K1 hU1 => ?_)
  obtain ⟨a3, c3, rfl⟩ := hU1.isSlice
  refine ycons (ycall (c22 (S := [Ho, K1]) (hLo.src (by simp)) (hU1.src (by simp)) (by simp; omega)) rfl rfl fun r S' h => ?_)
  obtain ⟨rfl, rfl⟩ := h
  rw [decide_eq_true (rfl : butI k j ++ [100, k] = butI k j ++ [100, k])]
  refine yp (pB rfl) ?_
  refine ygT rfl ?_
  refine yop (pP rfl) ?_
  refine ygT rfl ?_
  refine ycall (c36 (lb := mb) (most := 0) hA4 hB2 (by simp; omega) (by decide) (-1)) rfl rfl fun r S' h => ?_
  obtain ⟨Hp, hLp, rfl⟩ := h
  rw [show firstL (-1) (butI k j ++ [k] ++ [100] ++ []) = butI k j ++ [k, 100] from by simp [firstL]] at hLp
  obtain ⟨ap, cp, rfl⟩ := hLp.isSlice
  refine ygT rfl ?_
  refine yop (pS rfl) ?_
  refine ygT rfl ?_
  refine yop (pI rfl) ?_
  refine ygT rfl ?_
  refine ybsl (l := cells [k, (100 : Int)]) rfl (by decide) (by decide) (by decide) rfl fun p98 => ?_
  refine ygT rfl ?_
  refine yapp (Y := [k, (100 : Int)]) rfl rfl hV (.lit (by repeat (first | exact List.mem_cons_self | apply List.mem_cons_of_mem)) rfl) rfl 0 rfl (by simp; omega) (by simp; omega) fun w2 K2 hV1 => ?_
  obtain ⟨a4, c4, rfl⟩ := hV1.isSlice
  refine ygT rfl ?_
  refine ycall (c22 (S := [Hp, K2]) (hLp.src (by simp)) (hV1.src (by simp)) (by simp; omega)) rfl rfl fun r S' h => ?_
  obtain ⟨rfl, rfl⟩ := h
  rw [decide_eq_true (rfl : butI k j ++ [k, 100] = butI k j ++ [k, 100])]
  refine yp (pPickT rfl rfl) ?_
  refine yp (pB rfl) ?_
  refine ygT rfl ?_
  refine yop (pI rfl) ?_
  refine ygT rfl ?_
  refine yop (pI rfl) ?_
  refine ygT rfl ?_
  refine yop (pEq rfl rfl) ?_
  refine yp (pPickT rfl rfl) ?_
  refine yp (pB rfl) ?_
  have hq1 : (((butI k j ++ [100]).length : Nat) : Int) = (j : Int) := by simp; omega
  rw [decide_eq_true hq1]
  refine ygT rfl ?_
  refine yop (pI rfl) ?_
  refine ygT rfl ?_
  refine yop (pEq rfl rfl) ?_
  refine yp (pPickT rfl rfl) ?_
  refine yp (pB rfl) ?_
  refine ygT rfl ?_
  refine yop (pI rfl) ?_
  refine ygT rfl ?_
  refine yop (pI rfl) ?_
  refine ygT rfl ?_
  refine yop (pInc rfl rfl (by omega)) ?_
  refine ygT rfl ?_
  refine yop (pEq rfl rfl) ?_
  refine yp (pPickT rfl rfl) ?_
  refine yp (pB rfl) ?_
  have hq2 : (((butI k j ++ [k] ++ [100]).length : Nat) : Int) = ((j + 1 : Nat) : Int) := by simp; omega
  rw [decide_eq_true hq2]
  refine ygT rfl ?_
  refine yop (pI rfl) ?_
  refine ygT rfl ?_
  refine yop (pEq rfl rfl) ?_
  refine yp (pPickT rfl rfl) ?_
  refine yp (pB rfl) ?_
  refine ygT rfl ?_
  refine ycall c27 rfl rfl fun r S' h => ?_
  obtain ⟨rfl, rfl⟩ := h
  refine yp (pPickT rfl rfl) ?_
  refine yp (pB rfl) ?_
  refine ynil ?_
  refine tnorm ?_
  refine yret ?_
  exact yfin (rB rfl) ⟨_, .of, rfl, rfl⟩
end Go.Proofs.Ytmgiamagocefcaa
