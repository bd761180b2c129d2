/- TimerActs: what it computes. -/
import Derived.Test.YtmgiamagocefcaaRefU
import Derived.Test.YtmgiamagocefcaaLawT
import Derived.Test.YtmgiamagocefcaaTypes
namespace Go.Proofs.Ytmgiamagocefcaa
open Go.Xs
open Enc (enc)

theorem mem_dropK {k : Int} {L : List (Int × Int)} {e : Int × Int} (h : e ∈ dropK k L) : e ∈ L := by
  unfold dropK at h
  split at h
  · exact List.mem_of_mem_eraseIdx h
  · exact h
theorem mem_dropAll {e : Int × Int} : ∀ {ks : List Int} {L : List (Int × Int)}, e ∈ dropAll ks L → e ∈ L
  | [], _, h => h
  | k :: ks, L, h => mem_dropK (mem_dropAll (ks := ks) (L := dropK k L) h)
theorem next_least {L : List (Int × Int)} {w : Int} (h0 : L = [] → w = 0) (h1 : L ≠ [] → (∃ e ∈ L, e.2 = w) ∧ ∀ e ∈ L, w ≤ e.2) :
    ((isort byAt L).head?.map (·.2)).getD 0 = w ∧ (isort byAt L).head?.isSome = decide (0 < (L.length : Int)) := by
  have hs := isort_SS (key := byAt) L
  cases hh : isort byAt L with
  | nil =>
    have hl : L = [] := by
      cases L with
      | nil => rfl
      | cons x l => have := (hs.mem x).2 List.mem_cons_self; rw [hh] at this; cases this
    subst hl
    exact ⟨(h0 rfl).symm, rfl⟩
  | cons x R =>
    have hx : x ∈ L := (hs.mem x).1 (by rw [hh]; exact List.mem_cons_self)
    have hne : L ≠ [] := fun h => by rw [h] at hx; cases hx
    obtain ⟨⟨e, he, rfl⟩, hmin⟩ := h1 hne
    have h2 := hmin x hx
    have h3 : x.2 ≤ e.2 := by
      have := (hs.mem e).2 he
      rw [hh] at this
      rcases List.mem_cons.1 this with rfl | h
      · exact Int.le_refl _
      · have hp := hs.1
        rw [hh] at hp
        exact (List.pairwise_cons.1 hp).1 e h
    have hlen : 0 < L.length := List.length_pos_iff.2 hne
    refine ⟨?_, ?_⟩
    · show x.2 = e.2
      omega
    · rw [decide_eq_true (by omega)]; rfl

theorem c3 {S : Segs} (most : Int) {v : Value} {T : List (Int × Int × Int)} (hT : Src S v T) (_hm : T.length ≤ maxLen) (hq : ∀ a ∈ T, InA a) : Tri Try.prog 3 #[.int .i64 most, v] S (fun r S' => r = .bool true ∧ S' = S) := by
  refine Tri.forget (ycallee Try.fx3 (Nat.le_of_ble_eq_true rfl) ?_)
  unfold Try.x3
  obtain ⟨at0, ct0, rfl⟩ := hT.isSlice
  refine yseq ?_
  refine yregion ?_
  refine yp pC ?_
  refine ynil ?_
  refine tnorm ?_
  refine yseq ?_
  refine yseq ?_
  refine yregion ?_
  refine yp (pS rfl) ?_
  refine yp (pLen rfl) ?_
  refine yp (pGt rfl rfl) ?_
  refine ynil ?_
  refine tnorm ?_
  by_cases h1 : 60 < (T.length : Int)
  · refine ycondD rfl (fun _ => ?_) (fun h => absurd h1 h)
    refine yseq ?_
    refine yregion ?_
    refine ycons (ycall c14 rfl rfl fun r S' h => ?_)
    obtain ⟨rfl, rfl⟩ := h
    refine yp (pB rfl) ?_
    refine ynil ?_
    refine tnorm ?_
    refine yret ?_
    refine tret ?_
    exact yfin (rB rfl) ⟨_, .of, rfl, rfl⟩
  refine ycondD rfl (fun h => absurd h h1) (fun _ => ?_)
  refine yskip ?_
  refine tnorm ?_
  refine yseq ?_
  refine yregion ?_
  refine yp (pI rfl) ?_
  refine ycons (ycall (c15 most) rfl rfl fun r S' h => ?_)
  obtain ⟨tb, db, rfl, rfl⟩ := h
  refine yp (pP rfl) ?_
  refine ynil ?_
  refine tnorm ?_
  refine yseq ?_
  refine yregion ?_
  refine yp pBuild0 ?_
  refine ycons (yboxG rfl fun p27 => ?_)
  refine yp (pP rfl) ?_
  refine ynil ?_
  refine tnorm ?_
  refine yseq ?_
  refine yseq ?_
  refine yregion ?_
  refine yp (pP rfl) ?_
  refine yp (pNilP rfl rfl) ?_
  refine ynil ?_
  refine tnorm ?_
  refine ycondF rfl ?_
  refine yskip ?_
  refine tnorm ?_
  refine yseq ?_
  refine yseq ?_
  refine yregion ?_
  refine yp pC ?_
  refine ynil ?_
  refine tnorm ?_
  refine yblock ?_
  refine yloop (σ := Nat) (fun i E S' => Has E [(0, .int .i64 most), (1, .slice at0 T.length ct0), (5, .pointer (some ⟨tb, 0, none⟩)), (6, .pointer (some ⟨p27, 0, none⟩)), (7, .int .i64 i)] ∧ i ≤ T.length ∧ ∃ (L : List (Int × Int)) (u : Value) (H : List Chunk) (v : Value) (G : List Chunk), L.length ≤ i ∧ (∀ e ∈ L, InI e.2) ∧ Slc 93 u L H ∧ Slc 42 v L G ∧ Junk S' (tseg tb (max most 0) db :: dseg db u :: H :: mseg p27 v :: G :: S)) (fun i => T.length - i) 0 ⟨⟨rfl, rfl, rfl, rfl, rfl, trivial⟩, Nat.zero_le _, [], _, [], _, [], Nat.le_refl _, by simp, .nil, .nil, .of⟩ fun i E S' ⟨hE, hi, L, u, H, v, G, hl, hin, hD, hM, hJ⟩ => ?_
  obtain ⟨E0, e0⟩ := has_puts hE; subst e0; clear hE
  refine yforget hJ ?_
  refine yseq ?_
  refine yseq ?_
  refine yregion ?_
  refine yp (pI rfl) ?_
  refine yp (pS rfl) ?_
  refine yp (pLen rfl) ?_
  refine yp (pLt rfl rfl) ?_
  refine ynil ?_
  refine tnorm ?_
  refine ycondD rfl (fun h => ?_) (fun h => ?_)
  · have hlt : i < T.length := by omega
    obtain ⟨b, o, ca, ty, fz, rfl, hm', hmem, _, hg⟩ := hT.get (by intro h; simp [h] at hlt)
    have hge := hg i hlt
    have hqe := hq _ (List.getElem_mem hlt)
    generalize T[i] = e at hge hqe
    refine yskip ?_
    refine tnorm ?_
    refine yseq ?_
    refine yblock ?_
    refine yseq ?_
    refine yregion ?_
    refine yp (pS rfl) ?_
    refine yp (pI rfl) ?_
    refine yp (pIxN rfl rfl (by omega)) ?_
    refine ycons (yloadNM (S := tseg tb (max most 0) db :: dseg db u :: H :: mseg p27 v :: G :: S) (l := enc e) (by repeat (first | exact hmem | apply List.mem_cons_of_mem)) rfl hge rfl ?_)
    refine ycons (yalloc fun p8 => ?_)
    refine ycons (ystAll (c' := enc e) rfl rfl rfl rfl rfl ?_)
    refine ynil ?_
    refine tnorm ?_
    refine yseq ?_
    refine yregion ?_
    refine yp (pP rfl) ?_
    refine yp (pFadr rfl) ?_
    refine ycons (yload1 rfl rfl ?_)
    refine ycons (ycall (c16 (mb := p27) hM (by omega) e.2.1) rfl rfl fun r S' h => ?_)
    obtain ⟨rfl, rfl⟩ := h
    refine yp (pU rfl) ?_
    refine yp (pExt rfl rfl) ?_
    refine yp (pExt rfl rfl) ?_
    refine yp (pI rfl) ?_
    refine yp (pB rfl) ?_
    refine ynil ?_
    refine tnorm ?_
    refine ycut (fun E S' => Has E [(0, .int .i64 most), (1, .slice (some ⟨b, o, none⟩) T.length ct0), (5, .pointer (some ⟨tb, 0, none⟩)), (6, .pointer (some ⟨p27, 0, none⟩)), (7, .int .i64 i), (8, .pointer (some ⟨p8, 0, none⟩))] ∧
      ∃ (L : List (Int × Int)) (u : Value) (H : List Chunk) (v : Value) (G : List Chunk), L.length ≤ i + 1 ∧ (∀ e ∈ L, InI e.2) ∧ Slc 93 u L H ∧ Slc 42 v L G ∧ Junk S' ([(p8, .cells (enc e).toArray 31)] :: tseg tb (max most 0) db :: dseg db u :: H :: mseg p27 v :: G :: S)) ?_ ?_
    · have hdl := dropK_length e.2.1 L
      have hin2 : ∀ x ∈ dropK e.2.1 L ++ [(e.2.1, e.2.2)], InI x.2 := by
        intro x hx
        rcases List.mem_append.1 hx with hx | hx
        · exact hin x (mem_dropK hx)
        · rw [List.mem_singleton.1 hx]; exact hqe.2.2
      refine yseq ?_
      refine yregion ?_
      refine yp (pFadr rfl) ?_
      refine ycons (yload1 rfl rfl ?_)
      refine ynil ?_
      refine tnorm ?_
      refine yblock ?_
      refine yseq ?_
      refine yregion ?_
      refine yp (pEq rfl rfl) ?_
      refine yp (pB rfl) ?_
      refine ynil ?_
      refine tnorm ?_
      by_cases k1 : e.1 = 1
      · rw [decide_eq_true k1]
        refine ycondT rfl ?_
        refine yseq ?_
        refine yregion ?_
        refine yp pC ?_
        refine ynil ?_
        refine tnorm ?_
        refine yseq ?_
        refine yseq ?_
        refine yregion ?_
        refine yp (pB rfl) ?_
        refine yp (pNot rfl) ?_
        refine yp (pB rfl) ?_
        cases hk : hasK e.2.1 L with
        | true =>
          refine ygF rfl ?_
          refine ygF rfl ?_
          refine ygF rfl ?_
          refine ygF rfl ?_
          refine ygF rfl ?_
          refine ygF rfl ?_
          refine ygF rfl ?_
          refine yp (pPickF rfl rfl) ?_
          refine ynil ?_
          refine tnorm ?_
          refine ycondF rfl ?_
          refine yregion ?_
          refine yp (pP rfl) ?_
          refine yp (pFadr rfl) ?_
          refine ycons (yload1 rfl rfl ?_)
          refine yp (pFadr rfl) ?_
          refine ycons (yload1 rfl rfl ?_)
          refine ycons (ycall (c17 (mb := p27) hM (by omega) e.2.1 e.2.2) rfl rfl fun r S' h => ?_)
          obtain ⟨rfl, v1, G1, hM1, rfl⟩ := h
          refine ynil ?_
          refine tnorm ?_
          refine yseq ?_
          refine yregion ?_
          refine yp (pP rfl) ?_
          refine yp (pFadr rfl) ?_
          refine ycons (yload1 rfl rfl ?_)
          refine yp (pFadr rfl) ?_
          refine ycons (yload1 rfl rfl ?_)
          refine ycons (ycall (c18 (tb := tb) (db := db) (most := max most 0) hD (by omega) e.2.1 e.2.2) rfl rfl fun r S' h => ?_)
          obtain ⟨rfl, u1, H1, hD1, rfl⟩ := h
          have hn : ¬ (hasK e.2.1 L = false ∧ max most 0 ≤ (L.length : Int)) := by rw [hk]; simp
          rw [setR, if_neg hn]
          rw [setK, if_neg hn] at hD1
          refine yp (pI rfl) ?_
          refine yp (pNe rfl rfl) ?_
          refine ynil ?_
          refine tnorm ?_
          refine ycondF rfl ?_
          refine yskip ?_
          refine bnorm ?_
          refine tnorm ?_
          exact ⟨⟨rfl, rfl, rfl, rfl, rfl, rfl, trivial⟩, _, u1, H1, v1, G1, by rw [List.length_append, List.length_singleton]; omega, hin2, hD1, hM1, .of⟩
        | false =>
          obtain ⟨av, cv, rfl⟩ := hM.isSlice
          refine ygT rfl ?_
          refine yop (pP rfl) ?_
          refine ygT rfl ?_
          refine yop (pNilc rfl) ?_
          refine ygT rfl ?_
          refine yop (pFadr rfl) ?_
          refine ygT rfl ?_
          refine (yload1 rfl rfl ?_)
          refine ygT rfl ?_
          refine yop (pLen rfl) ?_
          refine ygT rfl ?_
          refine yop (pI rfl) ?_
          refine ygT rfl ?_
          refine yop (pGe rfl rfl) ?_
          refine yp (pPickT rfl rfl) ?_
          refine ynil ?_
          refine tnorm ?_
          by_cases hr : most ≤ (L.length : Int)
          · rw [decide_eq_true hr]
            refine ycondT rfl ?_
            refine yregion ?_
            refine yp pC ?_
            refine ynil ?_
            refine tnorm ?_
            refine yseq ?_
            refine yregion ?_
            refine yp (pP rfl) ?_
            refine yp (pFadr rfl) ?_
            refine ycons (yload1 rfl rfl ?_)
            refine yp (pFadr rfl) ?_
            refine ycons (yload1 rfl rfl ?_)
            refine ycons (ycall (c18 (tb := tb) (db := db) (most := max most 0) hD (by omega) e.2.1 e.2.2) rfl rfl fun r S' h => ?_)
            obtain ⟨rfl, u1, H1, hD1, rfl⟩ := h
            have hn : hasK e.2.1 L = false ∧ max most 0 ≤ (L.length : Int) := ⟨hk, by omega⟩
            rw [setR, if_pos hn]
            rw [setK, if_pos hn] at hD1
            refine yp (pI rfl) ?_
            refine yp (pNe rfl rfl) ?_
            refine ynil ?_
            refine tnorm ?_
            refine ycondF rfl ?_
            refine yskip ?_
            refine bnorm ?_
            refine tnorm ?_
            exact ⟨⟨rfl, rfl, rfl, rfl, rfl, rfl, trivial⟩, L, u1, H1, _, G, by omega, hin, hD1, hM, .of⟩
          · rw [decide_eq_false hr]
            refine ycondF rfl ?_
            refine yregion ?_
            refine yp (pP rfl) ?_
            refine yp (pFadr rfl) ?_
            refine ycons (yload1 rfl rfl ?_)
            refine yp (pFadr rfl) ?_
            refine ycons (yload1 rfl rfl ?_)
            refine ycons (ycall (c17 (mb := p27) hM (by omega) e.2.1 e.2.2) rfl rfl fun r S' h => ?_)
            obtain ⟨rfl, v1, G1, hM1, rfl⟩ := h
            refine ynil ?_
            refine tnorm ?_
            refine yseq ?_
            refine yregion ?_
            refine yp (pP rfl) ?_
            refine yp (pFadr rfl) ?_
            refine ycons (yload1 rfl rfl ?_)
            refine yp (pFadr rfl) ?_
            refine ycons (yload1 rfl rfl ?_)
            refine ycons (ycall (c18 (tb := tb) (db := db) (most := max most 0) hD (by omega) e.2.1 e.2.2) rfl rfl fun r S' h => ?_)
            obtain ⟨rfl, u1, H1, hD1, rfl⟩ := h
            have hn : ¬ (hasK e.2.1 L = false ∧ max most 0 ≤ (L.length : Int)) := fun h => by have := h.2; omega
            rw [setR, if_neg hn]
            rw [setK, if_neg hn] at hD1
            refine yp (pI rfl) ?_
            refine yp (pNe rfl rfl) ?_
            refine ynil ?_
            refine tnorm ?_
            refine ycondF rfl ?_
            refine yskip ?_
            refine bnorm ?_
            refine tnorm ?_
            exact ⟨⟨rfl, rfl, rfl, rfl, rfl, rfl, trivial⟩, _, u1, H1, v1, G1, by rw [List.length_append, List.length_singleton]; omega, hin2, hD1, hM1, .of⟩
      rw [decide_eq_false k1]
      refine ycondF rfl ?_
      refine yseq ?_
      refine yregion ?_
      refine yp (pEq rfl rfl) ?_
      refine yp (pB rfl) ?_
      refine ynil ?_
      refine tnorm ?_
      by_cases k2 : e.1 = 2
      · rw [decide_eq_true k2]
        refine ycondT rfl ?_
        refine yseq ?_
        refine yregion ?_
        refine yp pC ?_
        refine ynil ?_
        refine tnorm ?_
        refine yseq ?_
        refine yseq ?_
        refine yregion ?_
        refine yp (pP rfl) ?_
        refine yp (pFadr rfl) ?_
        refine ycons (yload1 rfl rfl ?_)
        refine ycons (ycall (c19 (mb := p27) hM (by omega) e.2.1) rfl rfl fun r S' h => ?_)
        obtain ⟨rfl, v1, G1, hM1, rfl⟩ := h
        have hin3 : ∀ x ∈ dropK e.2.1 L, InI x.2 := fun x hx => hin x (mem_dropK hx)
        cases hk : hasK e.2.1 L with
        | true =>
          refine ynil ?_
          refine tnorm ?_
          refine ycondT rfl ?_
          refine yregion ?_
          refine yp pC ?_
          refine ynil ?_
          refine tnorm ?_
          refine yseq ?_
          refine yregion ?_
          refine yp (pP rfl) ?_
          refine yp (pFadr rfl) ?_
          refine ycons (yload1 rfl rfl ?_)
          refine ycons (ycall (c20 (tb := tb) (db := db) (most := max most 0) hD (by omega) e.2.1) rfl rfl fun r S' h => ?_)
          obtain ⟨rfl, u1, H1, hD1, rfl⟩ := h
          rw [dropR, if_pos hk]
          refine yp (pI rfl) ?_
          refine yp (pNe rfl rfl) ?_
          refine ynil ?_
          refine tnorm ?_
          refine ycondF rfl ?_
          refine yskip ?_
          refine bnorm ?_
          refine tnorm ?_
          exact ⟨⟨rfl, rfl, rfl, rfl, rfl, rfl, trivial⟩, _, u1, H1, v1, G1, by omega, hin3, hD1, hM1, .of⟩
        | false =>
          refine ynil ?_
          refine tnorm ?_
          refine ycondF rfl ?_
          refine yskip ?_
          refine tnorm ?_
          refine yseq ?_
          refine yregion ?_
          refine yp (pP rfl) ?_
          refine yp (pFadr rfl) ?_
          refine ycons (yload1 rfl rfl ?_)
          refine ycons (ycall (c20 (tb := tb) (db := db) (most := max most 0) hD (by omega) e.2.1) rfl rfl fun r S' h => ?_)
          obtain ⟨rfl, u1, H1, hD1, rfl⟩ := h
          rw [dropR, if_neg (by rw [hk]; decide)]
          refine yp (pI rfl) ?_
          refine yp (pNe rfl rfl) ?_
          refine ynil ?_
          refine tnorm ?_
          refine ycondF rfl ?_
          refine yskip ?_
          refine bnorm ?_
          refine tnorm ?_
          exact ⟨⟨rfl, rfl, rfl, rfl, rfl, rfl, trivial⟩, _, u1, H1, v1, G1, by omega, hin3, hD1, hM1, .of⟩
      rw [decide_eq_false k2]
      refine ycondF rfl ?_
      refine yseq ?_
      refine yregion ?_
      refine yp (pEq rfl rfl) ?_
      refine yp (pB rfl) ?_
      refine ynil ?_
      refine tnorm ?_
      by_cases k3 : e.1 = 3
      · rw [decide_eq_true k3]
        refine ycondT rfl ?_
        refine yseq ?_
        refine yregion ?_
        refine yp (pP rfl) ?_
        refine yp (pFadr rfl) ?_
        refine ycons (yload1 rfl rfl ?_)
        refine ycons (ycall (c21 (mb := p27) hM (by omega) e.2.2) rfl rfl fun r S' h => ?_)
        obtain ⟨Ho, hO, rfl⟩ := h
        have hul := upto_length e.2.2 L
        generalize hU : upto e.2.2 L = U at hO hul
        obtain ⟨ao, co, rfl⟩ := hO.isSlice
        refine yp (pS rfl) ?_
        refine ynil ?_
        refine tnorm ?_
        refine yseq ?_
        refine yregion ?_
        refine yp pC ?_
        refine ynil ?_
        refine tnorm ?_
        refine yseq ?_
        refine yseq ?_
        refine yregion ?_
        refine yp pC ?_
        refine ynil ?_
        refine tnorm ?_
        refine yblock ?_
        refine yloop (σ := Nat) (fun j E S' => Has E [(0, .int .i64 most), (1, .slice (some ⟨b, o, none⟩) T.length ct0), (5, .pointer (some ⟨tb, 0, none⟩)), (6, .pointer (some ⟨p27, 0, none⟩)), (7, .int .i64 i), (8, .pointer (some ⟨p8, 0, none⟩)), (13, .slice ao U.length co), (15, .int .i64 j)] ∧ j ≤ U.length ∧ ∃ w W v G, Slc 3 w ((U.take j).map (·.1)) W ∧ Slc 42 v (dropAll ((U.take j).map (·.1)) L) G ∧ E 14 = w ∧ Junk S' (W :: Ho :: [(p8, .cells (enc e).toArray 31)] :: tseg tb (max most 0) db :: dseg db u :: H :: mseg p27 v :: G :: S)) (fun j => U.length - j) 0 ⟨⟨rfl, rfl, rfl, rfl, rfl, rfl, rfl, rfl, trivial⟩, Nat.zero_le _, _, [], _, G, .nil, hM, rfl, .of⟩ fun j E S' ⟨hE, hj, w, W, v1, G1, hW, hM1, hE14, hJ⟩ => ?_
        have htl := List.length_take_le j U
        have hda := dropAll_length ((U.take j).map (·.1)) L
        obtain ⟨aw, cw, rfl⟩ := hW.isSlice
        have hE2 : Has E [(14, .slice aw ((U.take j).map (·.1)).length cw), (0, .int .i64 most), (1, .slice (some ⟨b, o, none⟩) T.length ct0), (5, .pointer (some ⟨tb, 0, none⟩)), (6, .pointer (some ⟨p27, 0, none⟩)), (7, .int .i64 i), (8, .pointer (some ⟨p8, 0, none⟩)), (13, .slice ao U.length co), (15, .int .i64 j)] := ⟨hE14, hE⟩
        obtain ⟨E0, e0⟩ := has_puts hE2; subst e0; clear hE2
        refine yforget hJ ?_
        refine yseq ?_
        refine yseq ?_
        refine yregion ?_
        refine yp (pI rfl) ?_
        refine yp (pS rfl) ?_
        refine yp (pLen rfl) ?_
        refine yp (pLt rfl rfl) ?_
        refine ynil ?_
        refine tnorm ?_
        refine ycondD rfl (fun h => ?_) (fun h => ?_)
        · have hlt2 : j < U.length := by omega
          have htk : U.take (j + 1) = U.take j ++ [U[j]] := by rw [List.take_add_one, List.getElem?_eq_getElem hlt2]; rfl
          have hload : ∀ (bb : Nat) (sp : List (Int × Int)) , ((cells (U ++ sp)).toArray.toList)[0 + j * 2 + 0]? = some (.int .i64 U[j].1) := fun bb sp => (row_cell (kk := 2) (j := 0) hlt2 rfl (by omega)).trans rfl
          obtain ⟨b2, sp2, fz2, hz2, rfl, _, rfl, rfl⟩ := hO.at' (by intro h; simp [h] at hlt2)
          generalize U[j] = z at htk hload
          refine yskip ?_
          refine tnorm ?_
          refine yseq ?_
          refine yblock ?_
          refine yseq ?_
          refine yregion ?_
          refine yp (pS rfl) ?_
          refine yp (pS rfl) ?_
          refine yp (pI rfl) ?_
          refine yp (pIxN rfl rfl (by omega)) ?_
          refine yp (pFadr rfl) ?_
          refine ycons (yload1 (v := .int .i64 z.1) rfl (hload 0 sp2) ?_)
          skip
          refine ycons (ybsl1 z.1 rfl rfl (by decide) (by decide) rfl fun p106 => ?_)
          refine ycons (yapp (Y := [z.1]) rfl rfl hW (.lit (by repeat (first | exact List.mem_cons_self | apply List.mem_cons_of_mem)) rfl) rfl 0 rfl (by rw [List.length_singleton, List.length_map]; omega) (by rw [List.length_singleton, List.length_map]; omega) fun w3 K3 hU3 => ?_)
          obtain ⟨a5, c5, rfl⟩ := hU3.isSlice
          refine yp (pS rfl) ?_
          refine ynil ?_
          refine tnorm ?_
          refine yregion ?_
          refine yp (pP rfl) ?_
          refine yp (pS rfl) ?_
          refine yp (pI rfl) ?_
          refine yp (pIxN rfl rfl (by omega)) ?_
          refine yp (pFadr rfl) ?_
          refine ycons (yload1 (v := .int .i64 z.1) rfl (hload 0 sp2) ?_)
          skip
          refine ycons (ycall (c19 (mb := p27) hM1 (by omega) z.1) rfl rfl fun r S' h => ?_)
          obtain ⟨rfl, v2, G2, hM2, rfl⟩ := h
          refine ynil ?_
          refine bnorm ?_
          refine tnorm ?_
          refine yregion ?_
          refine yp (pI rfl) ?_
          refine yp (pInc rfl rfl (by omega)) ?_
          refine yp (pI rfl) ?_
          refine ynil ?_
          refine tnorm ?_
          refine ⟨j + 1, ⟨⟨rfl, rfl, rfl, rfl, rfl, rfl, rfl, rfl, trivial⟩, by omega, .slice a5 ((U.take j).map (·.1) ++ [z.1]).length c5, K3, v2, G2, ?_, ?_, rfl, .of⟩, by omega⟩
          · rw [htk, List.map_append]; exact hU3
          · rw [htk, List.map_append]
            show Slc 42 v2 (dropAll ((U.take j).map (·.1) ++ [z.1]) L) G2
            rw [dropAll_snoc]; exact hM2
        · have hju : U.take j = U := List.take_of_length_le (by omega)
          rw [hju] at hW hM1 hda
          rw [hju]
          refine yexit ?_
          refine texit ?_
          refine texit ?_
          refine bexit ?_
          refine tnorm ?_
          refine yseq ?_
          refine yregion ?_
          refine yp (pP rfl) ?_
          refine yp (pFadr rfl) ?_
          refine ycons (yload1 rfl rfl ?_)
          refine ycons (ycall (c23 (tb := tb) (db := db) (most := max most 0) hD (by omega) e.2.2) rfl rfl fun r S' h => ?_)
          obtain ⟨Hf, u1, H1, hF, hD1, rfl⟩ := h
          rw [hU] at hF hD1
          obtain ⟨af, cf, rfl⟩ := hF.isSlice
          refine yp (pS rfl) ?_
          refine ycons (ycall (c22 (S := [Hf, W]) (hF.src (by simp)) (hW.src (by simp)) (by rw [List.length_map]; omega)) rfl rfl fun r S' h => ?_)
          obtain ⟨rfl, rfl⟩ := h
          rw [decide_eq_true (rfl : U.map (·.1) = U.map (·.1))]
          refine yp (pNot rfl) ?_
          refine ynil ?_
          refine tnorm ?_
          refine ycondF rfl ?_
          refine yskip ?_
          refine bnorm ?_
          refine tnorm ?_
          exact ⟨⟨rfl, rfl, rfl, rfl, rfl, rfl, trivial⟩, _, u1, H1, v1, G1, by omega, fun x hx => hin x (mem_dropAll hx), hD1, hM1, .of⟩
      · rw [decide_eq_false k3]
        refine ycondF rfl ?_
        refine yskip ?_
        refine bnorm ?_
        refine tnorm ?_
        exact ⟨⟨rfl, rfl, rfl, rfl, rfl, rfl, trivial⟩, L, u, H, v, G, by omega, hin, hD, hM, .of⟩
    clear hin hD hM hl
    rintro E S' ⟨hE, L, u, H, v, G, hl, hin, hD, hM, hJ⟩
    obtain ⟨E0, e0⟩ := has_puts hE; subst e0; clear hE
    refine yforget hJ ?_
    refine yseq ?_
    refine yregion ?_
    refine yp (pP rfl) ?_
    refine ycons (ycall (c24 (tb := tb) (db := db) (most := max most 0) hD (by omega) (fun x hx => (hin x hx).2)) rfl rfl fun r S' h => ?_)
    obtain ⟨rfl, rfl⟩ := h
    obtain ⟨av, cv, rfl⟩ := hM.isSlice
    refine yp (pU rfl) ?_
    refine yp (pExt rfl rfl) ?_
    refine yp (pExt rfl rfl) ?_
    refine yp (pI rfl) ?_
    refine yp (pB rfl) ?_
    refine ynil ?_
    refine tnorm ?_
    refine yseq ?_
    refine yregion ?_
    refine yp pC ?_
    refine ynil ?_
    refine tnorm ?_
    refine yseq ?_
    refine yseq ?_
    refine yregion ?_
    refine yp pC ?_
    refine ynil ?_
    refine tnorm ?_
    refine yblock ?_
    refine yloop (σ := Nat) (fun j E S' => ∃ w : Int, Has E [(0, .int .i64 most), (1, .slice (some ⟨b, o, none⟩) T.length ct0), (5, .pointer (some ⟨tb, 0, none⟩)), (6, .pointer (some ⟨p27, 0, none⟩)), (7, .int .i64 i), (16, .int .i64 (((isort byAt L).head?.map (·.2)).getD 0)), (17, .bool (isort byAt L).head?.isSome), (18, .int .i64 w), (19, .int .i64 j)] ∧ j ≤ L.length ∧ (j = 0 → w = 0) ∧ (0 < j → (∃ x ∈ L.take j, x.2 = w) ∧ ∀ x ∈ L.take j, w ≤ x.2) ∧ Junk S' (tseg tb (max most 0) db :: dseg db u :: H :: mseg p27 (.slice av L.length cv) :: G :: S)) (fun j => L.length - j) 0 ⟨0, ⟨rfl, rfl, rfl, rfl, rfl, rfl, rfl, rfl, rfl, trivial⟩, Nat.zero_le _, fun _ => rfl, fun h => absurd h (Nat.lt_irrefl 0), .of⟩ fun j E S' ⟨w, hE, hj, hw0, hw1, hJ⟩ => ?_
    obtain ⟨E0, e0⟩ := has_puts hE; subst e0; clear hE
    refine yforget hJ ?_
    refine yseq ?_
    refine yseq ?_
    refine yregion ?_
    refine yp (pI rfl) ?_
    refine yp (pP rfl) ?_
    refine yp (pNilc rfl) ?_
    refine yp (pFadr rfl) ?_
    refine ycons (yload1 rfl rfl ?_)
    refine yp (pLen rfl) ?_
    refine yp (pLt rfl rfl) ?_
    refine ynil ?_
    refine tnorm ?_
    refine ycondD rfl (fun h => ?_) (fun h => ?_)
    · have hlt2 : j < L.length := by omega
      have htk : L.take (j + 1) = L.take j ++ [L[j]] := by rw [List.take_add_one, List.getElem?_eq_getElem hlt2]; rfl
      have hload : ∀ (sp : List (Int × Int)) , ((cells (L ++ sp)).toArray.toList)[0 + j * 2 + 1]? = some (.int .i64 L[j].2) := fun sp => (row_cell (kk := 2) (j := 1) hlt2 rfl (by omega)).trans rfl
      obtain ⟨b2, sp2, fz2, hz2, rfl, _, rfl, rfl⟩ := hM.at' (by intro h; simp [h] at hlt2)
      generalize L[j] = z at htk hload
      refine yskip ?_
      refine tnorm ?_
      refine yseq ?_
      refine yblock ?_
      refine yseq ?_
      refine yregion ?_
      refine yp (pI rfl) ?_
      refine yp (pEq rfl rfl) ?_
      refine yp (pB rfl) ?_
      by_cases hj0 : (j : Int) = 0
      · rw [decide_eq_true hj0]
        refine ygF rfl ?_
        refine ygF rfl ?_
        refine ygF rfl ?_
        refine ygF rfl ?_
        refine ygF rfl ?_
        refine ygF rfl ?_
        refine ygF rfl ?_
        refine ygF rfl ?_
        refine ygF rfl ?_
        refine ygF rfl ?_
        refine yp (pPickT rfl rfl) ?_
        refine ynil ?_
        refine tnorm ?_
        refine ycondT rfl ?_
        refine yregion ?_
        refine yp (pP rfl) ?_
        refine yp (pNilc rfl) ?_
        refine yp (pFadr rfl) ?_
        refine ycons (yload1 rfl rfl ?_)
        refine yp (pI rfl) ?_
        refine yp (pIxN rfl rfl (by omega)) ?_
        refine yp (pFadr rfl) ?_
        refine ycons (yload1 (v := .int .i64 z.2) rfl (hload sp2) ?_)
        refine yp (pI rfl) ?_
        refine ynil ?_
        refine bnorm ?_
        refine tnorm ?_
        refine yregion ?_
        refine yp (pI rfl) ?_
        refine yp (pInc rfl rfl (by omega)) ?_
        refine yp (pI rfl) ?_
        refine ynil ?_
        refine tnorm ?_
        have : j = 0 := by omega
        subst this
        refine ⟨0 + 1, ⟨z.2, ⟨rfl, rfl, rfl, rfl, rfl, rfl, rfl, rfl, rfl, trivial⟩, by omega, fun h => by omega, fun _ => ⟨⟨z, by rw [htk]; simp, rfl⟩, ?_⟩, .of⟩, by omega⟩
        intro x hx
        rw [htk] at hx
        simp at hx
        rw [hx]; exact Int.le_refl _
      · rw [decide_eq_false hj0]
        obtain ⟨⟨x0, hx0, hx1⟩, hmin⟩ := hw1 (by omega)
        refine ygT rfl ?_
        refine yop (pP rfl) ?_
        refine ygT rfl ?_
        refine yop (pNilc rfl) ?_
        refine ygT rfl ?_
        refine yop (pFadr rfl) ?_
        refine ygT rfl ?_
        refine (yload1 rfl rfl ?_)
        refine ygT rfl ?_
        refine yop (pI rfl) ?_
        refine ygT rfl ?_
        refine yop (pIxN rfl rfl (by omega)) ?_
        refine ygT rfl ?_
        refine yop (pFadr rfl) ?_
        refine ygT rfl ?_
        refine yload1 (v := .int .i64 z.2) rfl (hload sp2) ?_
        refine ygT rfl ?_
        refine yop (pI rfl) ?_
        refine ygT rfl ?_
        refine yop (pLt rfl rfl) ?_
        refine yp (pPickF rfl rfl) ?_
        refine ynil ?_
        refine tnorm ?_
        by_cases hzw : z.2 < w
        · rw [decide_eq_true hzw]
          refine ycondT rfl ?_
          refine yregion ?_
          refine yp (pP rfl) ?_
          refine yp (pNilc rfl) ?_
          refine yp (pFadr rfl) ?_
          refine ycons (yload1 rfl rfl ?_)
          refine yp (pI rfl) ?_
          refine yp (pIxN rfl rfl (by omega)) ?_
          refine yp (pFadr rfl) ?_
          refine ycons (yload1 (v := .int .i64 z.2) rfl (hload sp2) ?_)
          refine yp (pI rfl) ?_
          refine ynil ?_
          refine bnorm ?_
          refine tnorm ?_
          refine yregion ?_
          refine yp (pI rfl) ?_
          refine yp (pInc rfl rfl (by omega)) ?_
          refine yp (pI rfl) ?_
          refine ynil ?_
          refine tnorm ?_
          refine ⟨j + 1, ⟨z.2, ⟨rfl, rfl, rfl, rfl, rfl, rfl, rfl, rfl, rfl, trivial⟩, by omega, fun h => by omega, fun _ => ⟨⟨z, by rw [htk]; simp, rfl⟩, ?_⟩, .of⟩, by omega⟩
          intro x hx
          rw [htk] at hx
          rcases List.mem_append.1 hx with hx | hx
          · have := hmin x hx; omega
          · rw [List.mem_singleton.1 hx]; exact Int.le_refl _
        · rw [decide_eq_false hzw]
          refine ycondF rfl ?_
          refine yskip ?_
          refine bnorm ?_
          refine tnorm ?_
          refine yregion ?_
          refine yp (pI rfl) ?_
          refine yp (pInc rfl rfl (by omega)) ?_
          refine yp (pI rfl) ?_
          refine ynil ?_
          refine tnorm ?_
          refine ⟨j + 1, ⟨w, ⟨rfl, rfl, rfl, rfl, rfl, rfl, rfl, rfl, rfl, trivial⟩, by omega, fun h => by omega, fun _ => ⟨⟨x0, by rw [htk]; exact List.mem_append.2 (.inl hx0), hx1⟩, ?_⟩, .of⟩, by omega⟩
          intro x hx
          rw [htk] at hx
          rcases List.mem_append.1 hx with hx | hx
          · exact hmin x hx
          · rw [List.mem_singleton.1 hx]; omega
    · have hfull : L.take j = L := List.take_of_length_le (by omega)
      rw [hfull] at hw1
      obtain ⟨hn1, hn2⟩ := next_least (L := L) (w := w) (fun h => hw0 (by rw [h] at hj; simpa using hj)) (fun h => hw1 (by have := List.length_pos_iff.2 h; omega))
      rw [hn1, hn2]
      refine yexit ?_
      refine texit ?_
      refine texit ?_
      refine bexit ?_
      refine tnorm ?_
      refine yseq ?_
      refine ydraw ?_
      refine ytq (pB rfl) ?_
      refine ytq (pP rfl) ?_
      refine ytq (pNilc rfl) ?_
      refine ytq (pFadr rfl) ?_
      refine ytl1 rfl rfl ?_
      refine ytq (pLen rfl) ?_
      refine ytq (pGt rfl rfl) ?_
      refine ytq (pNeB rfl rfl) ?_
      refine ytq (pB rfl) ?_
      rw [show (!(decide (0 < (L.length : Int)) == decide (0 < (L.length : Int)))) = false from by simp]
      refine ytgT rfl ?_
      refine ytq (pI rfl) ?_
      refine ytgT rfl ?_
      refine ytq (pI rfl) ?_
      refine ytgT rfl ?_
      refine ytq (pNe rfl rfl) ?_
      refine ytq (pPickF rfl rfl) ?_
      refine ytq (pB rfl) ?_
      rw [decide_eq_true (rfl : w = w)]
      refine ytgT rfl ?_
      refine ytq (pP rfl) ?_
      refine ytgT rfl ?_
      refine ytq (pP rfl) ?_
      refine ytgT rfl ?_
      refine ytq (pNilc rfl) ?_
      refine ytgT rfl ?_
      refine ytq (pFadr rfl) ?_
      refine ytgT rfl ?_
      refine ytl1 rfl rfl ?_
      refine ytgT rfl ?_
      refine ytq (pLen rfl) ?_
      refine ytaltT rfl ?_ ytno
      refine ytaltC (ycall (c25 (tb := tb) (db := db) (most := max most 0) hD) rfl rfl fun r S' h => ?_) ytno
      obtain ⟨rfl, rfl⟩ := h
      refine ⟨by simp, ?_⟩
      refine ytgT rfl ?_
      refine ytq (pNe rfl rfl) ?_
      refine ytq (pPickF rfl rfl) ?_
      refine ytdone ?_
      refine tnorm ?_
      rw [decide_eq_true (rfl : (L.length : Int) = L.length)]
      refine ycondF rfl ?_
      refine yskip ?_
      refine bnorm ?_
      refine tnorm ?_
      refine yregion ?_
      refine yp (pI rfl) ?_
      refine yp (pInc rfl rfl (by omega)) ?_
      refine yp (pI rfl) ?_
      refine ynil ?_
      refine tnorm ?_
      exact ⟨i + 1, ⟨⟨rfl, rfl, rfl, rfl, rfl, trivial⟩, by omega, L, u, H, _, G, hl, hin, hD, hM, .of⟩, by omega⟩
  · refine yexit ?_
    refine texit ?_
    refine texit ?_
    refine bexit ?_
    refine tnorm ?_
    refine yseq ?_
    refine yregion ?_
    refine ycons (ycall c14 rfl rfl fun r S' h => ?_)
    obtain ⟨rfl, rfl⟩ := h
    refine yp (pB rfl) ?_
    refine ynil ?_
    refine tnorm ?_
    refine yret ?_
    exact yfin (rB rfl) ⟨_, .of, rfl, rfl⟩
end Go.Proofs.Ytmgiamagocefcaa
