/- PackForms: the walk. -/
import Derived.Test.YtejmbmenbailmaaFormsP
namespace Go.Proofs.Ytejmbmenbailmaa
open Go.Xs
open Enc (enc)

theorem zrep (n : Nat) : ((List.replicate n [Value.int .u8 0]).flatten) = cells (List.replicate n (0 : UInt8)) := by rw [cells_replicate]; rfl
set_option maxRecDepth 10000 in
set_option maxHeartbeats 4000000 in
theorem c4 {S : Segs} (k n : Int) : Tri Try.prog 4 #[.int .i64 k, .int .i64 n] S (fun r S' => r = .bool true ∧ S' = S) := by
  refine Tri.forget (ycallee Try.fx4 (Nat.le_of_ble_eq_true rfl) ?_)
  unfold Try.x4
  refine yseq (yregion (yp pC (ynil (tnorm (yseq (yseq (yregion (yp (pI rfl) (yp (pLt rfl rfl) (yp (pB rfl) ?_))))))))))
  by_cases h1 : n < 0
  · rw [decide_eq_true h1]
    refine ygF rfl (ygF rfl (yp (pPickT rfl rfl) (ynil (tnorm (ycondT rfl (yseq (yregion ?_)))))))
    refine ycons (ycall awake8 rfl rfl fun r S' h => ?_)
    obtain ⟨rfl, rfl⟩ := h
    refine yp (pB rfl) (ynil (tnorm (yret (tret ?_))))
    exact yfin (rB rfl) ⟨_, .of, rfl, rfl⟩
  rw [decide_eq_false h1]
  refine ygT rfl (yop (pI rfl) (ygT rfl (yop (pGt rfl rfl) (yp (pPickF rfl rfl) (ynil (tnorm ?_))))))
  by_cases h2 : 40 < n
  · rw [decide_eq_true h2]
    refine ycondT rfl (yseq (yregion ?_))
    refine ycons (ycall awake8 rfl rfl fun r S' h => ?_)
    obtain ⟨rfl, rfl⟩ := h
    refine yp (pB rfl) (ynil (tnorm (yret (tret ?_))))
    exact yfin (rB rfl) ⟨_, .of, rfl, rfl⟩
  rw [decide_eq_false h2]
  obtain ⟨m, rfl⟩ : ∃ m : Nat, n = m := ⟨n.toNat, by omega⟩
  have hm : m ≤ 40 := by omega
  refine ycondF rfl (yskip (tnorm (yseq (yregion ?_))))
  refine ycons (ycall (lwFresh (n := 1024) (by decide) rfl) rfl rfl fun r S' h => ?_)
  obtain ⟨ab, tb, T, H, rfl, hT, hA, rfl⟩ := h
  refine yp (pU rfl) (yp (pExt rfl rfl) (yp (pExt rfl rfl) (yp (pExt rfl rfl) (yp (pP rfl) (yp (pP rfl) (yp (pB rfl) (ynil (tnorm (yseq (yseq (yregion (yp (pB rfl) (yp (pNot rfl) (ynil (tnorm (ycondF rfl (yskip (tnorm (yseq (yregion ?_))))))))))))))))))))
  refine ycons (ycall (alkA [1, 97, 0] 7) rfl rfl fun r S' h => ?_)
  obtain ⟨d, v, HS, hd, rfl, hR, rfl⟩ := h
  have hR0 : Slc 34 v [(⟨na, 1, 1, 0, d⟩ : RR)] HS := hR
  clear hR
  obtain ⟨va, vc, rfl⟩ := hR0.isSlice
  have hlen1 : ([(⟨na, 1, 1, 0, d⟩ : RR)]).length = 1 := rfl
  rw [hlen1] at hR0 ⊢
  have hR1 := hR0
  obtain ⟨b, sp, fz, hz, rfl, _, hc, rfl⟩ := hR0.at' (by simp)
  show YL _ _ _ _ _ (putE _ (.agg #[sv na, .int .i64 1, .slice (some ⟨b, 0, none⟩) 1 vc, .int .i64 0, sv [0]]) _) _
  refine ycons (yalloc fun p8 => ?_)
  refine ycons (ystAll (c' := [sv na, .int .i64 1, .slice (some ⟨b, 0, none⟩) 1 vc, .int .i64 0, sv [0]]) rfl rfl rfl rfl rfl ?_)
  refine ynil (tnorm (yseq (yregion (yp pC (ynil (tnorm ?_))))))
  refine ycut (fun E S' => ∃ (fn fz : Bs) (ft fk : Int) (fl : List RR) (rv : Value) (HR : List Chunk) (w : Int), FmOk ⟨fn, ft, fk, fz, fl⟩ w ∧ Has E [(5, .pointer (some ⟨ab, 0, none⟩)), (6, .pointer (some ⟨tb, 0, none⟩)), (8, .pointer (some ⟨p8, 0, none⟩)), (9, .int .i64 w)] ∧ Slc 34 rv fl HR ∧ Junk S' (HR :: [(p8, .cells #[sv fn, .int .i64 ft, rv, .int .i64 fk, sv fz] 32)] :: T :: H :: S)) ?_ ?_
  · have hr := round_lt k 8 (by decide)
    have hset : ∀ (y : RR), Slc 34 (.slice (some ⟨b, 0, none⟩) 1 vc) [y] [(b, .cells (cells (([(⟨na, 1, 1, 0, d⟩ : RR)] ++ sp).set 0 y)).toArray 34 fz)] := fun y => Slc.setAt (ty := 34) (L := [(⟨na, 1, 1, 0, d⟩ : RR)]) (sp := sp) (i := 0) (y := y) hz (by simp) hc
    refine yseq (yregion (yp (pI rfl) ?_))
    refine ycons (ycall (cRound k 8 (by decide)) rfl rfl fun r' S' h => ?_)
    obtain ⟨rfl, rfl⟩ := h
    refine ynil (tnorm (yblock (yseq (yregion (yp (pEq rfl rfl) (yp (pB rfl) (ynil (tnorm ?_))))))))
    by_cases r0 : round k 8 = 0
    · rw [decide_eq_true r0]
      refine ycondT rfl (yregion (yp (pFadr rfl) ?_))
      refine ycons (yst5_2 rfl rfl (scS rfl) ?_)
      refine ynil (bnorm (tnorm ?_))
      exact ⟨_, _, _, _, _, _, [], _, fm0, ⟨rfl, rfl, rfl, rfl, trivial⟩, .nil, .of⟩
    rw [decide_eq_false r0]
    refine ycondF rfl (yseq (yregion (yp (pEq rfl rfl) (yp (pB rfl) (ynil (tnorm ?_))))))
    by_cases r1 : round k 8 = 1
    · rw [decide_eq_true r1]
      refine ycondT rfl (yregion (yp (pFadr rfl) ?_))
      refine ycons (yst5_3 rfl rfl (scI rfl) ?_)
      refine ynil (bnorm (tnorm ?_))
      exact ⟨_, _, _, _, _, _, _, _, fm1 hd, ⟨rfl, rfl, rfl, rfl, trivial⟩, hR1, .of⟩
    rw [decide_eq_false r1]
    refine ycondF rfl (yseq (yregion (yp (pEq rfl rfl) (yp (pB rfl) (ynil (tnorm ?_))))))
    by_cases r2 : round k 8 = 2
    · rw [decide_eq_true r2]
      refine ycondT rfl (yregion (yp (pFadr rfl) ?_))
      refine ycons (yst5_4 rfl rfl (scT rfl) ?_)
      refine ynil (bnorm (tnorm ?_))
      exact ⟨_, _, _, _, _, _, _, _, fm2 hd, ⟨rfl, rfl, rfl, rfl, trivial⟩, hR1, .of⟩
    rw [decide_eq_false r2]
    refine ycondF rfl (yseq (yregion (yp (pEq rfl rfl) (yp (pB rfl) (ynil (tnorm ?_))))))
    by_cases r3 : round k 8 = 3
    · rw [decide_eq_true r3]
      refine ycondT rfl (yregion (yp (pFadr rfl) (yp (pFadr rfl) ?_)))
      refine ycons (yst5_1 rfl rfl (scI rfl) ?_)
      refine ynil (bnorm (tnorm ?_))
      exact ⟨_, _, _, _, _, _, _, _, fm3 hd, ⟨rfl, rfl, rfl, rfl, trivial⟩, hR1, .of⟩
    rw [decide_eq_false r3]
    refine ycondF rfl (yseq (yregion (yp (pEq rfl rfl) (yp (pB rfl) (ynil (tnorm ?_))))))
    by_cases r4 : round k 8 = 4
    · rw [decide_eq_true r4]
      refine ycondT rfl (yregion (yp (pFadr rfl) ?_))
      refine ycons (yload1 rfl rfl ?_)
      refine yp (pIxN (k := 0) rfl rfl (by decide)) (yp (pFadr rfl) ?_)
      refine ycons (ystoreC (M := [(⟨na, 1, 1, 0, d⟩ : RR)] ++ sp) (i := 0) (j := 2) (y := (⟨na, 1, 3, 0, d⟩ : RR)) (x := .int .i64 3) rfl (by simp) rfl (by decide) (scI rfl) rfl hz ?_)
      refine ynil (bnorm (tnorm ?_))
      exact ⟨_, _, _, _, _, _, _, _, fm4 hd, ⟨rfl, rfl, rfl, rfl, trivial⟩, hset _, .of⟩
    rw [decide_eq_false r4]
    refine ycondF rfl (yseq (yregion (yp (pEq rfl rfl) (yp (pB rfl) (ynil (tnorm ?_))))))
    by_cases r5 : round k 8 = 5
    · rw [decide_eq_true r5]
      refine ycondT rfl (yregion (yp (pFadr rfl) ?_))
      refine ycons (yload1 rfl rfl ?_)
      refine yp (pIxN (k := 0) rfl rfl (by decide)) (yp (pFadr rfl) ?_)
      refine ycons (ystoreC (M := [(⟨na, 1, 1, 0, d⟩ : RR)] ++ sp) (i := 0) (j := 0) (y := (⟨[1, 98, 0], 1, 1, 0, d⟩ : RR)) (x := sv [1, 98, 0]) rfl (by simp) rfl (by decide) (scT rfl) rfl hz ?_)
      refine ynil (bnorm (tnorm ?_))
      exact ⟨_, _, _, _, _, _, _, _, fm5 hd, ⟨rfl, rfl, rfl, rfl, trivial⟩, hset _, .of⟩
    rw [decide_eq_false r5]
    refine ycondF rfl (yseq (yregion (yp (pEq rfl rfl) (yp (pB rfl) (ynil (tnorm ?_))))))
    by_cases r6 : round k 8 = 6
    · rw [decide_eq_true r6]
      refine ycondT rfl (yseq (yseq (yregion (yp pC (ynil (tnorm (yblock ?_)))))))
      refine yloop (σ := Nat) (fun i E S' => ∃ (rv : Value) (HR : List Chunk), Has E [(1, .int .i64 (m : Int)), (5, .pointer (some ⟨ab, 0, none⟩)), (6, .pointer (some ⟨tb, 0, none⟩)), (8, .pointer (some ⟨p8, 0, none⟩)), (9, .int .i64 1), (10, .int .i64 (i : Int))] ∧ i ≤ m ∧ Slc 34 rv (List.replicate (1 + i) (⟨na, 1, 1, 0, d⟩ : RR)) HR ∧ Junk S' (HR :: [(p8, .cells #[sv na, .int .i64 1, rv, .int .i64 0, sv [0]] 32)] :: T :: H :: S)) (fun i => m - i) 0
        ⟨_, _, ⟨rfl, rfl, rfl, rfl, rfl, rfl, trivial⟩, Nat.zero_le _, hR1, .of⟩ fun i E S' ⟨rv, HR, hE, hi, hRi, hJ⟩ => ?_
      have hll : (List.replicate (1 + i) (⟨na, 1, 1, 0, d⟩ : RR)).length = 1 + i := List.length_replicate
      have hl0 : 0 < (List.replicate (1 + i) (⟨na, 1, 1, 0, d⟩ : RR)).length := by omega
      have hg0 : (List.replicate (1 + i) (⟨na, 1, 1, 0, d⟩ : RR))[0] = ⟨na, 1, 1, 0, d⟩ := by simp
      have hap : List.replicate (1 + (i + 1)) (⟨na, 1, 1, 0, d⟩ : RR) = List.replicate (1 + i) (⟨na, 1, 1, 0, d⟩ : RR) ++ [⟨na, 1, 1, 0, d⟩] := by rw [show 1 + (i + 1) = (1 + i) + 1 from by omega, List.replicate_succ']
      generalize hM : List.replicate (1 + i) (⟨na, 1, 1, 0, d⟩ : RR) = M at hll hl0 hg0 hap hRi
      obtain ⟨ra, rc, rfl⟩ := hRi.isSlice
      obtain ⟨b3, sp3, fz3, hz3, rfl, _, hc3, rfl⟩ := hRi.at' (by intro h; simp [h] at hl0)
      obtain ⟨E0, e0⟩ := has_puts hE; subst e0; clear hE
      refine yforget hJ (yseq (yseq (yregion (yp (pI rfl) (yp (pI rfl) (yp (pLt rfl rfl) (ynil (tnorm ?_))))))))
      refine ycondD rfl (fun hlt => ?_) (fun hlt => ?_)
      · refine yskip (tnorm (yseq (yblock (ydraw (ytq (pFadr rfl) (ytl1 rfl rfl (ytq (pFadr rfl) (ytl1 rfl rfl (ytq (pIxN rfl rfl (by omega)) (ytlN (l := enc (⟨na, 1, 1, 0, d⟩ : RR)) rfl ((row_elem hl0 rfl).trans (by rw [hg0])) rfl ?_))))))))))
        refine ytaltC (ybsl1 (⟨na, 1, 1, 0, d⟩ : RR) rfl rfl (by decide) (by decide) rfl fun p70 => ⟨fun _ hs => List.mem_cons_of_mem _ hs, ?_⟩) ytno
        refine ytalt (yapp (Y := [(⟨na, 1, 1, 0, d⟩ : RR)]) rfl rfl hRi (.lit (by repeat (first | exact List.mem_cons_self | apply List.mem_cons_of_mem)) rfl) rfl (⟨[], 0, 0, 0, []⟩ : RR) rfl (by rw [List.length_singleton]; omega) (by rw [List.length_singleton]; omega) fun v7 H7 hL7 => ?_) ytno
        obtain ⟨l7a, l7c, rfl⟩ := hL7.isSlice
        refine ytq (pFadr rfl) ?_
        refine ytalt (yst5_2 rfl rfl (scS rfl) ?_) ytno
        refine ytdone (bnorm (tnorm (yregion (yp (pI rfl) (yp (pInc rfl rfl (by omega)) (yp (pI rfl) (ynil (tnorm ?_))))))))
        exact ⟨i + 1, ⟨.slice l7a (M ++ [(⟨na, 1, 1, 0, d⟩ : RR)]).length l7c, H7, ⟨rfl, rfl, rfl, rfl, rfl, rfl, trivial⟩, by omega, by rw [hap]; exact hL7, .of⟩, by omega⟩
      · obtain rfl : i = m := by omega
        have hf6 := fm6 hd hm
        rw [hM] at hf6
        refine yexit (texit (texit (bexit (tnorm (yseq (yregion (yp (pI rfl) (yp (pLt rfl rfl) (ynil (tnorm ?_))))))))))
        by_cases h32 : i < 32
        · rw [decide_eq_true (show (i : Int) < 32 from by omega)]
          rw [if_pos h32] at hf6
          refine ycondT rfl (yregion (yp pC (ynil (bnorm (tnorm ?_)))))
          exact ⟨_, _, _, _, _, _, _, _, hf6, ⟨rfl, rfl, rfl, rfl, trivial⟩, hRi, .of⟩
        · rw [decide_eq_false (show ¬ (i : Int) < 32 from by omega)]
          rw [if_neg h32] at hf6
          refine ycondF rfl (yskip (bnorm (tnorm ?_)))
          exact ⟨_, _, _, _, _, _, _, _, hf6, ⟨rfl, rfl, rfl, rfl, trivial⟩, hRi, .of⟩
    rw [decide_eq_false r6]
    have r7 : round k 8 = 7 := by omega
    refine ycondF rfl (yseq (yregion (yp (pEq rfl rfl) (yp (pB rfl) (ynil (tnorm ?_))))))
    rw [decide_eq_true r7]
    have hf7 := fm7 hm
    refine ycondT rfl (yseq (yregion (yp (pFadr rfl) (yp (pFadr rfl) ?_))))
    refine ycons (yst5_1 rfl rfl (scI rfl) ?_)
    refine ynil (tnorm (yseq (yregion (yp (pFadr rfl) ?_))))
    refine ycons (yload1 rfl rfl ?_)
    refine yp (pIxN (k := 0) rfl rfl (by decide)) (yp (pFadr rfl) ?_)
    refine ycons (ystoreC (M := [(⟨na, 1, 1, 0, d⟩ : RR)] ++ sp) (i := 0) (j := 1) (y := (⟨na, 99, 1, 0, d⟩ : RR)) (x := .int .i64 99) rfl (by simp) rfl (by decide) (scI rfl) rfl hz ?_)
    refine ynil (tnorm (yseq (ydrawR (R := [[(p8, .cells #[sv na, .int .i64 99, .slice (some ⟨b, 0, none⟩) 1 vc, .int .i64 0, sv [0]] 32)]]) (by simp) ?_)))
    have hz1 : FzOk fz (cells ([(⟨na, 99, 1, 0, d⟩ : RR)] ++ sp)).length := by
      rw [cells_length, List.length_append] at hz ⊢; exact hz
    have hset2 : ∀ (y : RR), Slc 34 (.slice (some ⟨b, 0, none⟩) 1 vc) [y] [(b, .cells (cells ((([(⟨na, 1, 1, 0, d⟩ : RR)] ++ sp).set 0 ⟨na, 99, 1, 0, d⟩).set 0 y)).toArray 34 fz)] := fun y => Slc.setAt (ty := 34) (L := [(⟨na, 99, 1, 0, d⟩ : RR)]) (sp := sp) (i := 0) (y := y) hz1 (by simp) hc
    refine ytq (pFadr rfl) (ytl1 rfl rfl (ytq (pI rfl) (ytq (pMulN (j := 25) (k := m) rfl rfl (by omega)) ?_)))
    refine ytaltC (ymksl (m := 25 * m) (cap := 25 * m) rfl rfl (Nat.le_refl _) rfl (by omega) (by omega) fun pb => ⟨fun x hx => List.mem_cons_of_mem _ (by rw [List.mem_singleton.1 hx]; simp), ?_⟩) ytno
    rw [zrep]
    refine ytaltC (yb2s (Y := List.replicate (25 * m) (0 : UInt8)) rfl (.lit (by repeat (first | exact List.mem_cons_self | apply List.mem_cons_of_mem)) (by rw [List.length_replicate])) ⟨fun x hx => List.mem_cons_of_mem _ (by rw [List.mem_singleton.1 hx]; simp), ?_⟩) ytno
    refine ytq (pIxN (k := 0) rfl rfl (by decide)) (ytq (pFadr rfl) ?_)
    refine ytalt (ystoreC (M := ([(⟨na, 1, 1, 0, d⟩ : RR)] ++ sp).set 0 ⟨na, 99, 1, 0, d⟩) (i := 0) (j := 4) (y := (⟨na, 99, 1, 0, List.replicate (25 * m) 0⟩ : RR)) (x := sv (List.replicate (25 * m) 0)) rfl (by simp) rfl (by decide) (scT rfl) rfl hz1 ?_) ytno
    refine ytdone (tnorm (yseq (yregion (yp (pI rfl) (yp (pMulN (j := 25) (k := m) rfl rfl (by omega)) (yp (pLe rfl rfl) (ynil (tnorm ?_))))))))
    rw [decide_eq_true (show ((25 * m : Nat) : Int) ≤ 1000 from by omega)]
    refine ycondT rfl (yseq (yregion (yp pC (ynil (tnorm (yseq (yregion (yp (pI rfl) (yp (pMulN (j := 25) (k := m) rfl rfl (by omega)) (yp (pAdd rfl rfl (by omega)) ?_))))))))))
    refine ycons (ycall (arCost ((18 + 25 * m : Nat) : Int)) rfl rfl fun r' S' h => ?_)
    obtain ⟨rfl, rfl⟩ := h
    rw [show ((18 + 25 * m : Nat) : Int) = 18 + 25 * (m : Int) from by omega]
    have hcb : 0 ≤ cost (18 + 25 * (m : Int)) ∧ cost (18 + 25 * (m : Int)) ≤ 8192 := by
      have := costN_bd (18 + 25 * (m : Int)).toNat
      unfold cost
      split <;> omega
    refine yp (pAdd rfl rfl (by omega)) (yp (pGt rfl rfl) (ynil (tnorm ?_)))
    by_cases hbig : 1024 < cost (18 + 25 * (m : Int)) + 64
    · rw [decide_eq_true hbig]
      rw [if_pos hbig] at hf7
      refine ycondT rfl (yregion (yp pC (ynil (bnorm (tnorm ?_)))))
      exact ⟨_, _, _, _, _, _, _, _, hf7, ⟨rfl, rfl, rfl, rfl, trivial⟩, hset2 _, .of⟩
    · rw [decide_eq_false hbig]
      rw [if_neg hbig] at hf7
      refine ycondF rfl (yskip (bnorm (tnorm ?_)))
      exact ⟨_, _, _, _, _, _, _, _, hf7, ⟨rfl, rfl, rfl, rfl, trivial⟩, hset2 _, .of⟩
  intro E S' ⟨fn, fz', ft, fk, fl, rv, HR, w, ⟨hok, hfm⟩, hE, hR', hJ⟩
  obtain ⟨ra, rc, rfl⟩ := hR'.isSlice
  have hsrc := hR'.src (S := [HR]) (by simp)
  have hrs : (⟨fn, ft, fk, fz', fl⟩ : St).rrs = fl := rfl
  obtain ⟨E0, e0⟩ := has_puts hE; subst e0; clear hE
  refine yforget hJ (yseq (yregion (yp (pP rfl) (yp (pP rfl) ?_))))
  refine ycons (yloadN (l := [sv fn, .int .i64 ft, .slice ra fl.length rc, .int .i64 fk, sv fz']) rfl rfl rfl ?_)
  refine ycons (ycall (pkPutS (S := [HR]) (s := ⟨fn, ft, fk, fz', fl⟩) hT hA Inn.nil .nil (List.nodup_nil) (fun e he => by simp at he) hok hsrc) rfl rfl fun r S' h => ?_)
  have hZE : szOf (⟨fn, ft, fk, fz', fl⟩ : St) = szOf ⟨fn, ft, fk, fz', fl⟩ := rfl
  rcases h with ⟨hne, rfl, rfl⟩ | ⟨h0, hnf, T2, H2, D2, rfl, hT2, hA2, hI2, rfl⟩ | ⟨h0, hf, T2, H2, D2, rfl, hT2, hA2, hI2, hB2, hs2, rfl⟩
  · obtain ⟨rfl, hE1⟩ : w = 1 ∧ errS ⟨fn, ft, fk, fz', fl⟩ = 1 := by
      rcases hfm with h | ⟨h, _⟩
      · exact h
      · exact absurd h hne
    rw [hE1]
    refine yp (pU rfl) (yp (pExt rfl rfl) (yp (pExt rfl rfl) (yp (pI rfl) (yp (pI rfl) (ynil (tnorm (yseq (yregion ?_))))))))
    refine ycons (yloadN (l := [sv fn, .int .i64 ft, .slice ra fl.length rc, .int .i64 fk, sv fz']) rfl rfl rfl ?_)
    refine ycons (ycall (pkSize (S := [HR]) (s := ⟨fn, ft, fk, fz', fl⟩) hok hsrc) rfl rfl fun r S' h => ?_)
    obtain ⟨rfl, rfl⟩ := h
    rw [hE1]
    refine yp (pU rfl) (yp (pExt rfl rfl) (yp (pExt rfl rfl) (yp (pI rfl) (yp (pI rfl) (ynil (tnorm (yseq (yseq (yregion (yp (pI rfl) (yp (pI rfl) (yp (pNe rfl rfl) (yp (pB rfl) (ygT rfl (yop (pI rfl) (ygT rfl (yop (pEq rfl rfl) (ygT rfl (yop (pI rfl) (ygT rfl (yop (pNe rfl rfl) (ygT rfl (yop (pNeB rfl rfl) (yp (pPickF rfl rfl) (ynil (tnorm (ycondF rfl (yskip (tnorm (yseq (yregion (yp (pI rfl) (yp (pEq rfl rfl) (yp (pP rfl) ?_))))))))))))))))))))))))))))))))))
    refine ycons (ycall (arUsedA hA) rfl rfl fun r S' h => ?_)
    obtain ⟨rfl, rfl⟩ := h
    rw [show usedD [] = 0 from rfl]
    refine yp (pGt rfl rfl) (yp (pEqB rfl rfl) (yp (pB rfl) (ygT rfl (yop (pI rfl) (ygT rfl (yop (pEq rfl rfl) (ygT rfl (yop (pP rfl) (ygT rfl ?_)))))))))
    refine ycall (tbCount hT) rfl rfl fun r S' h => ?_
    obtain ⟨rfl, rfl⟩ := h
    refine ygT rfl (yop (pGt rfl rfl) (ygT rfl (yop (pEqB rfl rfl) (yp (pPickT rfl rfl) (yp (pB rfl) (ygT rfl ?_))))))
    refine ycall awake8 rfl rfl fun r S' h => ?_
    obtain ⟨rfl, rfl⟩ := h
    refine yp (pPickT rfl rfl) (yp (pB rfl) (ynil (tnorm (yret ?_))))
    exact yfin (rB rfl) ⟨_, .of, rfl, rfl⟩
  · obtain rfl : w = 4 := by
      rcases hfm with ⟨_, h⟩ | ⟨_, ⟨_, h⟩ | ⟨h, _⟩⟩
      · rw [h0] at h; cases h
      · exact absurd h hnf
      · exact h
    refine yp (pU rfl) (yp (pExt rfl rfl) (yp (pExt rfl rfl) (yp (pI rfl) (yp (pI rfl) (ynil (tnorm (yseq (yregion ?_))))))))
    refine ycons (yloadN (l := [sv fn, .int .i64 ft, .slice ra fl.length rc, .int .i64 fk, sv fz']) rfl rfl rfl ?_)
    refine ycons (ycall (pkSize (S := [HR]) (s := ⟨fn, ft, fk, fz', fl⟩) hok hsrc) rfl rfl fun r S' h => ?_)
    obtain ⟨rfl, rfl⟩ := h
    rw [h0]
    refine yp (pU rfl) (yp (pExt rfl rfl) (yp (pExt rfl rfl) (yp (pI rfl) (yp (pI rfl) (ynil (tnorm (yseq (yseq (yregion (yp (pI rfl) (yp (pI rfl) (yp (pNe rfl rfl) (yp (pB rfl) (ygT rfl (yop (pI rfl) (ygT rfl (yop (pEq rfl rfl) (ygT rfl (yop (pI rfl) (ygT rfl (yop (pNe rfl rfl) (ygT rfl (yop (pNeB rfl rfl) (yp (pPickF rfl rfl) (ynil (tnorm (ycondF rfl (yskip (tnorm (yseq (yregion (yp (pI rfl) (yp (pEq rfl rfl) (yp (pP rfl) ?_))))))))))))))))))))))))))))))))))
    refine ycons (ycall (arUsedA hA2) rfl rfl fun r S' h => ?_)
    obtain ⟨rfl, rfl⟩ := h
    rw [show usedD D2 = 0 from hI2.empty]
    refine yp (pGt rfl rfl) (yp (pEqB rfl rfl) (yp (pB rfl) (ygT rfl (yop (pI rfl) (ygT rfl (yop (pEq rfl rfl) (ygT rfl (yop (pP rfl) (ygT rfl ?_)))))))))
    refine ycall (tbCount hT2) rfl rfl fun r S' h => ?_
    obtain ⟨rfl, rfl⟩ := h
    refine ygT rfl (yop (pGt rfl rfl) (ygT rfl (yop (pEqB rfl rfl) (yp (pPickT rfl rfl) (yp (pB rfl) (ygT rfl ?_))))))
    refine ycall awake8 rfl rfl fun r S' h => ?_
    obtain ⟨rfl, rfl⟩ := h
    refine yp (pPickT rfl rfl) (yp (pB rfl) (ynil (tnorm (yret ?_))))
    exact yfin (rB rfl) ⟨_, .of, rfl, rfl⟩
  · obtain rfl : w = 0 := by
      rcases hfm with ⟨_, h⟩ | ⟨_, ⟨h, _⟩ | ⟨_, h⟩⟩
      · rw [h0] at h; cases h
      · exact h
      · exact absurd hf h
    have hu := put_used h0 (Nat.zero_le _) hf hs2
    have hC : 16 ≤ costS [] ⟨fn, ft, fk, fz', fl⟩ := by
      obtain ⟨hm, h4096⟩ := errS_may h0
      have h16 := sizS_ge hm
      have h1 := costN_ge (sizS ⟨fn, ft, fk, fz', fl⟩).toNat
      unfold costS
      rw [if_pos h0]
      unfold cost
      rw [if_neg (by omega)]
      omega
    have hpos : (0 : Int) < ((usedD D2 : Nat) : Int) := by
      rw [hu]
      show (0 : Int) < 0 + _
      omega
    have hcnt : 0 < (ads 1024 [] [] (nmsS ⟨fn, ft, fk, fz', fl⟩)).L.length := by
      have he := ((fits_iff h0 (Nat.zero_le _) (by obtain ⟨hm, h4⟩ := errS_may h0; have := sizS_ge hm; omega) (mayS_vld (errS_may h0).1)).1 hf).1
      have hal := ads_al he
      cases hids : (ads 1024 [] [] (nmsS ⟨fn, ft, fk, fz', fl⟩)).ids with
      | nil => rw [hids] at hal; have := hal.len; unfold nmsS at this; simp at this
      | cons i l =>
        obtain ⟨e, he2, _⟩ := hal.mem (i := i) (by rw [hids]; simp)
        exact List.length_pos_of_mem he2
    generalize ads 1024 [] [] (nmsS ⟨fn, ft, fk, fz', fl⟩) = P at *
    refine yp (pU rfl) (yp (pExt rfl rfl) (yp (pExt rfl rfl) (yp (pI rfl) (yp (pI rfl) (ynil (tnorm (yseq (yregion ?_))))))))
    refine ycons (yloadN (l := [sv fn, .int .i64 ft, .slice ra fl.length rc, .int .i64 fk, sv fz']) rfl rfl rfl ?_)
    refine ycons (ycall (pkSize (S := [HR]) (s := ⟨fn, ft, fk, fz', fl⟩) hok hsrc) rfl rfl fun r S' h => ?_)
    obtain ⟨rfl, rfl⟩ := h
    rw [h0]
    refine yp (pU rfl) (yp (pExt rfl rfl) (yp (pExt rfl rfl) (yp (pI rfl) (yp (pI rfl) (ynil (tnorm (yseq (yseq (yregion (yp (pI rfl) (yp (pI rfl) (yp (pNe rfl rfl) (yp (pB rfl) (ygT rfl (yop (pI rfl) (ygT rfl (yop (pEq rfl rfl) (ygT rfl (yop (pI rfl) (ygT rfl (yop (pNe rfl rfl) (ygT rfl (yop (pNeB rfl rfl) (yp (pPickF rfl rfl) (ynil (tnorm (ycondF rfl (yskip (tnorm (yseq (yregion (yp (pI rfl) (yp (pEq rfl rfl) (yp (pP rfl) ?_))))))))))))))))))))))))))))))))))
    refine ycons (ycall (arUsedA hA2) rfl rfl fun r S' h => ?_)
    obtain ⟨rfl, rfl⟩ := h
    refine yp (pGt rfl rfl) (yp (pEqB rfl rfl) (yp (pB rfl) ?_))
    rw [decide_eq_true hpos]
    refine ygT rfl (yop (pI rfl) (ygT rfl (yop (pEq rfl rfl) (ygT rfl (yop (pP rfl) (ygT rfl ?_))))))
    refine ycall (tbCount hT2) rfl rfl fun r S' h => ?_
    obtain ⟨rfl, rfl⟩ := h
    refine ygT rfl (yop (pGt rfl rfl) (ygT rfl (yop (pEqB rfl rfl) (yp (pPickT rfl rfl) (yp (pB rfl) ?_)))))
    rw [decide_eq_true (show (0 : Int) < ((P.L.length : Nat) : Int) from by omega)]
    refine ygT rfl ?_
    refine ycall awake8 rfl rfl fun r S' h => ?_
    obtain ⟨rfl, rfl⟩ := h
    refine yp (pPickT rfl rfl) (yp (pB rfl) (ynil (tnorm (yret ?_))))
    exact yfin (rB rfl) ⟨_, .of, rfl, rfl⟩
end Go.Proofs.Ytejmbmenbailmaa
