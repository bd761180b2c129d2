/- PackShares: the walk. -/
import Derived.Test.YtejmbmenbailmaaSharesP
namespace Go.Proofs.Ytejmbmenbailmaa
open Go.Xs
open Enc (enc)

set_option maxRecDepth 10000 in
set_option maxHeartbeats 4000000 in
theorem c3 {S : Segs} (a0 a1 : ByteArray) (k : Int) : Tri Try.prog 3 #[.string a0, .string a1, .int .i64 k] S (fun r S' => r = .bool true ∧ S' = S) := by
  obtain ⟨n, rfl⟩ : ∃ Y : Bs, a0 = ⟨Y.toArray⟩ := ⟨a0.data.toList, rfl⟩
  obtain ⟨to, rfl⟩ : ∃ Y : Bs, a1 = ⟨Y.toArray⟩ := ⟨a1.data.toList, rfl⟩
  refine Tri.forget (ycallee Try.fx3 (Nat.le_of_ble_eq_true rfl) ?_)
  unfold Try.x3
  refine yseq (yregion (yp pC (ynil (tnorm (yseq (yseq (yregion (yp (pT rfl) (yp (pLenS rfl) (yp (pGt rfl rfl) (yp (pB rfl) ?_)))))))))))
  rw [szS]
  by_cases h1 : (100 : Int) < (n.length : Int)
  · rw [decide_eq_true h1]
    refine ygF rfl (ygF rfl (ygF rfl (yp (pPickT rfl rfl) (yp (pB rfl) (ygF rfl (ygF rfl (ygF rfl (yp (pPickT rfl rfl) (yp (pB rfl) (ygF rfl (ygF rfl (ygF rfl (yp (pPickT rfl rfl) (yp (pB rfl) (ygF rfl (ygF rfl (yp (pPickT rfl rfl) (yp (pB rfl) (ygF rfl (ygF rfl (yp (pPickT rfl rfl) (ynil (tnorm (ycondT rfl (yseq (yregion ?_))))))))))))))))))))))))))
    refine ycons (ycall awake8 rfl rfl fun r S' h => ?_)
    obtain ⟨rfl, rfl⟩ := h
    refine yp (pB rfl) (ynil (tnorm (yret (tret ?_))))
    exact yfin (rB rfl) ⟨_, .of, rfl, rfl⟩
  rw [decide_eq_false h1]
  refine ygT rfl (yop (pT rfl) (ygT rfl (yop (pLenS rfl) (ygT rfl (yop (pGt rfl rfl) (yp (pPickF rfl rfl) (yp (pB rfl) ?_)))))))
  rw [szS]
  by_cases h2 : (100 : Int) < (to.length : Int)
  · rw [decide_eq_true h2]
    refine ygF rfl (ygF rfl (ygF rfl (yp (pPickT rfl rfl) (yp (pB rfl) (ygF rfl (ygF rfl (ygF rfl (yp (pPickT rfl rfl) (yp (pB rfl) (ygF rfl (ygF rfl (yp (pPickT rfl rfl) (yp (pB rfl) (ygF rfl (ygF rfl (yp (pPickT rfl rfl) (ynil (tnorm (ycondT rfl (yseq (yregion ?_)))))))))))))))))))))
    refine ycons (ycall awake8 rfl rfl fun r S' h => ?_)
    obtain ⟨rfl, rfl⟩ := h
    refine yp (pB rfl) (ynil (tnorm (yret (tret ?_))))
    exact yfin (rB rfl) ⟨_, .of, rfl, rfl⟩
  rw [decide_eq_false h2]
  refine ygT rfl (yop (pT rfl) (ygT rfl ?_))
  refine ycall (rnValid n (by omega)) rfl rfl fun r S' h => ?_
  obtain ⟨rfl, rfl⟩ := h
  cases hvn : vld n with
  | false =>
    refine ygT rfl (yop (pNot rfl) (yp (pPickF rfl rfl) (yp (pB rfl) (ygF rfl (ygF rfl (ygF rfl (yp (pPickT rfl rfl) (yp (pB rfl) (ygF rfl (ygF rfl (yp (pPickT rfl rfl) (yp (pB rfl) (ygF rfl (ygF rfl (yp (pPickT rfl rfl) (ynil (tnorm (ycondT rfl (yseq (yregion ?_))))))))))))))))))))
    refine ycons (ycall awake8 rfl rfl fun r S' h => ?_)
    obtain ⟨rfl, rfl⟩ := h
    refine yp (pB rfl) (ynil (tnorm (yret (tret ?_))))
    exact yfin (rB rfl) ⟨_, .of, rfl, rfl⟩
  | true =>
  refine ygT rfl (yop (pNot rfl) (yp (pPickF rfl rfl) (yp (pB rfl) (ygT rfl (yop (pT rfl) (ygT rfl ?_))))))
  refine ycall (rnValid to (by omega)) rfl rfl fun r S' h => ?_
  obtain ⟨rfl, rfl⟩ := h
  cases hvt : vld to with
  | false =>
    refine ygT rfl (yop (pNot rfl) (yp (pPickF rfl rfl) (yp (pB rfl) (ygF rfl (ygF rfl (yp (pPickT rfl rfl) (yp (pB rfl) (ygF rfl (ygF rfl (yp (pPickT rfl rfl) (ynil (tnorm (ycondT rfl (yseq (yregion ?_)))))))))))))))
    refine ycons (ycall awake8 rfl rfl fun r S' h => ?_)
    obtain ⟨rfl, rfl⟩ := h
    refine yp (pB rfl) (ynil (tnorm (yret (tret ?_))))
    exact yfin (rB rfl) ⟨_, .of, rfl, rfl⟩
  | true =>
  refine ygT rfl (yop (pNot rfl) (yp (pPickF rfl rfl) (yp (pB rfl) (ygT rfl (yop (pI rfl) (ygT rfl (yop (pLt rfl rfl) (yp (pPickF rfl rfl) (yp (pB rfl) ?_)))))))))
  by_cases h3 : k < 1
  · rw [decide_eq_true h3]
    refine ygF rfl (ygF rfl (yp (pPickT rfl rfl) (ynil (tnorm (ycondT rfl (yseq (yregion ?_)))))))
    refine ycons (ycall awake8 rfl rfl fun r S' h => ?_)
    obtain ⟨rfl, rfl⟩ := h
    refine yp (pB rfl) (ynil (tnorm (yret (tret ?_))))
    exact yfin (rB rfl) ⟨_, .of, rfl, rfl⟩
  rw [decide_eq_false h3]
  refine ygT rfl (yop (pI rfl) (ygT rfl (yop (pGt rfl rfl) (yp (pPickF rfl rfl) (ynil (tnorm ?_))))))
  by_cases h4 : 8 < k
  · rw [decide_eq_true h4]
    refine ycondT rfl (yseq (yregion ?_))
    refine ycons (ycall awake8 rfl rfl fun r S' h => ?_)
    obtain ⟨rfl, rfl⟩ := h
    refine yp (pB rfl) (ynil (tnorm (yret (tret ?_))))
    exact yfin (rB rfl) ⟨_, .of, rfl, rfl⟩
  rw [decide_eq_false h4]
  obtain ⟨m, rfl⟩ : ∃ m : Nat, k = m := ⟨k.toNat, by omega⟩
  refine ycondF rfl (yskip (tnorm (yseq (yregion ?_))))
  refine ycons (ycall (lwFresh (n := 8192) (by decide) rfl) rfl rfl fun r S' h => ?_)
  obtain ⟨ab, tb, T, H, rfl, hT, hA, rfl⟩ := h
  refine yp (pU rfl) (yp (pExt rfl rfl) (yp (pExt rfl rfl) (yp (pExt rfl rfl) (yp (pP rfl) (yp (pP rfl) (yp (pB rfl) (ynil (tnorm (yseq (yseq (yregion (yp (pB rfl) (yp (pNot rfl) (ynil (tnorm (ycondF rfl (yskip (tnorm (yseq (yregion (yp (pT rfl) (yp (pBuild2 (scT rfl) (scI rfl)) (yp (pT rfl) (yp (v := .agg #[sv n, .int .i64 2, .slice none 0 0, .int .i64 0, sv to]) rfl ?_))))))))))))))))))))))))
  refine ycons (yalloc fun p10 => ?_)
  refine ycons (ystAll (c' := [sv n, .int .i64 2, .slice none 0 0, .int .i64 0, sv to]) rfl rfl rfl rfl rfl ?_)
  refine ynil (tnorm (yseq (yregion (yp (pT rfl) (yp (pBuild2 (scT rfl) (scI rfl)) (yp (pT rfl) (yp (v := .agg #[sv n, .int .i64 15, .slice none 0 0, .int .i64 0, sv to]) rfl ?_)))))))
  refine ycons (yalloc fun p11 => ?_)
  refine ycons (ystAll (c' := [sv n, .int .i64 15, .slice none 0 0, .int .i64 0, sv to]) rfl rfl rfl rfl rfl ?_)
  refine ynil (tnorm (yseq (yseq (yregion (yp pC (ynil (tnorm (yblock ?_))))))))
  refine yloop (σ := Nat) (fun i E S' => ∃ (xv yv : Value) (lx ly : List RR) (HX HY : List Chunk), Has E [(0, sv n), (1, sv to), (2, .int .i64 (m : Int)), (7, .pointer (some ⟨ab, 0, none⟩)), (8, .pointer (some ⟨tb, 0, none⟩)), (10, .pointer (some ⟨p10, 0, none⟩)), (11, .pointer (some ⟨p11, 0, none⟩)), (12, .int .i64 (i : Int))] ∧ (i ≤ m ∧ lx.length = i ∧ ly.length = i ∧ (∀ r ∈ lx, One n to 2 6 r) ∧ ∀ r ∈ ly, One n to 15 8 r) ∧ Slc 34 xv lx HX ∧ Slc 34 yv ly HY ∧
      Junk S' (HX :: HY :: [(p10, .cells #[sv n, .int .i64 2, xv, .int .i64 0, sv to] 32)] :: [(p11, .cells #[sv n, .int .i64 15, yv, .int .i64 0, sv to] 32)] :: T :: H :: S)) (fun i => m - i) 0
    ⟨_, _, [], [], [], [], ⟨rfl, rfl, rfl, rfl, rfl, rfl, rfl, rfl, trivial⟩, ⟨Nat.zero_le _, rfl, rfl, fun r hr => by simp at hr, fun r hr => by simp at hr⟩, .nil, .nil, .of⟩ fun i E S' ⟨xv, yv, lx, ly, HX, HY, hE, ⟨hi, hlx, hly, h1x, h1y⟩, hX, hY, hJ⟩ => ?_
  obtain ⟨xa, xc, rfl⟩ := hX.isSlice
  obtain ⟨ya, yc, rfl⟩ := hY.isSlice
  obtain ⟨E0, e0⟩ := has_puts hE; subst e0; clear hE
  refine yforget hJ (yseq (yseq (yregion (yp (pI rfl) (yp (pI rfl) (yp (pLt rfl rfl) (ynil (tnorm ?_))))))))
  refine ycondD rfl (fun hlt => ?_) (fun hlt => ?_)
  · refine yskip (tnorm (yseq (yblock (yseq (yregion (yp (pFadr rfl) ?_))))))
    refine ycons (yload1 rfl rfl ?_)
    refine yp (pT rfl) (yp (pT rfl) (yp (v := .agg #[sv n, .int .i64 2, .int .i64 1, .int .i64 0, sv to]) rfl ?_))
    refine ycons (ybsl1 (⟨n, 2, 1, 0, to⟩ : RR) rfl rfl (by decide) (by decide) rfl fun p73 => ?_)
    refine ycons (yapp (Y := [(⟨n, 2, 1, 0, to⟩ : RR)]) rfl rfl hX (.lit (by repeat (first | exact List.mem_cons_self | apply List.mem_cons_of_mem)) rfl) rfl (⟨[], 0, 0, 0, []⟩ : RR) rfl (by rw [List.length_singleton]; omega) (by rw [List.length_singleton]; omega) fun v2 H2 hX2 => ?_)
    obtain ⟨x2a, x2c, rfl⟩ := hX2.isSlice
    refine yp (pFadr rfl) ?_
    refine ycons (yst5_2 rfl rfl (scS rfl) ?_)
    refine ynil (tnorm (yregion (yp (pFadr rfl) ?_)))
    refine ycons (yload1 rfl rfl ?_)
    refine yp (pT rfl) (yp (pI rfl) (yp (pCvBy rfl) ?_))
    generalize by8 (i : Int) = b
    refine ycons (ybsl1 b rfl rfl (by decide) (by decide) rfl fun p81 => ?_)
    refine ycons (yb2s (Y := [b]) rfl (.lit (by repeat (first | exact List.mem_cons_self | apply List.mem_cons_of_mem)) rfl) ?_)
    refine yp (pCat (Y := [0]) (Z := [b]) rfl rfl (by simp)) (yp (pT rfl) (yp (pCat (Y := [0] ++ [b]) (Z := to) rfl rfl (by simp; omega)) (yp (v := .agg #[sv n, .int .i64 15, .int .i64 1, .int .i64 0, sv ([0] ++ [b] ++ to)]) rfl ?_)))
    refine ycons (ybsl1 (⟨n, 15, 1, 0, [0] ++ [b] ++ to⟩ : RR) rfl rfl (by decide) (by decide) rfl fun p87 => ?_)
    refine ycons (yapp (Y := [(⟨n, 15, 1, 0, [0] ++ [b] ++ to⟩ : RR)]) rfl rfl hY (.lit (by repeat (first | exact List.mem_cons_self | apply List.mem_cons_of_mem)) rfl) rfl (⟨[], 0, 0, 0, []⟩ : RR) rfl (by rw [List.length_singleton]; omega) (by rw [List.length_singleton]; omega) fun v3 H3 hY2 => ?_)
    obtain ⟨y2a, y2c, rfl⟩ := hY2.isSlice
    refine yp (pFadr rfl) ?_
    refine ycons (yst5_2 rfl rfl (scS rfl) ?_)
    refine ynil (bnorm (tnorm (yregion (yp (pI rfl) (yp (pInc rfl rfl (by omega)) (yp (pI rfl) (ynil (tnorm ?_))))))))
    refine ⟨i + 1, ⟨.slice x2a _ x2c, .slice y2a _ y2c, lx ++ [⟨n, 2, 1, 0, to⟩], ly ++ [⟨n, 15, 1, 0, [0] ++ [b] ++ to⟩], H2, H3, ⟨rfl, rfl, rfl, rfl, rfl, rfl, rfl, rfl, trivial⟩, ⟨by omega, by simp [hlx], by simp [hly], fun r hr => ?_, fun r hr => ?_⟩, hX2, hY2, .of⟩, by omega⟩
    · rcases List.mem_append.1 hr with hr | hr
      · exact h1x r hr
      · rw [List.mem_singleton.1 hr]; exact one_ns hvt
    · rcases List.mem_append.1 hr with hr | hr
      · exact h1y r hr
      · rw [List.mem_singleton.1 hr]; exact one_mx hvt
  obtain rfl : i = m := by omega
  obtain ⟨hEx, hszx, hnmx, hokx⟩ := sh_ok hvn hvt (by decide) (by omega) (by decide) h1x
  obtain ⟨hEy, hszy, hnmy, hoky⟩ := sh_ok hvn hvt (by decide) (by omega) (by decide) h1y
  rw [hlx] at hszx hnmx
  rw [hly] at hszy hnmy
  have hZy : szOf ⟨n, 15, 0, to, ly⟩ = 16 + 8 * (i : Int) := by unfold szOf; rw [if_pos hEy, hszy]
  have hsx := hX.src (S := [HX]) (by simp)
  have hsy := hY.src (S := [HY]) (by simp)
  have hcx := cost_small (z := sizS ⟨n, 2, 0, to, lx⟩) (by omega) (by omega)
  have hcy := cost_small (z := sizS ⟨n, 15, 0, to, ly⟩) (by omega) (by omega)
  have hsc := sh_cost (n := n) (to := to) (k := i) (by omega) (by omega)
  have hCx : costS [] ⟨n, 2, 0, to, lx⟩ = cost (sizS ⟨n, 2, 0, to, lx⟩) + (costL [] [] (nmsS ⟨n, 2, 0, to, lx⟩) : Nat) := by unfold costS; rw [if_pos hEx]
  rw [hnmx] at hCx
  have hfx : fits 8192 [] [] ⟨n, 2, 0, to, lx⟩ := by
    unfold fits
    rw [hCx]
    show (0 : Int) + _ ≤ 8192
    omega
  have hex := (fits_iff hEx (Nat.zero_le _) ⟨by omega, by omega⟩ (mayS_vld (errS_may hEx).1)).1 hfx
  have hpk1 := fun D' => @Pk.put 8192 [] D' [] [] Pk.nil ⟨n, 2, 0, to, lx⟩ hEx hokx hex.1
  refine yexit (texit (texit (bexit (tnorm (yseq (yregion ?_))))))
  refine ycons (yloadN (l := [sv n, .int .i64 15, .slice ya ly.length yc, .int .i64 0, sv to]) rfl rfl rfl ?_)
  refine ycons (ycall (pkSize (S := [HY]) (s := ⟨n, 15, 0, to, ly⟩) hoky hsy) rfl rfl fun r S' h => ?_)
  obtain ⟨rfl, rfl⟩ := h
  rw [hZy, hEy]
  refine yp (pU rfl) (yp (pExt rfl rfl) (yp (pExt rfl rfl) (yp (pI rfl) (yp (pI rfl) (ynil (tnorm (yseq (yregion (yp (pP rfl) (yp (pP rfl) ?_))))))))))
  refine ycons (yloadN (l := [sv n, .int .i64 2, .slice xa lx.length xc, .int .i64 0, sv to]) rfl rfl rfl ?_)
  refine ycons (ycall (pkPutS (S := [HX]) (s := ⟨n, 2, 0, to, lx⟩) hT hA Inn.nil .nil (List.nodup_nil) (fun e he => by simp at he) hokx hsx) rfl rfl fun r S' h => ?_)
  rcases h with ⟨h, _⟩ | ⟨_, h, _⟩ | ⟨_, _, T1, H1, D1, rfl, hT1, hA1, hI1, hB1, hs1, rfl⟩
  · exact absurd hEx h
  · exact absurd hfx h
  have hu1 := put_used hEx (Nat.zero_le _) hfx hs1
  rw [hCx] at hu1
  have hu1 : (usedD D1 : Int) = 0 + (cost (sizS ⟨n, 2, 0, to, lx⟩) + (costL [] [] (n :: to :: List.replicate i to) : Nat)) := hu1
  have hP1 := hpk1 D1 hI1 hB1
  have hal1 := ads_al hex.1
  have hlen1 : (ads 8192 [] [] (nmsS ⟨n, 2, 0, to, lx⟩)).ids.length ≤ 10 := by
    have h5 := hal1.len
    have h6 : (nmsS ⟨n, 2, 0, to, lx⟩).length = i + 2 := by rw [hnmx]; simp
    rw [List.length_map, h6] at h5
    omega
  clear hpk1 hI1 hB1 hs1 hex
  generalize ads 8192 [] [] (nmsS ⟨n, 2, 0, to, lx⟩) = P1 at *
  have hz0 : costL P1.L [] (nmsS ⟨n, 15, 0, to, ly⟩) = 0 := costL_zero fun m hm => .inr (hal1.has (by rw [hnmx]; rw [hnmy] at hm; exact List.mem_map.2 ⟨m, hm, rfl⟩))
  have hCy : costS P1.L ⟨n, 15, 0, to, ly⟩ = cost (16 + 8 * (i : Int)) := by
    unfold costS
    rw [if_pos hEy, hz0, hszy]; simp
  rw [hszy] at hcy
  have hfy : fits 8192 D1 P1.L ⟨n, 15, 0, to, ly⟩ := by
    unfold fits
    rw [hCy, hu1]
    omega
  have hN1 := hA1.ok.used
  have hey := (fits_iff hEy hN1 ⟨by omega, by omega⟩ (mayS_vld (errS_may hEy).1)).1 hfy
  have hus1 : ∀ e ∈ P1.L, e.u < 2 ^ 50 := fun e he => by
    have := hP1.us (k := 10) (by unfold PkA; simpa using hlen1) e he
    omega
  refine yp (pU rfl) (yp (pExt rfl rfl) (yp (pExt rfl rfl) (yp (pI rfl) (yp (pI rfl) (ynil (tnorm (yseq (yregion (yp (pP rfl) ?_)))))))))
  refine ycons (yloadN (l := [sv n, .int .i64 15, .slice ya ly.length yc, .int .i64 0, sv to]) rfl rfl rfl ?_)
  refine ycons (ycall (pkCost (S := [HY]) (s := ⟨n, 15, 0, to, ly⟩) hT1 hoky hsy) rfl rfl fun r S' h => ?_)
  obtain ⟨rfl, rfl⟩ := h
  rw [hCy]
  refine yp (pI rfl) (ynil (tnorm (yseq (yregion (yp (pP rfl) ?_)))))
  refine ycons (ycall (arUsedA hA1) rfl rfl fun r S' h => ?_)
  obtain ⟨rfl, rfl⟩ := h
  refine yp (pI rfl) (ynil (tnorm (yseq (yregion (yp (pP rfl) (yp (pP rfl) ?_))))))
  refine ycons (yloadN (l := [sv n, .int .i64 15, .slice ya ly.length yc, .int .i64 0, sv to]) rfl rfl rfl ?_)
  refine ycons (ycall (pkPutS (S := [HY]) (s := ⟨n, 15, 0, to, ly⟩) hT1 hA1 hP1.inn hP1.pos hP1.hs hus1 hoky hsy) rfl rfl fun r S' h => ?_)
  rcases h with ⟨h, _⟩ | ⟨_, h, _⟩ | ⟨_, _, T2, H2, D2, rfl, hT2, hA2, hI2, hB2, hs2, rfl⟩
  · exact absurd hEy h
  · exact absurd hfy h
  have hu2 := put_used hEy hN1 hfy hs2
  rw [hCy] at hu2
  have hP2 := hP1.put hEy hoky hey.1 hI2 hB2
  clear hI2 hB2 hs2 hey
  generalize ads 8192 D1 P1.L (nmsS ⟨n, 15, 0, to, ly⟩) = P2 at *
  have hne : P2.ids = P2.ids := rfl
  have hhd : ∀ z ∈ [(⟨((hnd P1.D : Nat) : Int), ⟨n, 2, 0, to, lx⟩, P1.ids⟩ : LS)], z.h ≠ ((hnd P2.D : Nat) : Int) := hs_ne hP2.hs
  have hh12 : ((hnd P1.D : Nat) : Int) ≠ ((hnd P2.D : Nat) : Int) := hhd _ List.mem_cons_self
  have hm1 : (⟨((hnd P1.D : Nat) : Int), ⟨n, 2, 0, to, lx⟩, P1.ids⟩ : LS) ∈ [(⟨((hnd P2.D : Nat) : Int), ⟨n, 15, 0, to, ly⟩, P2.ids⟩ : LS), ⟨((hnd P1.D : Nat) : Int), ⟨n, 2, 0, to, lx⟩, P1.ids⟩] := by simp
  have ho1 : outZ [(⟨((hnd P2.D : Nat) : Int), ⟨n, 15, 0, to, ly⟩, P2.ids⟩ : LS), ⟨((hnd P1.D : Nat) : Int), ⟨n, 2, 0, to, lx⟩, P1.ids⟩] ((hnd P1.D : Nat) : Int) = [⟨((hnd P2.D : Nat) : Int), ⟨n, 15, 0, to, ly⟩, P2.ids⟩] := by
    rw [outZ_ne (show ((hnd P2.D : Nat) : Int) ≠ _ from fun h => hh12 h.symm), outZ_eq rfl]; rfl
  have ho2 : outZ [(⟨((hnd P2.D : Nat) : Int), ⟨n, 15, 0, to, ly⟩, P2.ids⟩ : LS)] ((hnd P2.D : Nat) : Int) = [] := by
    rw [outZ_eq rfl]; rfl
  refine yp (pU rfl) (yp (pExt rfl rfl) (yp (pExt rfl rfl) (yp (pI rfl) (yp (pI rfl) (ynil (tnorm (yseq (yseq (yregion (yp (pI rfl) (yp (pNe rfl rfl) (yp (pB rfl) (ygT rfl (yop (pI rfl) (ygT rfl (yop (pNe rfl rfl) (yp (pPickF rfl rfl) (yp (pB rfl) (ygT rfl (yop (pI rfl) (ygT rfl (yop (pNe rfl rfl) (yp (pPickF rfl rfl) (yp (pB rfl) (ygT rfl (yop (pI rfl) (ygT rfl (yop (pI rfl) (ygT rfl ?_)))))))))))))))))))))))))))))
  refine ycall (arCost (16 + 8 * (i : Int))) rfl rfl fun r S' h => ?_
  obtain ⟨rfl, rfl⟩ := h
  refine ygT rfl (yop (pNe rfl rfl) (yp (pPickF rfl rfl) (yp (pB rfl) ?_)))
  rw [decide_eq_true rfl]
  refine ygT rfl (yop (pP rfl) (ygT rfl ?_))
  refine ycall (arUsedA hA2) rfl rfl fun r S' h => ?_
  obtain ⟨rfl, rfl⟩ := h
  refine ygT rfl (yop (pI rfl) (ygT rfl (yop (pI rfl) (ygT rfl (yop (pAdd rfl rfl (by omega)) (ygT rfl (yop (pNe rfl rfl) (yp (pPickF rfl rfl) (yp (pB rfl) ?_)))))))))
  rw [decide_eq_true (show ((usedD D2 : Nat) : Int) = ((usedD D1 : Nat) : Int) + cost (16 + 8 * (i : Int)) from hu2)]
  refine ygT rfl (yop (pI rfl) (ygT rfl (yop (pI rfl) (ygT rfl (yop (pMulN (j := i) (k := 8) rfl rfl (by omega)) (ygT rfl (yop (pAdd rfl rfl (by omega)) (ygT rfl (yop (pNe rfl rfl) (yp (pPickF rfl rfl) (ynil (tnorm ?_))))))))))))
  rw [decide_eq_true (show 16 + 8 * (i : Int) = 16 + ((i * 8 : Nat) : Int) from by push_cast; omega)]
  refine ycondF rfl (yskip (tnorm (yseq (yregion (yp (pP rfl) (yp (pP rfl) (yp (pI rfl) ?_)))))))
  refine ycons (ycall (pkDrop hT2 hA2 hP2.inn hP2.pos (PkB_mem hm1) hEx (hP2.ok _ hm1).2.2 hokx) rfl rfl fun r S' h => ?_)
  obtain ⟨rfl, T3, H3, D3, hT3, hA3, hI3, _, rfl⟩ := h
  have hP3 := hP2.drop hm1 hI3
  rw [ho1] at hP3
  refine yp (pEq rfl rfl) (yp (pB rfl) (ygT rfl (yop (pP rfl) (ygT rfl (yop (pP rfl) (ygT rfl (yop (pI rfl) (ygT rfl ?_))))))))
  refine ycall (pkDrop hT3 hA3 hP3.inn hP3.pos (PkB_mem List.mem_cons_self) hEy (hP3.ok _ List.mem_cons_self).2.2 hoky) rfl rfl fun r S' h => ?_
  obtain ⟨rfl, T4, H4, D4, hT4, hA4, hI4, _, rfl⟩ := h
  have hP4 := hP3.drop List.mem_cons_self hI4
  rw [ho2] at hP4
  obtain ⟨hL4, hu4⟩ := hP4.none
  rw [hL4] at hT4
  refine ygT rfl (yop (pEq rfl rfl) (yp (pPickT rfl rfl) (yp (pB rfl) (ygT rfl (yop (pP rfl) (ygT rfl ?_))))))
  refine ycall (arUsedA hA4) rfl rfl fun r S' h => ?_
  obtain ⟨rfl, rfl⟩ := h
  rw [hu4]
  refine ygT rfl (yop (pEq rfl rfl) (yp (pPickT rfl rfl) (yp (pB rfl) (ygT rfl (yop (pP rfl) (ygT rfl ?_))))))
  refine ycall (tbCount hT4) rfl rfl fun r S' h => ?_
  obtain ⟨rfl, rfl⟩ := h
  refine ygT rfl (yop (pEq rfl rfl) (yp (pPickT rfl rfl) (yp (pB rfl) (ygT rfl ?_))))
  refine ycall awake8 rfl rfl fun r S' h => ?_
  obtain ⟨rfl, rfl⟩ := h
  refine yp (pPickT rfl rfl) (yp (pB rfl) (ynil (tnorm (yret ?_))))
  exact yfin (rB rfl) ⟨_, .of, rfl, rfl⟩
end Go.Proofs.Ytejmbmenbailmaa
