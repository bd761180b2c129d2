/- InternFull: what it computes. -/
import Derived.Test.YtkdbajfaaifkaaaCostI
namespace Go.Proofs.Ytkdbajfaaifkaaa
open Go.Xs
open Enc (enc)

def nm (i : Nat) : Bs := [2, UInt8.ofNat (97 + i / 26), UInt8.ofNat (97 + i % 26), 0]
theorem nm_len (i : Nat) : (nm i).length = 4 := rfl
theorem vld4 (a b : UInt8) : vld [2, a, b, 0] = true := by
  unfold vld lead
  rfl
theorem ofN_inj {a b : Nat} (ha : a < 256) (hb : b < 256) (h : UInt8.ofNat a = UInt8.ofNat b) : a = b := by
  have h1 : (UInt8.ofNat a).toNat = a % 256 := by simp
  have h2 : (UInt8.ofNat b).toNat = b % 256 := by simp
  rw [h, h2] at h1; omega
theorem nm_inj {i j : Nat} (hi : i < 100) (hj : j < 100) (h : nm i = nm j) : i = j := by
  unfold nm at h
  simp only [List.cons.injEq, and_true, true_and] at h
  have h1 := ofN_inj (by omega) (by omega) h.1
  have h2 := ofN_inj (by omega) (by omega) h.2
  omega
theorem nm_zz {i : Nat} (hi : i < 100) : nm i ≠ [2, 122, 122, 0] := fun h => by
  unfold nm at h
  simp only [List.cons.injEq, and_true, true_and] at h
  have h1 := ofN_inj (b := 122) (by omega) (by omega) h.1
  omega
theorem low_of {a : Nat} (h : 97 ≤ a ∧ a < 256) : low (UInt8.ofNat a) = UInt8.ofNat a := by
  unfold low
  have : (UInt8.ofNat a).toNat = a % 256 := by simp
  rw [if_neg (by rw [this]; omega)]
theorem nm_fold {i : Nat} (hi : i < 100) : foldB (nm i) = nm i := by
  unfold foldB nm
  rw [if_pos (vld4 _ _)]
  simp only [List.map_cons, List.map_nil]
  rw [low_of (by omega), low_of (by omega)]
  rfl
/-- the first so many of them -/
def nmL (k : Nat) : List Nm := (List.range k).map fun j : Nat => (⟨(j : Int) + 1, nm j, 1⟩ : Nm)
theorem nmL_succ (k : Nat) : nmL (k + 1) = nmL k ++ [⟨(k : Int) + 1, nm k, 1⟩] := by unfold nmL; rw [List.range_succ, List.map_append]; rfl
theorem nmL_len (k : Nat) : (nmL k).length = k := by simp [nmL]
theorem nmL_mem {k : Nat} {e : Nm} (h : e ∈ nmL k) : ∃ j, j < k ∧ e = ⟨(j : Int) + 1, nm j, 1⟩ := by
  unfold nmL at h
  obtain ⟨j, hj, rfl⟩ := List.mem_map.1 h
  exact ⟨j, List.mem_range.1 hj, rfl⟩
theorem nmL_no {k i : Nat} (hk : k ≤ i) (hi : i < 100) : byN (nmL k) (nm i) = none := by
  cases hb : byN (nmL k) (nm i) with
  | none => rfl
  | some e =>
    obtain ⟨j, _, h2, h3⟩ := byN_some hb
    obtain ⟨q, hq, rfl⟩ := nmL_mem (List.mem_of_getElem? h2)
    have := nm_inj (by omega) hi h3
    omega
theorem nmL_u (k : Nat) : ∀ e ∈ nmL k, e.u + 1 < 2 ^ 60 := fun e he => by
  obtain ⟨j, _, rfl⟩ := nmL_mem he
  show 1 + 1 < 2 ^ 60; decide
theorem sum4 {L : List Nm} (h : ∀ e ∈ L, e.n.length = 4) : (L.map fun e => costN (8 + e.n.length)).sum = 32 * L.length := by
  induction L with
  | nil => rfl
  | cons x l ih =>
    rw [List.map_cons, List.sum_cons, ih fun e he => h e (List.mem_cons_of_mem _ he), h x List.mem_cons_self, List.length_cons]
    show 32 + _ = _; omega
theorem rep_hnd (k : Nat) : hnd (List.replicate k (some (zeros 12))) = k + 1 := by
  induction k with
  | zero => rfl
  | succ k ih => rw [List.replicate_succ]; show hnd _ + 1 = _; rw [ih]
theorem rep_alloc (k : Nat) : allocD (List.replicate k (some (zeros 12))) 12 = List.replicate (k + 1) (some (zeros 12)) := by
  unfold allocD
  rw [rep_hnd, if_neg (by simp), List.replicate_succ']
theorem sv_app (X Y : Bs) : ((⟨X.toArray⟩ : ByteArray) ++ (⟨Y.toArray⟩ : ByteArray)) = ⟨(X ++ Y).toArray⟩ := by
  apply ByteArray.ext
  simp
theorem pAddS {E : Env} {x y : Operand} {X Y : Bs} (h1 : ev E x = sv X) (h2 : ev E y = sv Y) (h : X.length + Y.length ≤ 9223372036854775807) : pstep (ev E) (.bin .add x y) = some (sv (X ++ Y)) := by
  have : (⟨X.toArray⟩ : ByteArray).size + (⟨Y.toArray⟩ : ByteArray).size ≤ 9223372036854775807 := h
  simp only [pstep, h1, h2, xbin, xstr, if_pos this, sv_app]
theorem u8_97N (q : Nat) : IntKind.u8.wrap (97 + (q : Int)) = ((UInt8.ofNat (97 + q)).toNat : Int) := by
  rw [u8wrap]
  have : (UInt8.ofNat (97 + q)).toNat = (97 + q) % 256 := by simp
  omega
theorem tmod26 (i : Nat) : (i : Int).tmod 26 = ((i % 26 : Nat) : Int) := by
  rw [Int.tmod_eq_emod_of_nonneg (by omega)]; omega
set_option maxRecDepth 10000 in
set_option maxHeartbeats 2000000 in
theorem c11 (n : Int) : Tri Try.prog 11 #[.int .i64 n] [] (fun r S => r = .bool true ∧ S = []) := by
  refine Tri.forget (ycallee Try.fx11 (Nat.le_of_ble_eq_true rfl) ?_)
  unfold Try.x11
  refine yseq ?_
  refine yregion ?_
  refine yp pC ?_
  refine ynil ?_
  refine tnorm ?_
  refine ycutQ (fun E S => Has E [(0, .int .i64 n)] ∧ (1 ≤ n ∧ n ≤ 60) ∧ Junk S []) ?_ fun E S ⟨hE, hn, hJ⟩ => ?_
  · refine yseq ?_
    refine yregion ?_
    refine yp (pI rfl) ?_
    refine yp (pLt rfl rfl) ?_
    refine yp (pB rfl) ?_
    by_cases c1 : n < 1
    · rw [decide_eq_true c1]
      refine ygF rfl ?_
      refine ygF rfl ?_
      refine yp (pPickT rfl rfl) ?_
      refine ynil ?_
      refine tnorm ?_
      refine ycondT rfl ?_
      refine yseq ?_
      refine yregion ?_
      refine ycons (ycall awake7 rfl rfl fun r S' h => ?_)
      obtain ⟨rfl, rfl⟩ := h
      refine yp (pB rfl) ?_
      refine ynil ?_
      refine tnorm ?_
      refine yret ?_
      refine tret ?_
      exact yfin (rB rfl) ⟨_, .of, rfl, rfl⟩
    rw [decide_eq_false c1]
    refine ygT rfl ?_
    refine yop (pI rfl) ?_
    refine ygT rfl ?_
    refine yop (pGt rfl rfl) ?_
    refine yp (pPickF rfl rfl) ?_
    refine ynil ?_
    refine tnorm ?_
    by_cases c2 : 60 < n
    · rw [decide_eq_true c2]
      refine ycondT rfl ?_
      refine yseq ?_
      refine yregion ?_
      refine ycons (ycall awake7 rfl rfl fun r S' h => ?_)
      obtain ⟨rfl, rfl⟩ := h
      refine yp (pB rfl) ?_
      refine ynil ?_
      refine tnorm ?_
      refine yret ?_
      refine tret ?_
      exact yfin (rB rfl) ⟨_, .of, rfl, rfl⟩
    rw [decide_eq_false c2]
    refine ycondF rfl ?_
    refine yskip ?_
    refine tnorm ?_
    exact ⟨⟨rfl, trivial⟩, by omega, .of⟩
  obtain ⟨m, rfl⟩ := Int.eq_ofNat_of_zero_le (show 0 ≤ n from by omega)
  have hm : 1 ≤ m ∧ m ≤ 60 := by omega
  clear hn
  obtain ⟨E0, e0⟩ := has_puts hE; subst e0; clear hE
  refine yforget hJ ?_
  refine yseq ?_
  refine yregion ?_
  refine ycons (ycall (arNewA (n := 1024) (by decide) rfl) rfl rfl fun r S' h => ?_)
  obtain ⟨ab, H, rfl, hA, rfl⟩ := h
  refine yp (pU rfl) ?_
  refine yp (pExt rfl rfl) ?_
  refine yp (pExt rfl rfl) ?_
  refine yp (pP rfl) ?_
  refine yp (pI rfl) ?_
  refine ynil ?_
  refine tnorm ?_
  refine yseq ?_
  refine yregion ?_
  refine yp (pP rfl) ?_
  refine ycons (ycall (tbNew (ab := ab)) rfl rfl fun r S' h => ?_)
  obtain ⟨tb, T, rfl, hT, rfl⟩ := h
  refine yp (pP rfl) ?_
  refine ynil ?_
  refine tnorm ?_
  refine yseq ?_
  refine yseq ?_
  refine yregion ?_
  refine yp (pI rfl) ?_
  refine yp (pNe rfl rfl) ?_
  refine yp (pB rfl) ?_
  refine ygT rfl ?_
  refine yop (pP rfl) ?_
  refine ygT rfl ?_
  refine yop (pNilP rfl rfl) ?_
  refine yp (pPickF rfl rfl) ?_
  refine ynil ?_
  refine tnorm ?_
  refine ycondF rfl ?_
  refine yskip ?_
  refine tnorm ?_
  refine yseq ?_
  refine yregion ?_
  refine yp pC ?_
  refine ynil ?_
  refine tnorm ?_
  refine ycut (fun E S => ∃ (D : List (Option Bt)) (H T : List Chunk), Has E [(0, .int .i64 (m : Int)), (3, .pointer (some ⟨ab, 0, none⟩)), (5, .pointer (some ⟨tb, 0, none⟩)), (6, .int .i64 1)] ∧ Tb tb ab (nmL (min m 32)) T ∧ Ar ab 1024 D H ∧ Inn D (nmL (min m 32)) ∧ Junk S [T, H]) ?_ fun E S ⟨D, H, T, hE, hT, hA, hI, hJ⟩ => ?_
  · refine yseq ?_
    refine yregion ?_
    refine yp pC ?_
    refine ynil ?_
    refine tnorm ?_
    refine yblock ?_
    refine yloop (σ := Nat) (fun i E S => ∃ (D : List (Option Bt)) (H T : List Chunk), Has E [(0, .int .i64 (m : Int)), (3, .pointer (some ⟨ab, 0, none⟩)), (5, .pointer (some ⟨tb, 0, none⟩)), (6, .int .i64 (if i = 0 then 0 else 1)), (7, .int .i64 (i : Int))] ∧ i ≤ m ∧ Tb tb ab (nmL (min i 32)) T ∧ Ar ab 1024 D H ∧ Inn D (nmL (min i 32)) ∧ shp D = shp (List.replicate (min i 32) (some (zeros 12))) ∧ Junk S [T, H]) (fun i => m - i) 0
      ⟨[], H, T, ⟨rfl, rfl, rfl, rfl, rfl, trivial⟩, Nat.zero_le _, hT, hA, .nil, rfl, .of⟩ fun i E S ⟨D, H, T, hE, hi, hT, hA, hI, hs, hJ⟩ => ?_
    obtain ⟨E0, e0⟩ := has_puts hE; subst e0; clear hE
    refine yforget hJ ?_
    refine yseq ?_
    refine yseq ?_
    refine yregion ?_
    refine yp (pI rfl) ?_
    refine yp (pI rfl) ?_
    refine yp (pLt rfl rfl) ?_
    refine ynil ?_
    refine tnorm ?_
    refine ycondD rfl (fun h => ?_) (fun h => ?_)
    · have hlt : i < m := by omega
      have hfold := nm_fold (i := i) (by omega)
      have hno := nmL_no (k := min i 32) (i := i) (by omega) (by omega)
      have hhd : hnd D = min i 32 + 1 := by rw [shp_hnd hs, rep_hnd]
      have hused : usedD D = 32 * min i 32 := by
        rw [hI.used, sum4 fun e he => by obtain ⟨j, _, rfl⟩ := nmL_mem he; exact nm_len j, nmL_len]
      have hEe : addE 1024 D (nmL (min i 32)) (nm i) = if i < 32 then 0 else 4 := by
        unfold addE
        rw [if_neg (by rw [show vld (nm i) = true from vld4 _ _]; decide), hfold, hno, if_neg (by decide)]
        unfold allocE
        rw [show cost (8 + ((nm i).length : Int)) = 32 from by rw [nm_len]; decide +kernel, if_neg (by decide), hused]
        by_cases hi32 : i < 32
        · rw [if_pos hi32, if_neg (by omega)]
        · rw [if_neg hi32, if_pos (by omega)]
      refine yskip ?_
      refine tnorm ?_
      refine yseq ?_
      refine yblock ?_
      refine yseq ?_
      refine yregion ?_
      refine yp (pP rfl) ?_
      refine yp (pI rfl) ?_
      refine yp (pQuoN (j := i) (k := 26) rfl rfl (by decide) (by omega)) ?_
      refine yp (pAdd rfl rfl (by omega)) ?_
      refine yp (pCv8 rfl) ?_
      rw [u8_97N]
      refine yp (pI rfl) ?_
      refine yp (pRem rfl rfl (by decide)) ?_
      rw [tmod26]
      refine yp (pAdd rfl rfl (by omega)) ?_
      refine yp (pCv8 rfl) ?_
      rw [u8_97N]
      refine ycons (ybsl (l := cells ([UInt8.ofNat (97 + i / 26), UInt8.ofNat (97 + i % 26)] : Bs)) rfl (by decide) (by decide) (by decide) rfl fun p48 => ?_)
      refine ycons (yb2s (Y := ([UInt8.ofNat (97 + i / 26), UInt8.ofNat (97 + i % 26)] : Bs)) rfl (.litF List.mem_cons_self rfl) ?_)
      refine yp (pAddS (X := [2]) (Y := [UInt8.ofNat (97 + i / 26), UInt8.ofNat (97 + i % 26)]) rfl rfl (by show 1 + 2 ≤ _; decide)) ?_
      refine yp (pAddS (X := [2] ++ [UInt8.ofNat (97 + i / 26), UInt8.ofNat (97 + i % 26)]) (Y := [0]) rfl rfl (by show 3 + 1 ≤ _; decide)) ?_
      rw [show (([2] ++ [UInt8.ofNat (97 + i / 26), UInt8.ofNat (97 + i % 26)]) ++ [0] : Bs) = nm i from rfl]
      by_cases hi32 : i < 32
      · rw [if_pos hi32] at hEe
        refine ycons (ycall (tbAddOk hT hA hI (nmL_u _) (nm i) (by rw [nm_len]; decide) hEe) rfl rfl fun r S' h => ?_)
        obtain ⟨rfl, T2, H2, D2, hT2, hA2, hI2, hs2, rfl⟩ := h
        have hLn : addL D (nmL (min i 32)) (nm i) = nmL (min (i + 1) 32) := by
          unfold addL
          rw [byN_none hno, show min (i + 1) 32 = min i 32 + 1 from by omega, nmL_succ, hhd, show min i 32 = i from by omega]
          rfl
        have hIn : addI D (nmL (min i 32)) (nm i) = (i : Int) + 1 := by
          unfold addI; rw [hno, hhd, show min i 32 = i from by omega]; rfl
        have hDn : shp D2 = shp (List.replicate (min (i + 1) 32) (some (zeros 12))) := by
          rw [hs2]; unfold addD
          rw [hfold, hno, if_neg (by decide), show min (i + 1) 32 = min i 32 + 1 from by omega, ← rep_alloc]
          exact shp_alloc hs 12
        rw [hfold, hLn] at hT2 hI2
        rw [hfold] at hs2
        rw [hfold, hIn]
        refine yp (pU rfl) ?_
        refine yp (pExt rfl rfl) ?_
        refine yp (pExt rfl rfl) ?_
        refine yp (pI rfl) ?_
        refine yp (pI rfl) ?_
        refine ynil ?_
        refine tnorm ?_
        refine yseq ?_
        refine yseq ?_
        refine yregion ?_
        refine yp (pI rfl) ?_
        refine yp (pEq rfl rfl) ?_
        refine yp (pI rfl) ?_
        refine yp (pLt rfl rfl) ?_
        refine yp (pNeB rfl rfl) ?_
        refine yp (pB rfl) ?_
        rw [decide_eq_true (show (i : Int) < 32 from by omega)]
        refine ygT rfl ?_
        refine yop (pI rfl) ?_
        refine ygT rfl ?_
        refine yop (pNe rfl rfl) ?_
        refine ygT rfl ?_
        refine yop (pB rfl) ?_
        refine ygF rfl ?_
        refine ygF rfl ?_
        refine ygT rfl ?_
        refine yop (pPickF rfl rfl) ?_
        refine yp (pPickF rfl rfl) ?_
        refine yp (pB rfl) ?_
        refine ygT rfl ?_
        refine yop (pP rfl) ?_
        refine ygT rfl ?_
        refine ycall (tbCount hT2) rfl rfl fun r S' h => ?_
        obtain ⟨rfl, rfl⟩ := h
        rw [nmL_len]
        refine ygT rfl ?_
        refine yop (pI rfl) ?_
        refine ygT rfl ?_
        refine yop (pInc rfl rfl (by omega)) ?_
        refine ygT rfl ?_
        refine yop (pMin1 rfl rfl) ?_
        refine ygT rfl ?_
        refine yop (pNe rfl rfl) ?_
        refine yp (pPickF rfl rfl) ?_
        refine ynil ?_
        refine tnorm ?_
        rw [decide_eq_true (show ((min (i + 1) 32 : Nat) : Int) = min ((i + 1 : Nat) : Int) 32 from by omega)]
        refine ycondF rfl ?_
        refine yskip ?_
        refine tnorm ?_
        refine yseq ?_
        refine yregion ?_
        refine yp (pI rfl) ?_
        refine yp (pEq rfl rfl) ?_
        refine ynil ?_
        refine tnorm ?_
        by_cases h0 : (i : Int) = 0
        · refine ycondD rfl (fun _ => ?_) (fun h2 => absurd h0 h2)
          refine yregion ?_
          refine yp (pI rfl) ?_
          refine yp (pI rfl) ?_
          refine ynil ?_
          refine bnorm ?_
          refine tnorm ?_
          refine yregion ?_
          refine yp (pI rfl) ?_
          refine yp (pInc rfl rfl (by omega)) ?_
          refine yp (pI rfl) ?_
          refine ynil ?_
          refine tnorm ?_
          exact ⟨i + 1, ⟨D2, H2, T2, ⟨rfl, rfl, rfl, (by show Value.int .i64 ((i : Int) + 1) = Value.int .i64 (if i + 1 = 0 then 0 else 1); rw [if_neg (show ¬ i + 1 = 0 from by omega), h0]; rfl), rfl, trivial⟩, by omega, hT2, hA2, hI2, hDn, .of⟩, by omega⟩
        · refine ycondD rfl (fun h2 => absurd h2 h0) (fun _ => ?_)
          refine yskip ?_
          refine bnorm ?_
          refine tnorm ?_
          refine yregion ?_
          refine yp (pI rfl) ?_
          refine yp (pInc rfl rfl (by omega)) ?_
          refine yp (pI rfl) ?_
          refine ynil ?_
          refine tnorm ?_
          exact ⟨i + 1, ⟨D2, H2, T2, ⟨rfl, rfl, rfl, (by show Value.int .i64 (if i = 0 then 0 else 1) = Value.int .i64 (if i + 1 = 0 then 0 else 1); rw [if_neg (show ¬ i + 1 = 0 from by omega), if_neg (show ¬ i = 0 from by omega)]), rfl, trivial⟩, by omega, hT2, hA2, hI2, hDn, .of⟩, by omega⟩
      · rw [if_neg hi32] at hEe
        refine ycons (ycall (tbAddNo hT hA hI (nmL_u _) (nm i) (by rw [nm_len]; decide) hEe (by decide)) rfl rfl fun r S' h => ?_)
        obtain ⟨rfl, rfl⟩ := h
        have hmm : min (i + 1) 32 = min i 32 := by omega
        refine yp (pU rfl) ?_
        refine yp (pExt rfl rfl) ?_
        refine yp (pExt rfl rfl) ?_
        refine yp (pI rfl) ?_
        refine yp (pI rfl) ?_
        refine ynil ?_
        refine tnorm ?_
        refine yseq ?_
        refine yseq ?_
        refine yregion ?_
        refine yp (pI rfl) ?_
        refine yp (pEq rfl rfl) ?_
        refine yp (pI rfl) ?_
        refine yp (pLt rfl rfl) ?_
        refine yp (pNeB rfl rfl) ?_
        refine yp (pB rfl) ?_
        rw [decide_eq_false (show ¬ (i : Int) < 32 from by omega)]
        refine ygT rfl ?_
        refine yop (pI rfl) ?_
        refine ygT rfl ?_
        refine yop (pNe rfl rfl) ?_
        refine ygT rfl ?_
        refine yop (pB rfl) ?_
        refine ygT rfl ?_
        refine yop (pI rfl) ?_
        refine ygT rfl ?_
        refine yop (pNe rfl rfl) ?_
        refine ygT rfl ?_
        refine yop (pPickT rfl rfl) ?_
        refine yp (pPickF rfl rfl) ?_
        refine yp (pB rfl) ?_
        refine ygT rfl ?_
        refine yop (pP rfl) ?_
        refine ygT rfl ?_
        refine ycall (tbCount hT) rfl rfl fun r S' h => ?_
        obtain ⟨rfl, rfl⟩ := h
        rw [nmL_len]
        refine ygT rfl ?_
        refine yop (pI rfl) ?_
        refine ygT rfl ?_
        refine yop (pInc rfl rfl (by omega)) ?_
        refine ygT rfl ?_
        refine yop (pMin1 rfl rfl) ?_
        refine ygT rfl ?_
        refine yop (pNe rfl rfl) ?_
        refine yp (pPickF rfl rfl) ?_
        refine ynil ?_
        refine tnorm ?_
        rw [decide_eq_true (show ((min i 32 : Nat) : Int) = min ((i + 1 : Nat) : Int) 32 from by omega)]
        refine ycondF rfl ?_
        refine yskip ?_
        refine tnorm ?_
        refine yseq ?_
        refine yregion ?_
        refine yp (pI rfl) ?_
        refine yp (pEq rfl rfl) ?_
        refine ynil ?_
        refine tnorm ?_
        refine ycondD rfl (fun h2 => absurd h2 (by omega)) (fun _ => ?_)
        refine yskip ?_
        refine bnorm ?_
        refine tnorm ?_
        refine yregion ?_
        refine yp (pI rfl) ?_
        refine yp (pInc rfl rfl (by omega)) ?_
        refine yp (pI rfl) ?_
        refine ynil ?_
        refine tnorm ?_
        exact ⟨i + 1, ⟨D, H, T, ⟨rfl, rfl, rfl, (by show Value.int .i64 (if i = 0 then 0 else 1) = Value.int .i64 (if i + 1 = 0 then 0 else 1); rw [if_neg (show ¬ i + 1 = 0 from by omega), if_neg (show ¬ i = 0 from by omega)]), rfl, trivial⟩, by omega, hmm ▸ hT, hA, hmm ▸ hI, hmm ▸ hs, .of⟩, by omega⟩
    · have him : min i 32 = min m 32 := by omega
      refine yexit ?_
      refine texit ?_
      refine texit ?_
      refine bexit ?_
      refine tnorm ?_
      exact ⟨D, H, T, ⟨rfl, rfl, rfl, (by show Value.int .i64 (if i = 0 then 0 else 1) = Value.int .i64 1; rw [if_neg (show ¬ i = 0 from by omega)]), trivial⟩, him ▸ hT, hA, him ▸ hI, .of⟩
  obtain ⟨k, hk⟩ : ∃ k, min m 32 = k + 1 := ⟨min m 32 - 1, by omega⟩
  rw [hk] at hT hI
  have hk32 : k + 1 ≤ 32 := by omega
  have hne : nmL (k + 1) ≠ [] := fun h => by have := nmL_len (k + 1); rw [h] at this; simp at this
  have h0 : (nmL (k + 1))[0]? = some ⟨1, nm 0, 1⟩ := by unfold nmL; simp
  have hf0 : foldB [2, 65, 65, 0] = nm 0 := by decide +kernel
  have hixN : nixN (nm 0) (nmL (k + 1)) = some 0 := nixN_of hI.dis.ns h0
  have hby0 : byN (nmL (k + 1)) (nm 0) = some ⟨1, nm 0, 1⟩ := by unfold byN; rw [hixN]; exact h0
  have hE1 : addE 1024 D (nmL (k + 1)) [2, 65, 65, 0] = 0 := by
    unfold addE
    rw [if_neg (by decide +kernel), hf0, hby0]; rfl
  obtain ⟨E0, e0⟩ := has_puts hE; subst e0; clear hE
  refine yforget hJ ?_
  refine yseq ?_
  refine yregion ?_
  refine yp (pP rfl) ?_
  refine ycons (ycall (tbAddOk hT hA hI (nmL_u _) [2, 65, 65, 0] (by decide) hE1) rfl rfl fun r S' h => ?_)
  obtain ⟨rfl, T2, H2, D2, hT2, hA2, hI2, hs2, rfl⟩ := h
  have hL2 : addL D (nmL (k + 1)) (nm 0) = reuse (nmL (k + 1)) 0 ⟨1, nm 0, 1⟩ 2 := by unfold addL; rw [hixN]; simp only [h0]
  have hI0 : addI D (nmL (k + 1)) (nm 0) = 1 := by unfold addI; rw [hby0]; rfl
  rw [hf0, hL2] at hT2 hI2
  rw [hf0, hI0]
  generalize hLL : reuse (nmL (k + 1)) 0 ⟨1, nm 0, 1⟩ 2 = L2 at hT2 hI2
  have hg2 : L2[0]? = some ⟨1, nm 0, 2⟩ := by rw [← hLL]; unfold reuse; rw [List.getElem?_set_self (by rw [nmL_len]; omega)]
  have hix2 : nixI 1 L2 = some 0 := nixI_of hI2.dis.ids hg2
  have hby2 : byI L2 1 = some ⟨1, nm 0, 2⟩ := by unfold byI; rw [hix2]; exact hg2
  have hpos2 : Pos L2 := fun e he => by
    rw [← hLL] at he
    unfold reuse at he
    rcases List.mem_or_eq_of_mem_set he with he | rfl
    · obtain ⟨j, _, rfl⟩ := nmL_mem he; exact Nat.le_refl _
    · show 1 ≤ 2; decide
  refine yp (pU rfl) ?_
  refine yp (pExt rfl rfl) ?_
  refine yp (pExt rfl rfl) ?_
  refine yp (pI rfl) ?_
  refine yp (pI rfl) ?_
  refine ynil ?_
  refine tnorm ?_
  refine yseq ?_
  refine yseq ?_
  refine yregion ?_
  refine yp (pI rfl) ?_
  refine yp (pNe rfl rfl) ?_
  refine yp (pB rfl) ?_
  refine ygT rfl ?_
  refine yop (pI rfl) ?_
  refine ygT rfl ?_
  refine yop (pI rfl) ?_
  refine ygT rfl ?_
  refine yop (pNe rfl rfl) ?_
  refine yp (pPickF rfl rfl) ?_
  refine yp (pB rfl) ?_
  refine ygT rfl ?_
  refine yop (pP rfl) ?_
  refine ygT rfl ?_
  refine yop (pI rfl) ?_
  refine ygT rfl ?_
  refine ycall (tbUses hT2 hA2 hI2 1) rfl rfl fun r S' h => ?_
  obtain ⟨rfl, rfl⟩ := h
  rw [hby2]
  refine ygT rfl ?_
  refine yop (pNe rfl rfl) ?_
  refine yp (pPickF rfl rfl) ?_
  refine yp (pB rfl) ?_
  refine ygT rfl ?_
  refine yop (pP rfl) ?_
  refine ygT rfl ?_
  refine yop (pI rfl) ?_
  refine ygT rfl ?_
  refine ycall (tbDrop hT2 hA2 hI2 hpos2 1) rfl rfl fun r S' h => ?_
  obtain ⟨rfl, T3, H3, D3, hT3, hA3, hI3, _, rfl⟩ := h
  have hR3 : dropR L2 1 = 0 := by unfold dropR; rw [hby2]; rfl
  have hL3 : dropL L2 1 = reuse L2 0 ⟨1, nm 0, 2⟩ 1 := by unfold dropL; rw [hix2]; simp only [hg2]; rfl
  rw [hR3]
  rw [hL3] at hT3 hI3
  generalize hLL3 : reuse L2 0 ⟨1, nm 0, 2⟩ 1 = L3 at hT3 hI3
  have hlen2 : L2.length = k + 1 := by rw [← hLL]; unfold reuse; rw [List.length_set, nmL_len]
  have hlen3 : L3.length = k + 1 := by rw [← hLL3]; unfold reuse; rw [List.length_set, hlen2]
  have hg3 : L3[0]? = some ⟨1, nm 0, 1⟩ := by rw [← hLL3]; unfold reuse; rw [List.getElem?_set_self (by omega)]
  have hix3 : nixI 1 L3 = some 0 := nixI_of hI3.dis.ids hg3
  have hby3 : byI L3 1 = some ⟨1, nm 0, 1⟩ := by unfold byI; rw [hix3]; exact hg3
  have hmem2 : ∀ e ∈ L2, ∃ j, j < 100 ∧ e.n = nm j := fun e he => by
    rw [← hLL] at he
    obtain ⟨y, hy, _, hyn⟩ := mem_reuse h0 he
    obtain ⟨j, hj, rfl⟩ := nmL_mem hy
    exact ⟨j, by omega, hyn.symm⟩
  have hmem3 : ∀ e ∈ L3, ∃ j, j < 100 ∧ e.n = nm j := fun e he => by
    rw [← hLL3] at he
    obtain ⟨y, hy, _, hyn⟩ := mem_reuse hg2 he
    obtain ⟨j, hj, h⟩ := hmem2 y hy
    exact ⟨j, hj, by rw [← hyn]; exact h⟩
  have hpos3 : Pos L3 := fun e he => by
    rw [← hLL3] at he
    unfold reuse at he
    rcases List.mem_or_eq_of_mem_set he with he | rfl
    · exact hpos2 e he
    · exact Nat.le_refl _
  refine ygT rfl ?_
  refine yop (pNe rfl rfl) ?_
  refine yp (pPickF rfl rfl) ?_
  refine yp (pB rfl) ?_
  refine ygT rfl ?_
  refine yop (pP rfl) ?_
  refine ygT rfl ?_
  refine yop (pI rfl) ?_
  refine ygT rfl ?_
  refine ycall (tbDrop hT3 hA3 hI3 hpos3 1) rfl rfl fun r S' h => ?_
  obtain ⟨rfl, T4, H4, D4, hT4, hA4, hI4, _, rfl⟩ := h
  have hR4 : dropR L3 1 = 0 := by unfold dropR; rw [hby3]; rfl
  have hL4 : dropL L3 1 = L3.eraseIdx 0 := by unfold dropL; rw [hix3]; simp only [hg3]; rfl
  rw [hR4]
  rw [hL4] at hT4 hI4
  have hlen4 : (L3.eraseIdx 0).length = k := by rw [List.length_eraseIdx, if_pos (by omega), hlen3]; rfl
  have hmem4 : ∀ e ∈ L3.eraseIdx 0, ∃ j, j < 100 ∧ e.n = nm j := fun e he => hmem3 e ((List.eraseIdx_sublist L3 0).subset he)
  have hu4 : ∀ e ∈ L3.eraseIdx 0, e.u + 1 < 2 ^ 60 := fun e he => by
    have he3 := (List.eraseIdx_sublist L3 0).subset he
    rw [← hLL3] at he3
    unfold reuse at he3
    rcases List.mem_or_eq_of_mem_set he3 with he3 | rfl
    · rw [← hLL] at he3
      unfold reuse at he3
      rcases List.mem_or_eq_of_mem_set he3 with he3 | rfl
      · exact nmL_u _ e he3
      · show 2 + 1 < 2 ^ 60; decide
    · show 1 + 1 < 2 ^ 60; decide
  generalize L3.eraseIdx 0 = L4 at hT4 hI4 hlen4 hmem4 hu4
  have hu4d : usedD D4 = 32 * k := by
    rw [hI4.used, sum4 fun e he => by obtain ⟨j, _, h⟩ := hmem4 e he; rw [h]; exact nm_len j, hlen4]
  have hfz : foldB [2, 122, 122, 0] = [2, 122, 122, 0] := by decide +kernel
  have hnz : byN L4 [2, 122, 122, 0] = none := by
    cases hb : byN L4 [2, 122, 122, 0] with
    | none => rfl
    | some e =>
      obtain ⟨q, _, h2, h3⟩ := byN_some hb
      obtain ⟨j, hj, h⟩ := hmem4 e (List.mem_of_getElem? h2)
      exact absurd (h.symm.trans h3) (nm_zz hj)
  have hE4 : addE 1024 D4 L4 [2, 122, 122, 0] = 0 := by
    unfold addE
    rw [if_neg (by decide +kernel), hfz, hnz, if_neg (by decide)]
    unfold allocE
    rw [show cost (8 + (([2, 122, 122, 0] : Bs).length : Int)) = 32 from by decide +kernel, if_neg (by decide), hu4d, if_neg (by omega)]
  refine ygT rfl ?_
  refine yop (pNe rfl rfl) ?_
  refine yp (pPickF rfl rfl) ?_
  refine ynil ?_
  refine tnorm ?_
  refine ycondF rfl ?_
  refine yskip ?_
  refine tnorm ?_
  refine yseq ?_
  refine yregion ?_
  refine yp (pP rfl) ?_
  refine ycons (ycall (tbAddOk hT4 hA4 hI4 hu4 [2, 122, 122, 0] (by decide) hE4) rfl rfl fun r S' h => ?_)
  obtain ⟨rfl, T5, H5, D5, hT5, hA5, hI5, _, rfl⟩ := h
  have hL5 : addL D4 L4 [2, 122, 122, 0] = L4 ++ [⟨((hnd D4 : Nat) : Int), [2, 122, 122, 0], 1⟩] := by unfold addL; rw [byN_none hnz]
  rw [hfz, hL5] at hT5 hI5
  have hlen5 : (L4 ++ [(⟨((hnd D4 : Nat) : Int), [2, 122, 122, 0], 1⟩ : Nm)]).length = k + 1 := by simp [hlen4]
  have hu5 : usedD D5 = 32 * (k + 1) := by
    rw [hI5.used, sum4 fun e he => by
      rcases List.mem_append.1 he with he | he
      · obtain ⟨j, _, h⟩ := hmem4 e he; rw [h]; exact nm_len j
      · rw [List.mem_singleton.1 he]; rfl, hlen5]
  refine yp (pU rfl) ?_
  refine yp (pExt rfl rfl) ?_
  refine yp (pExt rfl rfl) ?_
  refine yp (pI rfl) ?_
  refine yp (pI rfl) ?_
  refine ynil ?_
  refine tnorm ?_
  refine yseq ?_
  refine yregion ?_
  refine yp (pI rfl) ?_
  refine yp (pEq rfl rfl) ?_
  refine yp (pB rfl) ?_
  refine ygT rfl ?_
  refine yop (pP rfl) ?_
  refine ygT rfl ?_
  refine ycall (tbCount hT5) rfl rfl fun r S' h => ?_
  obtain ⟨rfl, rfl⟩ := h
  rw [hlen5]
  refine ygT rfl ?_
  refine yop (pI rfl) ?_
  refine ygT rfl ?_
  refine yop (pMin1 rfl rfl) ?_
  refine ygT rfl ?_
  refine yop (pEq rfl rfl) ?_
  refine yp (pPickT rfl rfl) ?_
  refine yp (pB rfl) ?_
  rw [decide_eq_true (show ((k + 1 : Nat) : Int) = min (m : Int) 32 from by omega)]
  refine ygT rfl ?_
  refine yop (pP rfl) ?_
  refine ygT rfl ?_
  refine ycall (arUsedA hA5) rfl rfl fun r S' h => ?_
  obtain ⟨rfl, rfl⟩ := h
  rw [hu5]
  refine ygT rfl ?_
  refine yop (pI rfl) ?_
  refine ygT rfl ?_
  refine yop (pMin1 rfl rfl) ?_
  refine ygT rfl ?_
  refine yop (pMul (m := 32) (n := min (m : Int) 32) rfl rfl (by omega)) ?_
  refine ygT rfl ?_
  refine yop (pEq rfl rfl) ?_
  refine yp (pPickT rfl rfl) ?_
  refine yp (pB rfl) ?_
  rw [decide_eq_true (show ((32 * (k + 1) : Nat) : Int) = 32 * min (m : Int) 32 from by omega)]
  refine ygT rfl ?_
  refine ycall awake7 rfl rfl fun r S' h => ?_
  obtain ⟨rfl, rfl⟩ := h
  refine yp (pPickT rfl rfl) ?_
  refine yp (pB rfl) ?_
  refine ynil ?_
  refine tnorm ?_
  refine yret ?_
  exact yfin (rB rfl) ⟨_, .of, rfl, rfl⟩
end Go.Proofs.Ytkdbajfaaifkaaa
