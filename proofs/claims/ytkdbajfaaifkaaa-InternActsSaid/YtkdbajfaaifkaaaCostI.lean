/- InternCosts: what it computes. -/
import Derived.Test.YtkdbajfaaifkaaaI1
namespace Go.Proofs.Ytkdbajfaaifkaaa
open Go.Xs
open Enc (enc)

def szs (L : List ByteArray) : Nat := (L.map (·.size)).sum
theorem szs_take {L : List ByteArray} {i : Nat} (h : i < L.length) : szs (L.take (i + 1)) = szs (L.take i) + L[i].size := by
  unfold szs
  have : L.take (i + 1) = L.take i ++ [L[i]] := by rw [List.take_add_one, List.getElem?_eq_getElem h]; rfl
  rw [this, List.map_append, List.sum_append_nat]; simp
theorem szs_le (L : List ByteArray) (i : Nat) : szs (L.take i) ≤ szs L := by
  have : szs L = szs (L.take i) + szs (L.drop i) := by
    unfold szs
    rw [← List.sum_append_nat, ← List.map_append, List.take_append_drop]
  omega
set_option maxRecDepth 10000 in
theorem cShort {S : Segs} {v : Value} {L : List ByteArray} (hL : Src S v L) (hm : L.length ≤ maxLen) (most : Nat) (hmo : most < 2 ^ 60) : Tri Try.prog 49 #[v, .int .i64 (most : Int)] S (fun r S' => ∃ bl, r = .bool bl ∧ (bl = true → L.length + szs L ≤ most) ∧ S' = S) := by
  refine Tri.forget (ycallee Try.fx49 (Nat.le_of_ble_eq_true rfl) ?_)
  unfold Try.x49
  obtain ⟨la, lc, rfl⟩ := hL.isSlice
  have hm2 : L.length ≤ 9223372036854775807 := hm
  refine yseq ?_
  refine yregion ?_
  refine yp pC ?_
  refine ynil ?_
  refine tnorm ?_
  refine yseq ?_
  refine yregion ?_
  refine yp (pS rfl) ?_
  refine yp (pLen rfl) ?_
  refine yp (pI rfl) ?_
  refine ynil ?_
  refine tnorm ?_
  refine yseq ?_
  refine yseq ?_
  refine yregion ?_
  refine yp pC ?_
  refine ynil ?_
  refine tnorm ?_
  refine yblock ?_
  refine yloop (σ := Nat) (fun i E S' => Has E [(0, .slice la L.length lc), (1, .int .i64 (most : Int)), (5, .int .i64 ((L.length + szs (L.take i) : Nat) : Int)), (6, .int .i64 (i : Int))] ∧ i ≤ L.length ∧ Junk S' S) (fun i => L.length - i) 0
    ⟨⟨rfl, rfl, by show Value.int .i64 _ = _; simp [szs], rfl, trivial⟩, Nat.zero_le _, .of⟩ fun i E S' ⟨hE, hi, hJ⟩ => ?_
  obtain ⟨E0, e0⟩ := has_puts hE; subst e0; clear hE
  refine yforget hJ ?_
  refine yseq ?_
  refine yseq ?_
  refine yregion ?_
  refine yp (pI rfl) ?_
  refine yp (pS rfl) ?_
  refine yp (pLen rfl) ?_
  refine yp (pLt rfl rfl) ?_
  refine yp (pB rfl) ?_
  by_cases h1 : i < L.length
  · rw [decide_eq_true (show (i : Int) < (L.length : Int) from by omega)]
    refine ygT rfl ?_
    refine yop (pI rfl) ?_
    refine ygT rfl ?_
    refine yop (pI rfl) ?_
    refine ygT rfl ?_
    refine yop (pLe rfl rfl) ?_
    refine yp (pPickT rfl rfl) ?_
    refine ynil ?_
    refine tnorm ?_
    by_cases h2 : ((L.length + szs (L.take i) : Nat) : Int) ≤ (most : Int)
    · rw [decide_eq_true h2]
      obtain ⟨b, o, ca, ty, fz, rfl, hm', hmem, hg, _⟩ := hL.get (by intro h; simp [h] at h1)
      have hg0 : ca.toList[o + i * 1 + 0]? = some (.string L[i]) := hg i 0 h1 (by decide)
      have hst := szs_take h1
      generalize L[i] = s at hg0 hst
      refine ycondT rfl ?_
      refine yskip ?_
      refine tnorm ?_
      refine yseq ?_
      refine yblock ?_
      refine yseq ?_
      refine yseq ?_
      refine yregion ?_
      refine yp (pS rfl) ?_
      refine yp (pI rfl) ?_
      refine yp (pIxN rfl rfl (by omega)) ?_
      refine ycons (yloadM hmem rfl hg0 ?_)
      refine yp (pLenS rfl) ?_
      refine yp (pI rfl) ?_
      refine yp (pGt rfl rfl) ?_
      refine ynil ?_
      refine tnorm ?_
      refine ycondD rfl (fun h => ?_) (fun h => ?_)
      · refine yseq ?_
        refine yregion ?_
        refine yp pC ?_
        refine ynil ?_
        refine tnorm ?_
        refine yret ?_
        refine tret ?_
        refine bret ?_
        refine tret ?_
        refine tret ?_
        refine bret ?_
        refine tret ?_
        exact yfin (rB rfl) ⟨_, .of, false, rfl, (by simp), rfl⟩
      · refine yskip ?_
        refine tnorm ?_
        refine yregion ?_
        refine yp (pI rfl) ?_
        refine yp (pS rfl) ?_
        refine yp (pI rfl) ?_
        refine yp (pIxN rfl rfl (by omega)) ?_
        refine ycons (yloadM hmem rfl hg0 ?_)
        refine yp (pLenS rfl) ?_
        refine yp (pAddN rfl rfl (by omega)) ?_
        refine yp (pI rfl) ?_
        refine ynil ?_
        refine bnorm ?_
        refine tnorm ?_
        refine yregion ?_
        refine yp (pI rfl) ?_
        refine yp (pInc rfl rfl (by omega)) ?_
        refine yp (pI rfl) ?_
        refine ynil ?_
        refine tnorm ?_
        exact ⟨i + 1, ⟨⟨rfl, rfl, by show Value.int .i64 _ = _; rw [hst, Nat.add_assoc], rfl, trivial⟩, by omega, .of⟩, by omega⟩
    · rw [decide_eq_false h2]
      refine ycondF rfl ?_
      refine yexit ?_
      refine texit ?_
      refine texit ?_
      refine bexit ?_
      refine tnorm ?_
      refine yseq ?_
      refine yregion ?_
      refine yp (pI rfl) ?_
      refine yp (pI rfl) ?_
      refine yp (pLe rfl rfl) ?_
      refine yp (pB rfl) ?_
      refine ynil ?_
      refine tnorm ?_
      refine yret ?_
      refine yfin (rB rfl) ⟨_, .of, _, rfl, fun h => ?_, rfl⟩
      exact absurd (of_decide_eq_true h) h2
  · rw [decide_eq_false (show ¬ (i : Int) < (L.length : Int) from by omega)]
    refine ygF rfl ?_
    refine ygF rfl ?_
    refine ygF rfl ?_
    refine yp (pPickF rfl rfl) ?_
    refine ynil ?_
    refine tnorm ?_
    refine ycondF rfl ?_
    refine yexit ?_
    refine texit ?_
    refine texit ?_
    refine bexit ?_
    refine tnorm ?_
    refine yseq ?_
    refine yregion ?_
    refine yp (pI rfl) ?_
    refine yp (pI rfl) ?_
    refine yp (pLe rfl rfl) ?_
    refine yp (pB rfl) ?_
    refine ynil ?_
    refine tnorm ?_
    refine yret ?_
    refine yfin (rB rfl) ⟨_, .of, _, rfl, fun h => ?_, rfl⟩
    have := of_decide_eq_true h
    rw [List.take_of_length_le (show L.length ≤ i from by omega)] at this
    omega
theorem byN_of_mem {L : List Nm} {e : Nm} (he : e ∈ L) : (byN L e.n).isSome = true := by
  cases hb : byN L e.n with
  | some x => rfl
  | none => exact absurd rfl (nixN_none (byN_none hb) e he)
theorem addL_by {D : List (Option Bt)} {L : List Nm} {n : Bs} : (byN (addL D L n) n).isSome = true := by
  cases hb : byN L n with
  | some e =>
    obtain ⟨j, h1, h2, rfl⟩ := byN_some hb
    have : addL D L e.n = reuse L j e (e.u + 1) := by unfold addL; rw [h1]; simp only [h2]
    rw [this]
    have hm : (⟨e.id, e.n, e.u + 1⟩ : Nm) ∈ reuse L j e (e.u + 1) := List.mem_of_getElem? (i := j) (by unfold reuse; rw [List.getElem?_set_self (List.getElem?_eq_some_iff.1 h2).1])
    exact byN_of_mem (e := ⟨e.id, e.n, e.u + 1⟩) hm
  | none =>
    have : addL D L n = L ++ [⟨((hnd D : Nat) : Int), n, 1⟩] := by unfold addL; rw [byN_none hb]
    rw [this]
    exact byN_of_mem (e := ⟨((hnd D : Nat) : Int), n, 1⟩) (by simp)
theorem addL_u {D : List (Option Bt)} {L : List Nm} {n : Bs} {k : Nat} (h : ∀ e ∈ L, e.u ≤ k) : ∀ e ∈ addL D L n, e.u ≤ k + 1 := fun e he => by
  cases hb : byN L n with
  | some x =>
    obtain ⟨j, h1, h2, rfl⟩ := byN_some hb
    have : addL D L x.n = reuse L j x (x.u + 1) := by unfold addL; rw [h1]; simp only [h2]
    rw [this] at he
    unfold reuse at he
    rcases List.mem_or_eq_of_mem_set he with he | rfl
    · have := h e he; omega
    · have := h x (List.mem_of_getElem? h2); show x.u + 1 ≤ k + 1; omega
  | none =>
    have : addL D L n = L ++ [⟨((hnd D : Nat) : Int), n, 1⟩] := by unfold addL; rw [byN_none hb]
    rw [this] at he
    rcases List.mem_append.1 he with he | he
    · have := h e he; omega
    · rw [List.mem_singleton.1 he]; show 1 ≤ k + 1; omega
theorem addL_pos {D : List (Option Bt)} {L : List Nm} {n : Bs} (h : Pos L) : Pos (addL D L n) := fun e he => by
  cases hb : byN L n with
  | some x =>
    obtain ⟨j, h1, h2, rfl⟩ := byN_some hb
    have : addL D L x.n = reuse L j x (x.u + 1) := by unfold addL; rw [h1]; simp only [h2]
    rw [this] at he
    unfold reuse at he
    rcases List.mem_or_eq_of_mem_set he with he | rfl
    · exact h e he
    · show 1 ≤ x.u + 1; omega
  | none =>
    have : addL D L n = L ++ [⟨((hnd D : Nat) : Int), n, 1⟩] := by unfold addL; rw [byN_none hb]
    rw [this] at he
    rcases List.mem_append.1 he with he | he
    · exact h e he
    · rw [List.mem_singleton.1 he]; exact Nat.le_refl _
theorem costN_lin (k : Nat) (h : k ≤ 263) : costN k ≤ 32 * (k - 7) ∨ k < 8 := by
  by_cases hk : k < 8
  · exact .inr hk
  · left
    unfold costN
    repeat' split
    all_goals omega
set_option maxRecDepth 10000 in
set_option maxHeartbeats 2000000 in
theorem c12 {S : Segs} {v : Value} {L : List ByteArray} (hL : Src S v L) (hm : L.length ≤ maxLen) (_hq : ∀ a ∈ L, True) : Tri Try.prog 12 #[v] S (fun r S' => r = .bool true ∧ S' = S) := by
  refine Tri.forget (ycallee Try.fx12 (Nat.le_of_ble_eq_true rfl) ?_)
  unfold Try.x12
  have hsh := cShort hL hm 1500 (by decide)
  obtain ⟨la, lc, rfl⟩ := hL.isSlice
  refine yseq ?_
  refine yregion ?_
  refine yp pC ?_
  refine ynil ?_
  refine tnorm ?_
  refine yseq ?_
  refine yseq ?_
  refine yregion ?_
  refine yp (pS rfl) ?_
  refine ycons (ycall hsh rfl rfl fun r S' h => ?_)
  obtain ⟨bl, rfl, hbl, hSS⟩ := h
  have hSS := hSS.symm
  subst hSS
  clear hsh
  cases bl with
  | false =>
    refine yp (pNot rfl) ?_
    refine ynil ?_
    refine tnorm ?_
    refine ycondT rfl ?_
    refine yseq ?_
    refine yregion ?_
    refine ycons (ycall awake7 rfl rfl fun r S' h => ?_)
    obtain ⟨rfl, rfl⟩ := h
    refine yp (pB rfl) ?_
    refine ynil ?_
    refine tnorm ?_
    refine yret ?_
    refine tret ?_
    exact yfin (rB rfl) ⟨_, .of, rfl, rfl⟩
  | true =>
  have hsz := hbl rfl
  clear hbl
  refine yp (pNot rfl) ?_
  refine ynil ?_
  refine tnorm ?_
  refine ycondF rfl ?_
  refine yskip ?_
  refine tnorm ?_
  refine yseq ?_
  refine yregion ?_
  refine ycons (ycall (arNewA (n := 65536) (by decide) rfl) rfl rfl fun r S' h => ?_)
  obtain ⟨ab, H, rfl, hA, rfl⟩ := h
  refine yp (pU rfl) ?_
  refine yp (pExt rfl rfl) ?_
  refine yp (pExt rfl rfl) ?_
  refine yp (pP rfl) ?_
  refine yp (pI rfl) ?_
  refine ynil ?_
  refine tnorm ?_
  refine yseq ?_
  refine yregion ?_
  refine yp (pP rfl) ?_
  refine ycons (ycall (tbNew (ab := ab)) rfl rfl fun r S' h => ?_)
  obtain ⟨tb, T, rfl, hT, rfl⟩ := h
  refine yp (pP rfl) ?_
  refine ynil ?_
  refine tnorm ?_
  refine yseq ?_
  refine yseq ?_
  refine yregion ?_
  refine yp (pI rfl) ?_
  refine yp (pNe rfl rfl) ?_
  refine yp (pB rfl) ?_
  refine ygT rfl ?_
  refine yop (pP rfl) ?_
  refine ygT rfl ?_
  refine yop (pNilP rfl rfl) ?_
  refine yp (pPickF rfl rfl) ?_
  refine ynil ?_
  refine tnorm ?_
  refine ycondF rfl ?_
  refine yskip ?_
  refine tnorm ?_
  refine yseq ?_
  refine yseq ?_
  refine yregion ?_
  refine yp pC ?_
  refine ynil ?_
  refine tnorm ?_
  refine yblock ?_
  refine yloop (σ := Nat) (fun i E S' => ∃ (D : List (Option Bt)) (H T : List Chunk) (M : List Nm), Has E [(0, .slice la L.length lc), (3, .pointer (some ⟨ab, 0, none⟩)), (5, .pointer (some ⟨tb, 0, none⟩)), (6, .int .i64 (i : Int))] ∧ i ≤ L.length ∧ Tb tb ab M T ∧ Ar ab 65536 D H ∧ Inn D M ∧ (∀ e ∈ M, e.u ≤ i) ∧ usedD D ≤ 32 * (i + szs (L.take i)) ∧ Junk S' (T :: H :: S)) (fun i => L.length - i) 0
    ⟨[], H, T, [], ⟨rfl, rfl, rfl, rfl, trivial⟩, Nat.zero_le _, hT, hA, .nil, fun e he => by simp at he, Nat.zero_le _, .of⟩ fun i E S' ⟨D, H, T, M, hE, hi, hT, hA, hI, hu, hus, hJ⟩ => ?_
  obtain ⟨E0, e0⟩ := has_puts hE; subst e0; clear hE
  refine yforget hJ ?_
  refine yseq ?_
  refine yseq ?_
  refine yregion ?_
  refine yp (pI rfl) ?_
  refine yp (pS rfl) ?_
  refine yp (pLen rfl) ?_
  refine yp (pLt rfl rfl) ?_
  refine ynil ?_
  refine tnorm ?_
  by_cases h : ¬ (i : Int) < (L.length : Int)
  · refine ycondD rfl (fun h2 => absurd h2 h) (fun _ => ?_)
    refine yexit ?_
    refine texit ?_
    refine texit ?_
    refine bexit ?_
    refine tnorm ?_
    refine yseq ?_
    refine yregion ?_
    refine ycons (ycall awake7 rfl rfl fun r S' h => ?_)
    obtain ⟨rfl, rfl⟩ := h
    refine yp (pB rfl) ?_
    refine ynil ?_
    refine tnorm ?_
    refine yret ?_
    exact yfin (rB rfl) ⟨_, .of, rfl, rfl⟩
  refine ycondD rfl (fun _ => ?_) (fun h2 => absurd h2 h)
  have hlt : i < L.length := by omega
  have hst := szs_take hlt
  have hsl := szs_le L (i + 1)
  obtain ⟨b, o, ca, ty, fz, rfl, hm', hmem, hg, _⟩ := hL.get (by intro h; simp [h] at hlt)
  have hg0 : ca.toList[o + i * 1 + 0]? = some (.string L[i]) := hg i 0 hlt (by decide)
  generalize L[i] = s at hg0 hst
  obtain ⟨Y, rfl⟩ : ∃ Y : Bs, s = ⟨Y.toArray⟩ := ⟨s.data.toList, rfl⟩
  rw [szS] at hst
  have hY : Y.length ≤ 1500 := by omega
  have hY2 : Y.length < 2 ^ 62 := by omega
  have hld : ∀ {T H : List Chunk} {K : Env → Segs → Prop} {E : Env} {d : Option Tmp} {a : Operand}, ev E a = .pointer (some ⟨b, o + i * 1, none⟩) → K (putE d (sv Y) E) (T :: H :: S) → YO Try.prog none 128 d (.load1 a) K E (T :: H :: S) := fun ha hK => yloadM (List.mem_cons_of_mem _ (List.mem_cons_of_mem _ hmem)) ha hg0 hK
  refine yskip ?_
  refine tnorm ?_
  refine yseq ?_
  refine yblock ?_
  refine yseq ?_
  refine yregion ?_
  refine yp (pP rfl) ?_
  refine yp (pS rfl) ?_
  refine yp (pI rfl) ?_
  refine yp (pIxN rfl rfl (by omega)) ?_
  refine ycons (hld rfl ?_)
  refine ycons (ycall (tbFind hT Y hY2) rfl rfl fun r S' h => ?_)
  obtain ⟨rfl, rfl⟩ := h
  refine yp (pU rfl) ?_
  refine yp (pExt rfl rfl) ?_
  refine yp (pExt rfl rfl) ?_
  refine yp (pI rfl) ?_
  refine yp (pB rfl) ?_
  refine ynil ?_
  refine tnorm ?_
  refine yseq ?_
  refine yregion ?_
  refine yp (pP rfl) ?_
  refine yp (pS rfl) ?_
  refine yp (pI rfl) ?_
  refine yp (pIxN rfl rfl (by omega)) ?_
  refine ycons (hld rfl ?_)
  refine ycons (ycall (tbCost hT Y hY2) rfl rfl fun r S' h => ?_)
  obtain ⟨rfl, rfl⟩ := h
  refine yp (pI rfl) ?_
  refine ynil ?_
  refine tnorm ?_
  refine yseq ?_
  refine yregion ?_
  refine yp (pP rfl) ?_
  refine ycons (ycall (arUsedA hA) rfl rfl fun r S' h => ?_)
  obtain ⟨rfl, rfl⟩ := h
  refine yp (pI rfl) ?_
  refine ynil ?_
  refine tnorm ?_
  refine yseq ?_
  refine yregion ?_
  refine yp (pP rfl) ?_
  refine yp (pS rfl) ?_
  refine yp (pI rfl) ?_
  refine yp (pIxN rfl rfl (by omega)) ?_
  refine ycons (hld rfl ?_)
  have hu60 : ∀ e ∈ M, e.u + 1 < 2 ^ 60 := fun e he => by have := hu e he; omega
  cases hv : vld Y with
  | false =>
    rw [if_pos (.inr rfl)]
    refine ycons (ycall (tbAddNo hT hA hI hu60 Y hY2 (e := 2) (by unfold addE; rw [if_pos hv]) (by decide)) rfl rfl fun r S' h => ?_)
    obtain ⟨rfl, rfl⟩ := h
    refine yp (pU rfl) ?_
    refine yp (pExt rfl rfl) ?_
    refine yp (pExt rfl rfl) ?_
    refine yp (pI rfl) ?_
    refine yp (pI rfl) ?_
    refine ynil ?_
    refine tnorm ?_
    refine yseq ?_
    refine yregion ?_
    refine yp (pS rfl) ?_
    refine yp (pI rfl) ?_
    refine yp (pIxN rfl rfl (by omega)) ?_
    refine ycons (hld rfl ?_)
    refine ycons (ycall (rnValid Y hY2) rfl rfl fun r S' h => ?_)
    obtain ⟨rfl, rfl⟩ := h
    rw [hv]
    refine yp (pB rfl) ?_
    refine ynil ?_
    refine tnorm ?_
    refine yseq ?_
    refine yregion ?_
    refine yp (pI rfl) ?_
    refine yp (pEq rfl rfl) ?_
    refine yp (pB rfl) ?_
    refine yp (pNeB rfl rfl) ?_
    refine yp (pB rfl) ?_
    refine ygT rfl ?_
    refine yop (pP rfl) ?_
    refine ygT rfl ?_
    refine ycall (arUsedA hA) rfl rfl fun r S' h => ?_
    obtain ⟨rfl, rfl⟩ := h
    refine ygT rfl ?_
    refine yop (pI rfl) ?_
    refine ygT rfl ?_
    refine yop (pI rfl) ?_
    refine ygT rfl ?_
    refine yop (pAdd rfl rfl (by omega)) ?_
    refine ygT rfl ?_
    refine yop (pNe rfl rfl) ?_
    refine yp (pPickF rfl rfl) ?_
    refine yp (pB rfl) ?_
    rw [decide_eq_true (show ((usedD D : Nat) : Int) = ((usedD D : Nat) : Int) + 0 from by omega)]
    refine ygT rfl ?_
    refine yop (pB rfl) ?_
    refine ygT rfl ?_
    refine yop (pB rfl) ?_
    refine ygF rfl ?_
    refine ygF rfl ?_
    refine ygF rfl ?_
    refine ygF rfl ?_
    refine ygT rfl ?_
    refine yop (pPickF rfl rfl) ?_
    refine yp (pPickF rfl rfl) ?_
    refine yp (pB rfl) ?_
    refine ygT rfl ?_
    refine yop (pB rfl) ?_
    refine ygT rfl ?_
    refine yop (pNot rfl) ?_
    refine ygT rfl ?_
    refine yop (pB rfl) ?_
    refine ygT rfl ?_
    refine yop (pI rfl) ?_
    refine ygT rfl ?_
    refine yop (pNe rfl rfl) ?_
    refine ygT rfl ?_
    refine yop (pPickT rfl rfl) ?_
    refine yp (pPickF rfl rfl) ?_
    refine yp (pB rfl) ?_
    refine ygT rfl ?_
    refine yop (pB rfl) ?_
    refine ygT rfl ?_
    refine yop (pB rfl) ?_
    refine ygF rfl ?_
    refine ygF rfl ?_
    refine ygT rfl ?_
    refine yop (pPickF rfl rfl) ?_
    refine ygT rfl ?_
    refine yop (pB rfl) ?_
    refine ygF rfl ?_
    refine ygF rfl ?_
    refine ygF rfl ?_
    refine ygF rfl ?_
    refine ygF rfl ?_
    refine ygF rfl ?_
    refine ygF rfl ?_
    refine ygF rfl ?_
    refine ygF rfl ?_
    refine ygT rfl ?_
    refine yop (pPickF rfl rfl) ?_
    refine yp (pPickF rfl rfl) ?_
    refine yp (pB rfl) ?_
    refine ygT rfl ?_
    refine yop (pB rfl) ?_
    refine ygT rfl ?_
    refine yop (pB rfl) ?_
    refine ygF rfl ?_
    refine ygF rfl ?_
    refine ygF rfl ?_
    refine ygF rfl ?_
    refine ygF rfl ?_
    refine ygF rfl ?_
    refine ygF rfl ?_
    refine ygF rfl ?_
    refine ygT rfl ?_
    refine yop (pPickF rfl rfl) ?_
    refine yp (pPickF rfl rfl) ?_
    refine ynil ?_
    refine tnorm ?_
    refine ycondF rfl ?_
    refine yskip ?_
    refine bnorm ?_
    refine tnorm ?_
    refine yregion ?_
    refine yp (pI rfl) ?_
    refine yp (pInc rfl rfl (by omega)) ?_
    refine yp (pI rfl) ?_
    refine ynil ?_
    refine tnorm ?_
    exact ⟨i + 1, ⟨D, H, T, M, ⟨rfl, rfl, rfl, rfl, trivial⟩, by omega, hT, hA, hI, fun e he => (by have := hu e he; omega), by rw [hst]; omega, .of⟩, by omega⟩
  | true =>
  have h255 := vld_len hv
  have hcst : cost (8 + (Y.length : Int)) = (costN (8 + Y.length) : Nat) := by unfold cost; rw [if_neg (by omega)]; rfl
  have hcst2 : cost ((Y.length : Int) + 8) = (costN (8 + Y.length) : Nat) := by rw [Int.add_comm]; exact hcst
  have hcb := (costN_is (8 + Y.length) (by omega))
  have hlin := costN_lin (8 + Y.length) (by omega)
  have hff := (foldB_vld hv).2
  have hfl := foldB_len Y
  cases hb : (byN M (foldB Y)).isSome with
  | true =>
    rw [if_pos (.inl rfl)]
    refine ycons (ycall (tbAddOk hT hA hI hu60 Y hY2 (by unfold addE; rw [if_neg (by rw [hv]; decide), hb]; rfl)) rfl rfl fun r S' h => ?_)
    obtain ⟨rfl, T2, H2, D2, hT2, hA2, hI2, hs2, rfl⟩ := h
    have hus2 : usedD D2 = usedD D := by rw [shp_used hs2]; unfold addD; rw [if_pos hb]
    have hby := addL_by (D := D) (L := M) (n := foldB Y)
    have hu2 := addL_u (D := D) (n := foldB Y) hu
    refine yp (pU rfl) ?_
    refine yp (pExt rfl rfl) ?_
    refine yp (pExt rfl rfl) ?_
    refine yp (pI rfl) ?_
    refine yp (pI rfl) ?_
    refine ynil ?_
    refine tnorm ?_
    refine yseq ?_
    refine yregion ?_
    refine yp (pS rfl) ?_
    refine yp (pI rfl) ?_
    refine yp (pIxN rfl rfl (by omega)) ?_
    refine ycons (hld rfl ?_)
    refine ycons (ycall (rnValid Y hY2) rfl rfl fun r S' h => ?_)
    obtain ⟨rfl, rfl⟩ := h
    rw [hv]
    refine yp (pB rfl) ?_
    refine ynil ?_
    refine tnorm ?_
    refine yseq ?_
    refine yregion ?_
    refine yp (pI rfl) ?_
    refine yp (pEq rfl rfl) ?_
    refine yp (pB rfl) ?_
    refine yp (pNeB rfl rfl) ?_
    refine yp (pB rfl) ?_
    refine ygT rfl ?_
    refine yop (pP rfl) ?_
    refine ygT rfl ?_
    refine ycall (arUsedA hA2) rfl rfl fun r S' h => ?_
    obtain ⟨rfl, rfl⟩ := h
    refine ygT rfl ?_
    refine yop (pI rfl) ?_
    refine ygT rfl ?_
    refine yop (pI rfl) ?_
    refine ygT rfl ?_
    refine yop (pAdd rfl rfl (by omega)) ?_
    refine ygT rfl ?_
    refine yop (pNe rfl rfl) ?_
    refine yp (pPickF rfl rfl) ?_
    refine yp (pB rfl) ?_
    rw [hus2, decide_eq_true (show ((usedD D : Nat) : Int) = ((usedD D : Nat) : Int) + 0 from by omega)]
    refine ygT rfl ?_
    refine yop (pB rfl) ?_
    refine ygT rfl ?_
    refine yop (pB rfl) ?_
    refine ygT rfl ?_
    refine yop (pI rfl) ?_
    refine ygT rfl ?_
    refine yop (pEq rfl rfl) ?_
    refine ygT rfl ?_
    refine yop (pB rfl) ?_
    refine ygT rfl ?_
    refine yop (pNeB rfl rfl) ?_
    refine ygT rfl ?_
    refine yop (pPickT rfl rfl) ?_
    refine yp (pPickF rfl rfl) ?_
    refine yp (pB rfl) ?_
    refine ygT rfl ?_
    refine yop (pB rfl) ?_
    refine ygT rfl ?_
    refine yop (pNot rfl) ?_
    refine ygT rfl ?_
    refine yop (pB rfl) ?_
    refine ygF rfl ?_
    refine ygF rfl ?_
    refine ygT rfl ?_
    refine yop (pPickF rfl rfl) ?_
    refine yp (pPickF rfl rfl) ?_
    refine yp (pB rfl) ?_
    refine ygT rfl ?_
    refine yop (pB rfl) ?_
    refine ygT rfl ?_
    refine yop (pB rfl) ?_
    refine ygT rfl ?_
    refine yop (pI rfl) ?_
    refine ygT rfl ?_
    refine yop (pGt rfl rfl) ?_
    refine ygT rfl ?_
    refine yop (pPickT rfl rfl) ?_
    refine ygT rfl ?_
    refine yop (pB rfl) ?_
    refine ygF rfl ?_
    refine ygF rfl ?_
    refine ygF rfl ?_
    refine ygF rfl ?_
    refine ygF rfl ?_
    refine ygF rfl ?_
    refine ygF rfl ?_
    refine ygF rfl ?_
    refine ygF rfl ?_
    refine ygT rfl ?_
    refine yop (pPickF rfl rfl) ?_
    refine yp (pPickF rfl rfl) ?_
    refine yp (pB rfl) ?_
    refine ygT rfl ?_
    refine yop (pB rfl) ?_
    refine ygT rfl ?_
    refine yop (pB rfl) ?_
    refine ygT rfl ?_
    refine yop (pP rfl) ?_
    refine ygT rfl ?_
    refine yop (pS rfl) ?_
    refine ygT rfl ?_
    refine yop (pI rfl) ?_
    refine ygT rfl ?_
    refine yop (pIxN rfl rfl (by omega)) ?_
    refine ygT rfl ?_
    refine hld rfl ?_
    refine ygT rfl ?_
    refine ycall (rnFold Y hY2) rfl rfl fun r S' h => ?_
    obtain ⟨rfl, rfl⟩ := h
    refine ygT rfl ?_
    refine ycall (tbCost hT2 (foldB Y) (by omega)) rfl rfl fun r S' h => ?_
    obtain ⟨rfl, rfl⟩ := h
    rw [hff, if_pos (.inl hby)]
    refine ygT rfl ?_
    refine yop (pNe rfl rfl) ?_
    refine ygT rfl ?_
    refine yop (pPickT rfl rfl) ?_
    refine yp (pPickF rfl rfl) ?_
    refine ynil ?_
    refine tnorm ?_
    refine ycondF rfl ?_
    refine yskip ?_
    refine bnorm ?_
    refine tnorm ?_
    refine yregion ?_
    refine yp (pI rfl) ?_
    refine yp (pInc rfl rfl (by omega)) ?_
    refine yp (pI rfl) ?_
    refine ynil ?_
    refine tnorm ?_
    exact ⟨i + 1, ⟨D2, H2, T2, _, ⟨rfl, rfl, rfl, rfl, trivial⟩, by omega, hT2, hA2, hI2, hu2, by rw [hst, hus2]; omega, .of⟩, by omega⟩
  | false =>
    rw [if_neg (by simp), hcst]
    have hE : addE 65536 D M Y = 0 := by
      unfold addE
      rw [if_neg (by rw [hv]; decide), hb, if_neg (by decide)]
      unfold allocE
      rw [hcst, if_neg (by omega), if_neg (by omega)]
    refine ycons (ycall (tbAddOk hT hA hI hu60 Y hY2 hE) rfl rfl fun r S' h => ?_)
    obtain ⟨rfl, T2, H2, D2, hT2, hA2, hI2, hs2, rfl⟩ := h
    have hus2 : usedD D2 = usedD D + costN (8 + Y.length) := by rw [shp_used hs2]; unfold addD; rw [if_neg (by rw [hb]; decide), alloc_used, hfl]
    have hby := addL_by (D := D) (L := M) (n := foldB Y)
    have hu2 := addL_u (D := D) (n := foldB Y) hu
    refine yp (pU rfl) ?_
    refine yp (pExt rfl rfl) ?_
    refine yp (pExt rfl rfl) ?_
    refine yp (pI rfl) ?_
    refine yp (pI rfl) ?_
    refine ynil ?_
    refine tnorm ?_
    refine yseq ?_
    refine yregion ?_
    refine yp (pS rfl) ?_
    refine yp (pI rfl) ?_
    refine yp (pIxN rfl rfl (by omega)) ?_
    refine ycons (hld rfl ?_)
    refine ycons (ycall (rnValid Y hY2) rfl rfl fun r S' h => ?_)
    obtain ⟨rfl, rfl⟩ := h
    rw [hv]
    refine yp (pB rfl) ?_
    refine ynil ?_
    refine tnorm ?_
    refine yseq ?_
    refine yregion ?_
    refine yp (pI rfl) ?_
    refine yp (pEq rfl rfl) ?_
    refine yp (pB rfl) ?_
    refine yp (pNeB rfl rfl) ?_
    refine yp (pB rfl) ?_
    refine ygT rfl ?_
    refine yop (pP rfl) ?_
    refine ygT rfl ?_
    refine ycall (arUsedA hA2) rfl rfl fun r S' h => ?_
    obtain ⟨rfl, rfl⟩ := h
    refine ygT rfl ?_
    refine yop (pI rfl) ?_
    refine ygT rfl ?_
    refine yop (pI rfl) ?_
    refine ygT rfl ?_
    refine yop (pAddN rfl rfl (by omega)) ?_
    refine ygT rfl ?_
    refine yop (pNe rfl rfl) ?_
    refine yp (pPickF rfl rfl) ?_
    refine yp (pB rfl) ?_
    rw [hus2, decide_eq_true rfl]
    refine ygT rfl ?_
    refine yop (pB rfl) ?_
    refine ygT rfl ?_
    refine yop (pB rfl) ?_
    refine ygT rfl ?_
    refine yop (pI rfl) ?_
    refine ygT rfl ?_
    refine yop (pEq rfl rfl) ?_
    refine ygT rfl ?_
    refine yop (pB rfl) ?_
    refine ygT rfl ?_
    refine yop (pNeB rfl rfl) ?_
    refine ygT rfl ?_
    refine yop (pPickT rfl rfl) ?_
    refine yp (pPickF rfl rfl) ?_
    refine yp (pB rfl) ?_
    rw [decide_eq_false (show ¬ ((costN (8 + Y.length) : Nat) : Int) = 0 from by omega)]
    refine ygT rfl ?_
    refine yop (pB rfl) ?_
    refine ygT rfl ?_
    refine yop (pNot rfl) ?_
    refine ygT rfl ?_
    refine yop (pB rfl) ?_
    refine ygF rfl ?_
    refine ygF rfl ?_
    refine ygT rfl ?_
    refine yop (pPickF rfl rfl) ?_
    refine yp (pPickF rfl rfl) ?_
    refine yp (pB rfl) ?_
    refine ygT rfl ?_
    refine yop (pB rfl) ?_
    refine ygT rfl ?_
    refine yop (pB rfl) ?_
    refine ygT rfl ?_
    refine yop (pI rfl) ?_
    refine ygT rfl ?_
    refine yop (pGt rfl rfl) ?_
    refine ygT rfl ?_
    refine yop (pPickT rfl rfl) ?_
    refine ygT rfl ?_
    refine yop (pB rfl) ?_
    rw [decide_eq_true (show (0 : Int) < ((costN (8 + Y.length) : Nat) : Int) from by omega)]
    refine ygT rfl ?_
    refine yop (pI rfl) ?_
    refine ygT rfl ?_
    refine yop (pS rfl) ?_
    refine ygT rfl ?_
    refine yop (pI rfl) ?_
    refine ygT rfl ?_
    refine yop (pIxN rfl rfl (by omega)) ?_
    refine ygT rfl ?_
    refine hld rfl ?_
    refine ygT rfl ?_
    refine yop (pLenS rfl) ?_
    refine ygT rfl ?_
    rw [szS]
    refine yop (pAdd rfl rfl (by omega)) ?_
    refine ygT rfl ?_
    refine ycall (arCost ((Y.length : Int) + 8)) rfl rfl fun r S' h => ?_
    obtain ⟨rfl, rfl⟩ := h
    rw [hcst2]
    refine ygT rfl ?_
    refine yop (pNe rfl rfl) ?_
    refine ygT rfl ?_
    refine yop (pPickT rfl rfl) ?_
    refine yp (pPickF rfl rfl) ?_
    refine yp (pB rfl) ?_
    rw [decide_eq_true rfl]
    refine ygT rfl ?_
    refine yop (pB rfl) ?_
    refine ygT rfl ?_
    refine yop (pB rfl) ?_
    refine ygT rfl ?_
    refine yop (pP rfl) ?_
    refine ygT rfl ?_
    refine yop (pS rfl) ?_
    refine ygT rfl ?_
    refine yop (pI rfl) ?_
    refine ygT rfl ?_
    refine yop (pIxN rfl rfl (by omega)) ?_
    refine ygT rfl ?_
    refine hld rfl ?_
    refine ygT rfl ?_
    refine ycall (rnFold Y hY2) rfl rfl fun r S' h => ?_
    obtain ⟨rfl, rfl⟩ := h
    refine ygT rfl ?_
    refine ycall (tbCost hT2 (foldB Y) (by omega)) rfl rfl fun r S' h => ?_
    obtain ⟨rfl, rfl⟩ := h
    rw [hff, if_pos (.inl hby)]
    refine ygT rfl ?_
    refine yop (pNe rfl rfl) ?_
    refine ygT rfl ?_
    refine yop (pPickT rfl rfl) ?_
    refine yp (pPickF rfl rfl) ?_
    refine ynil ?_
    refine tnorm ?_
    refine ycondF rfl ?_
    refine yskip ?_
    refine bnorm ?_
    refine tnorm ?_
    refine yregion ?_
    refine yp (pI rfl) ?_
    refine yp (pInc rfl rfl (by omega)) ?_
    refine yp (pI rfl) ?_
    refine ynil ?_
    refine tnorm ?_
    exact ⟨i + 1, ⟨D2, H2, T2, _, ⟨rfl, rfl, rfl, rfl, trivial⟩, by omega, hT2, hA2, hI2, hu2, by rw [hst, hus2]; omega, .of⟩, by omega⟩
end Go.Proofs.Ytkdbajfaaifkaaa
