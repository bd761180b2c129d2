/- The document's own answer (freshetref1): names in data. The document's own answer (freshetref6): sets alike, sets folded. freshetalike: a name of a number, an address's set. The laws of chapter 8: what they begin with, what the document fixes. -/
import Derived.Test.YtejmbmenbailmaaP1
import Derived.Test.YtejmbmenbailmaaP3
import Derived.Test.YtejmbmenbailmaaFRefS
import Derived.Test.YtejmbmenbailmaaAlk
import Derived.Test.YtejmbmenbailmaaFLawP
namespace Go.Proofs.Ytejmbmenbailmaa
open Go.Xs
open Enc (enc)

def endV (d : Bs) (a : Nat) : Value := if (lead (d.drop a)).2 = true then .tuple #[.int .i64 ((a + (lead (d.drop a)).1 : Nat) : Int), .bool true] else .tuple #[.int .i64 0, .bool false]
theorem rnEnd (d : Bs) (a : Nat) (hd : d.length < 2 ^ 40) (_ha : a < 2 ^ 41) : Tri Try.prog 77 #[sv d, .int .i64 (a : Int)] [] (fun r S => r = endV d a ∧ S = []) := by
  refine Tri.forget (ycallee Try.fx77 (Nat.le_of_ble_eq_true rfl) ?_)
  unfold Try.x77
  refine yseq (yregion (yp pC (yp pC (ynil (tnorm (yseq (yseq (yregion (yp (pI rfl) (yp (pI rfl) (ynil (tnorm (yblock ?_)))))))))))))
  refine yloop (σ := Nat) (fun j E S => Has E [(0, sv d), (1, .int .i64 (a : Int)), (6, .int .i64 ((a + j : Nat) : Int))] ∧ (j ≤ 300 ∧ ∀ m, 1 ≤ m → m ≤ j → vld ((d.drop a).take m) = false) ∧ (j = 0 ∨ a + j ≤ d.length) ∧ Junk S []) (fun j => 400 - j) 0 ⟨⟨rfl, rfl, rfl, trivial⟩, ⟨Nat.zero_le _, fun m h1 h2 => by omega⟩, .inl rfl, .of⟩ fun j E S ⟨hE, ⟨hj, hall⟩, hjl, hJ⟩ => ?_
  have hno : ∀ k, (∀ m, 1 ≤ m → m ≤ k → vld ((d.drop a).take m) = false) → (255 ≤ k ∨ d.length ≤ a + k) → endV d a = .tuple #[.int .i64 0, .bool false] := fun k h1 h2 => by
    unfold endV
    split
    · next h3 =>
      have hl : lead (d.drop a) = ((lead (d.drop a)).1, true) := by rw [← h3]
      obtain ⟨h4, h5, h6⟩ := lead_pos hl
      have h7 := (lead_iff.1 hl).2
      rw [List.length_drop] at h6
      rw [h1 _ h4 (by omega)] at h7; cases h7
    · rfl
  obtain ⟨E0, e0⟩ := has_puts hE; subst e0; clear hE
  refine yforget hJ (yseq (yseq (yregion (yp (pI rfl) (yp (pT rfl) (yp (pLenS rfl) (yp (pLt rfl rfl) (ynil (tnorm ?_)))))))))
  rw [szS]
  refine ycondD rfl (fun h1 => ?_) (fun h1 => ?_)
  · have hlt : a + j < d.length := by omega
    refine yskip (tnorm (yseq (yblock (yseq (yseq (yregion (yp (pT rfl) (yp (pI rfl) (yp (pI rfl) (yp (pInc rfl rfl (by omega)) (yp (pSvFT (Y := d) (j := a) (k := a + j + 1) rfl rfl rfl ⟨by omega, by omega⟩) ?_)))))))))))
    rw [show a + j + 1 - a = j + 1 from by omega]
    have htl : ((d.drop a).take (j + 1)).length = j + 1 := by rw [List.length_take, List.length_drop]; omega
    refine ycons (ycall (rnValid ((d.drop a).take (j + 1)) (by rw [htl]; omega)) rfl rfl fun r' S' h => ?_)
    obtain ⟨rfl, rfl⟩ := h
    cases hv : vld ((d.drop a).take (j + 1)) with
    | true =>
      have hl : lead (d.drop a) = (j + 1, true) := lead_iff.2 ⟨by rw [List.length_drop]; omega, hv⟩
      have he : endV d a = .tuple #[.int .i64 ((a + j + 1 : Nat) : Int), .bool true] := by unfold endV; rw [hl, if_pos rfl]; rfl
      refine ynil (tnorm (ycondT rfl (yseq (yregion (yp (pI rfl) (yp (pInc rfl rfl (by omega)) (yp (pI rfl) (yp pC (ynil (tnorm (yret (tret (bret (tret (tret (bret (tret ?_)))))))))))))))))
      exact yfin (rIB rfl rfl) ⟨_, .of, by rw [he], rfl⟩
    | false =>
      have hall2 : ∀ m, 1 ≤ m → m ≤ j + 1 → vld ((d.drop a).take m) = false := fun m h2 h3 => by
        rcases Nat.lt_or_ge j m with h4 | h4
        · obtain rfl : m = j + 1 := by omega
          exact hv
        · exact hall m h2 h4
      refine ynil (tnorm (ycondF rfl (yskip (tnorm (yseq (yregion (yp (pI rfl) (yp (pI rfl) (yp (pSub rfl rfl (by omega)) (yp (pGt rfl rfl) (ynil (tnorm ?_))))))))))))
      by_cases h2 : 255 < ((a + j : Nat) : Int) - (a : Int)
      · rw [decide_eq_true h2]
        refine ycondT rfl (yseq (yregion (yp pC (yp pC (ynil (tnorm (yret (bret (tret (tret (bret (tret ?_))))))))))))
        exact yfin (rIB rfl rfl) ⟨_, .of, by rw [hno (j + 1) hall2 (.inl (by omega))], rfl⟩
      · rw [decide_eq_false h2]
        refine ycondF rfl (yskip (bnorm (tnorm (yregion (yp (pI rfl) (yp (pInc rfl rfl (by omega)) (yp (pI rfl) (ynil (tnorm ?_)))))))))
        exact ⟨j + 1, ⟨⟨rfl, rfl, rfl, trivial⟩, ⟨by omega, hall2⟩, .inr (by omega), .of⟩, by omega⟩
  · refine yexit (texit (texit (bexit (tnorm (yseq (yregion (yp pC (yp pC (ynil (tnorm (yret ?_)))))))))))
    exact yfin (rIB rfl rfl) ⟨_, .of, by rw [hno j hall (.inr (by omega))], rfl⟩
theorem txt_iff (d : Bs) : txt d = (decide (0 < d.length) && txF (d.length + 1) d 0) := by
  unfold txt
  cases d with
  | nil => rfl
  | cons b l => rw [decide_eq_true (show 0 < (b :: l).length from by simp)]; rfl
theorem plc_ge {d : Bs} : ∀ {k a : Nat} {l : List Pl} {e : Nat}, plc d k a = some (l, e) → 1 ≤ k → a ≤ d.length
  | 0, _, _, _, _, h => by omega
  | k + 1, a, l, e, h, _ => by
    unfold plc at h
    split at h
    · next h2 =>
      have hl : lead (d.drop a) = ((lead (d.drop a)).1, true) := by rw [← h2]
      have hp := lead_pos hl
      rw [List.length_drop] at hp
      omega
    · cases h
theorem rnParts (t : Int) (d : Bs) (hd : d.length < 2 ^ 40) : Tri Try.prog 66 #[.int .i64 t, sv d] [] (fun r S => ∃ v L H, r = .tuple #[v, .bool (dataOk t d)] ∧ Slc 116 v (L : List Pl) H ∧ (dataOk t d = true → L = prt t d) ∧ S = [H]) := by
  refine Tri.forget (ycallee Try.fx66 (Nat.le_of_ble_eq_true rfl) ?_)
  unfold Try.x66
  have hnil : ∀ {v : Value} {b : Bool}, dataOk t d = b → (b = true → prt t d = []) → v = .tuple #[.slice none 0 0, .bool b] → ∀ S, ∃ S'', Junk S S'' ∧ ∃ w L H, v = .tuple #[w, .bool (dataOk t d)] ∧ Slc 116 w (L : List Pl) H ∧ (dataOk t d = true → L = prt t d) ∧ S'' = [H] := fun h h2 hv S => ⟨[[]], ⟨S.flatten, by simp⟩, _, [], [], by rw [h]; exact hv, .nil, fun hl => (h2 (h.symm.trans hl)).symm, rfl⟩
  have hok : dataOk t d = (if 1000 < d.length then false else if t = 1 then d.length == 4 else if t = 28 then d.length == 16 else if t = 16 then txt d else (pls t d).isSome) := rfl
  refine yseq (yregion (yp pC (yp pC (ynil (tnorm (yseq (yseq (yregion (yp (pT rfl) (yp (pLenS rfl) (yp (pGt rfl rfl) (ynil (tnorm ?_)))))))))))))
  rw [szS]
  by_cases h0 : 1000 < d.length
  · rw [decide_eq_true (show (1000 : Int) < (d.length : Int) from by omega)]
    refine ycondT rfl (yseq (yregion (yp pC (yp pC (ynil (tnorm (yret (tret ?_))))))))
    exact yfin (rSB rfl rfl) (hnil (b := false) (by rw [hok, if_pos h0]) (fun h => by cases h) rfl _)
  rw [decide_eq_false (show ¬ (1000 : Int) < (d.length : Int) from by omega)]
  rw [if_neg h0] at hok
  refine ycondF rfl (yskip (tnorm (yseq (yregion (yp pC (yp pC (yp pC (ynil (tnorm ?_)))))))))
  refine ycutQ (fun E S => ∃ a k b, shapeR t = some (a, k, b) ∧ Has E [(1, sv d), (6, .int .i64 (a : Int)), (7, .int .i64 (k : Int)), (8, .int .i64 (b : Int))] ∧ Junk S []) ?_ ?_
  · refine yseq (yregion (yp (pI rfl) (ynil (tnorm (yblock (yseq (yregion (yp (pEq rfl rfl) (yp (pB rfl) (ynil (tnorm ?_)))))))))))
    by_cases h1 : t = 1
    · rw [decide_eq_true h1]
      rw [if_pos h1] at hok
      refine ycondT rfl (yseq (yregion (yp (pT rfl) (yp (pLenS rfl) (yp (pEq rfl rfl) (yp pC (yp (pB rfl) (ynil (tnorm (yret (bret (tret ?_))))))))))))
      rw [szS]
      skip
      rw [decB4]
      exact yfin (rSB rfl rfl) (hnil hok (fun _ => by rw [h1]; exact prt_none rfl) rfl _)
    rw [decide_eq_false h1]
    rw [if_neg h1] at hok
    refine ycondF rfl (yseq (yregion (yp (pEq rfl rfl) (yp (pB rfl) (ynil (tnorm ?_))))))
    by_cases h2 : t = 28
    · rw [decide_eq_true h2]
      rw [if_pos h2] at hok
      refine ycondT rfl (yseq (yregion (yp (pT rfl) (yp (pLenS rfl) (yp (pEq rfl rfl) (yp pC (yp (pB rfl) (ynil (tnorm (yret (bret (tret ?_))))))))))))
      rw [szS]
      skip
      rw [decB16]
      exact yfin (rSB rfl rfl) (hnil hok (fun _ => by rw [h2]; exact prt_none rfl) rfl _)
    rw [decide_eq_false h2]
    rw [if_neg h2] at hok
    refine ycondF rfl (yseq (yregion (yp (pEq rfl rfl) (yp (pB rfl) (ynil (tnorm ?_))))))
    by_cases h3 : t = 16
    · rw [decide_eq_true h3]
      rw [if_pos h3, txt_iff] at hok
      have hpn : prt t d = [] := by rw [h3]; exact prt_none rfl
      refine ycondT rfl (yseq (yregion (yp pC (ynil (tnorm (yseq (yblock ?_)))))))
      refine yloop (σ := Nat) (fun a E S => Has E [(1, sv d), (9, .int .i64 (a : Int))] ∧ a ≤ d.length + 256 ∧ (∃ f, txF (d.length + 1) d 0 = txF f d a ∧ d.length + 1 ≤ f + a ∧ 1 ≤ f) ∧ Junk S []) (fun a => d.length + 300 - a) 0 ⟨⟨rfl, rfl, trivial⟩, Nat.zero_le _, ⟨_, rfl, Nat.le_refl _, by omega⟩, .of⟩ fun a E S ⟨hE, ha, ⟨f, hf, hfl, hf1⟩, hJ⟩ => ?_
      obtain ⟨f, rfl⟩ : ∃ g, f = g + 1 := ⟨f - 1, by omega⟩
      obtain ⟨E0, e0⟩ := has_puts hE; subst e0; clear hE
      refine yforget hJ (yseq (yseq (yregion (yp (pI rfl) (yp (pT rfl) (yp (pLenS rfl) (yp (pLt rfl rfl) (ynil (tnorm ?_)))))))))
      rw [szS]
      refine ycondD rfl (fun h4 => ?_) (fun h4 => ?_)
      · have hlt : a < d.length := by omega
        have hy : d[a]? = some d[a] := List.getElem?_eq_getElem hlt
        generalize d[a] = b at hy
        have hb := b.toNat_lt
        rw [txF_step hy] at hf
        refine yskip (tnorm (yblock (yregion (yp (pI rfl) (yp (pInc rfl rfl (by omega)) (yp (pT rfl) (yp (pI rfl) (yp (pSIy rfl rfl hy) (yp (pCvB rfl) (yp (pAddN rfl rfl (by omega)) (yp (pI rfl) (ynil (bnorm (tnorm ?_))))))))))))))
        exact ⟨a + 1 + b.toNat, ⟨⟨rfl, rfl, trivial⟩, by omega, ⟨f, hf, by omega, by omega⟩, .of⟩, by omega⟩
      · rw [txF_end (f := f) (a := a) (by omega)] at hf
        rw [hf] at hok
        refine yexit (texit (texit (bexit (tnorm (yseq (yregion (yp (pT rfl) (yp (pLenS rfl) (yp (pGt rfl rfl) (yp (pB rfl) ?_))))))))))
        rw [szS]
        by_cases h5 : 0 < d.length
        · rw [decide_eq_true (show (0 : Int) < (d.length : Int) from by omega)]
          rw [decide_eq_true h5] at hok
          refine ygT rfl (yop (pI rfl) (ygT rfl (yop (pT rfl) (ygT rfl (yop (pLenS rfl) (ygT rfl (yop (pEq rfl rfl) (yp (pPickT rfl rfl) (yp pC (yp (pB rfl) (ynil (tnorm (yret (bret (tret ?_)))))))))))))))
          rw [szS]
          skip
          have h6 : decide ((a : Int) = (d.length : Int)) = (a == d.length) := by
            by_cases h : a = d.length
            · rw [decide_eq_true (by omega), beq_iff_eq.2 h]
            · rw [decide_eq_false (by omega), beq_eq_false_iff_ne.2 h]
          rw [h6]
          exact yfin (rSB rfl rfl) (hnil hok (fun _ => hpn) rfl _)
        · rw [decide_eq_false (show ¬ (0 : Int) < (d.length : Int) from by omega)]
          rw [decide_eq_false h5] at hok
          refine ygF rfl (ygF rfl (ygF rfl (ygF rfl (yp (pPickF rfl rfl) (yp pC (yp (pB rfl) (ynil (tnorm (yret (bret (tret ?_)))))))))))
          exact yfin (rSB rfl rfl) (hnil hok (fun _ => hpn) rfl _)
    rw [decide_eq_false h3]
    rw [if_neg h3] at hok
    refine ycondF rfl (yseq (yregion (yp (pEq rfl rfl) (yp (pB rfl) (ynil (tnorm ?_))))))
    by_cases h4 : t = 15
    · rw [decide_eq_true h4]
      refine ycondT rfl (yregion (yp pC (ynil (bnorm (tnorm ?_)))))
      exact ⟨2, 1, 0, by rw [h4]; rfl, ⟨rfl, rfl, rfl, rfl, trivial⟩, .of⟩
    rw [decide_eq_false h4]
    refine ycondF rfl (yseq (yregion (yp (pEq rfl rfl) (yp (pB rfl) (ynil (tnorm ?_))))))
    by_cases h5 : t = 33
    · rw [decide_eq_true h5]
      refine ycondT rfl (yregion (yp pC (ynil (bnorm (tnorm ?_)))))
      exact ⟨6, 1, 0, by rw [h5]; rfl, ⟨rfl, rfl, rfl, rfl, trivial⟩, .of⟩
    rw [decide_eq_false h5]
    refine ycondF rfl (yseq (yregion (yp (pEq rfl rfl) (yp (pB rfl) (ynil (tnorm ?_))))))
    by_cases h6 : t = 6
    · rw [decide_eq_true h6]
      refine ycondT rfl (yregion (yp pC (yp pC (ynil (bnorm (tnorm ?_))))))
      exact ⟨0, 2, 20, by rw [h6]; rfl, ⟨rfl, rfl, rfl, rfl, trivial⟩, .of⟩
    rw [decide_eq_false h6]
    refine ycondF rfl (yseq (yseq (yregion (yp (pEq rfl rfl) (yp (pB rfl) (ynil (tnorm ?_)))))))
    by_cases h7 : t = 2
    · rw [decide_eq_true h7]
      refine ycondT rfl (yskip (tnorm (ycondT rfl (yskip (bnorm (tnorm ?_))))))
      exact ⟨0, 1, 0, by rw [h7]; rfl, ⟨rfl, rfl, rfl, rfl, trivial⟩, .of⟩
    rw [decide_eq_false h7]
    refine ycondF rfl (yseq (yregion (yp (pEq rfl rfl) (yp (pB rfl) (ynil (tnorm ?_))))))
    by_cases h8 : t = 5
    · rw [decide_eq_true h8]
      refine ycondT rfl (yskip (tnorm (ycondT rfl (yskip (bnorm (tnorm ?_))))))
      exact ⟨0, 1, 0, by rw [h8]; rfl, ⟨rfl, rfl, rfl, rfl, trivial⟩, .of⟩
    rw [decide_eq_false h8]
    refine ycondF rfl (yregion (yp (pEq rfl rfl) (yp (pB rfl) (ynil (tnorm ?_)))))
    by_cases h9 : t = 12
    · rw [decide_eq_true h9]
      refine ycondT rfl (yskip (bnorm (tnorm ?_)))
      exact ⟨0, 1, 0, by rw [h9]; rfl, ⟨rfl, rfl, rfl, rfl, trivial⟩, .of⟩
    rw [decide_eq_false h9]
    have hsn : shapeR t = none := by
      unfold shapeR
      rw [if_neg (by omega), if_neg (by omega), if_neg (by omega), if_neg (by omega)]
    refine ycondF rfl (yseq (yregion (yp pC (yp pC (ynil (tnorm (yret (bret (tret ?_)))))))))
    exact yfin (rSB rfl rfl) (hnil (b := true) (by rw [hok]; unfold pls; rw [hsn]; rfl) (fun _ => prt_none hsn) rfl _)
  intro E S ⟨a, k, b, hsh, hE, hJ⟩
  obtain ⟨hs1, hs2, hs3⟩ := shapeR_le hsh
  obtain ⟨hn1, hn2, hn3⟩ := shapeR_not' hsh
  rw [if_neg hn1, if_neg hn2, if_neg hn3] at hok
  have hp : pls t d = if d.length < a then none else match plc d k a with
      | some (l, e) => if d.length = e + b then some l else none
      | none => none := by unfold pls; rw [hsh]; rfl
  simp only at hs1 hs2 hs3
  obtain ⟨E0, e0⟩ := has_puts hE; subst e0; clear hE
  refine yforget hJ (yseq (yregion (yp pC (ynil (tnorm (yseq (yregion (yp (pI rfl) (yp (pI rfl) (ynil (tnorm (yseq (yseq (yregion (yp pC (ynil (tnorm (yblock ?_))))))))))))))))))
  refine yloop (σ := Nat) (fun i E S => ∃ (v : Value) (L : List Pl) (H : List Chunk) (e : Nat), Has E [(1, sv d), (7, .int .i64 (k : Int)), (8, .int .i64 (b : Int)), (11, .int .i64 (e : Int)), (12, .int .i64 (i : Int))] ∧ E 10 = v ∧ Slc 116 v L H ∧ L.length = i ∧ i ≤ k ∧ (e ≤ d.length ∨ e = a ∧ i = 0) ∧ (a ≤ d.length → e ≤ d.length) ∧ plc d k a = (plc d (k - i) e).map (fun x => (L ++ x.1, x.2)) ∧ Junk S [H]) (fun i => k - i) 0
    ⟨_, [], [], a, ⟨rfl, rfl, rfl, rfl, rfl, trivial⟩, rfl, .nil, rfl, Nat.zero_le _, .inr ⟨rfl, rfl⟩, id, by cases plc d (k - 0) a <;> rfl, .of⟩ fun i E S ⟨v, L, H, e, hE, hE4, hL, hLl, hi, he, hae, hx, hJ⟩ => ?_
  obtain ⟨la, lc, rfl⟩ := hL.isSlice
  have hE2 : Has E [(1, sv d), (7, .int .i64 (k : Int)), (8, .int .i64 (b : Int)), (10, .slice la L.length lc), (11, .int .i64 (e : Int)), (12, .int .i64 (i : Int))] := ⟨hE.1, hE.2.1, hE.2.2.1, hE4, hE.2.2.2⟩
  clear hE hE4
  obtain ⟨E0, e0⟩ := has_puts hE2; subst e0; clear hE2
  refine yforget hJ (yseq (yseq (yregion (yp (pI rfl) (yp (pI rfl) (yp (pLt rfl rfl) (ynil (tnorm ?_))))))))
  refine ycondD rfl (fun h2 => ?_) (fun h2 => ?_)
  · obtain ⟨m, hm⟩ : ∃ m, k - i = m + 1 := ⟨k - i - 1, by omega⟩
    rw [hm, plc] at hx
    refine yskip (tnorm (yseq (yblock (yseq (yregion (yp (pT rfl) (yp (pI rfl) ?_)))))))
    refine ycons (ycall (rnEnd d e hd (by omega)) rfl rfl fun r' S' h => ?_)
    obtain ⟨rfl, rfl⟩ := h
    unfold endV
    cases hb : (lead (d.drop e)).2 with
    | false =>
      rw [hb, if_neg (by decide)] at hx
      rw [hx] at hp
      have hpn : pls t d = none := by rw [hp]; split <;> rfl
      rw [hpn] at hok
      rw [if_neg (by decide)]
      refine yp (pU rfl) (yp (pExt rfl rfl) (yp (pExt rfl rfl) (yp (pI rfl) (yp (pB rfl) (ynil (tnorm (yseq (yseq (yregion (yp (pB rfl) (yp (pNot rfl) (ynil (tnorm (ycondT rfl (yseq (yregion (yp pC (yp pC (ynil (tnorm (yret (tret (bret (tret (tret (bret (tret ?_)))))))))))))))))))))))))))
      exact yfin (rSB rfl rfl) (hnil (b := false) hok (fun h => by cases h) rfl _)
    | true =>
      rw [hb, if_pos rfl] at hx
      rw [if_pos rfl]
      have hl := lead_pos (show lead (d.drop e) = ((lead (d.drop e)).1, true) from by rw [← hb])
      rw [List.length_drop] at hl
      generalize (lead (d.drop e)).1 = n at hx hl
      refine yp (pU rfl) (yp (pExt rfl rfl) (yp (pExt rfl rfl) (yp (pI rfl) (yp (pB rfl) (ynil (tnorm (yseq (yseq (yregion (yp (pB rfl) (yp (pNot rfl) (ynil (tnorm (ycondF rfl (yskip (tnorm (yseq (yregion (yp (pS rfl) (yp (pI rfl) (yp (pI rfl) (yp (pI rfl) (yp (pSub rfl rfl (by omega)) (yp (pBuild2 (scI rfl) (scI rfl)) ?_))))))))))))))))))))))))
      rw [show ((e + n : Nat) : Int) - (e : Int) = (n : Int) from by omega]
      skip
      refine ycons (ybsl1 (⟨e, n⟩ : Pl) rfl rfl (by decide) (by decide) rfl fun p43 => ?_)
      refine ycons (yapp (Y := [(⟨e, n⟩ : Pl)]) rfl rfl hL (.lit (by repeat (first | exact List.mem_cons_self | apply List.mem_cons_of_mem)) rfl) rfl (⟨0, 0⟩ : Pl) rfl (by simp; omega) (by simp; omega) fun v2 H2 hL2 => ?_)
      obtain ⟨la2, lc2, rfl⟩ := hL2.isSlice
      refine yp (pS rfl) (ynil (tnorm (yregion (yp (pI rfl) (yp (pI rfl) (ynil (bnorm (tnorm (yregion (yp (pI rfl) (yp (pInc rfl rfl (by omega)) (yp (pI rfl) (ynil (tnorm ?_))))))))))))))
      refine ⟨i + 1, ⟨.slice la2 (L ++ [(⟨e, n⟩ : Pl)]).length lc2, L ++ [⟨e, n⟩], H2, e + n, ⟨rfl, rfl, rfl, rfl, rfl, trivial⟩, rfl, hL2, by simp [hLl], by omega, .inl (by omega), fun _ => by omega, ?_, .of⟩, by omega⟩
      rw [hx, Option.map_map, show k - (i + 1) = m from by omega]
      congr 1
      funext x
      simp
  · obtain rfl : i = k := by omega
    rw [Nat.sub_self, plc] at hx
    rw [hx] at hp
    simp only [Option.map_some, List.append_nil] at hp
    have hk1 := (shapeR_not hsh).2.2.2
    simp only at hk1
    have had : ¬ d.length < a := by
      rcases he with he | ⟨_, he⟩
      · intro h
        have := plc_ge hx (by omega)
        omega
      · omega
    rw [if_neg had] at hp
    refine yexit (texit (texit (bexit (tnorm (yseq (yseq (yregion (yp (pI rfl) (yp (pI rfl) (yp (pAddN rfl rfl (by omega)) (yp (pT rfl) (yp (pLenS rfl) (yp (pNe rfl rfl) (ynil (tnorm ?_)))))))))))))))
    rw [szS]
    by_cases h3 : d.length = e + b
    · rw [if_pos h3] at hp
      rw [hp] at hok
      replace hok : dataOk t d = true := hok
      rw [decide_eq_true (show ((e + b : Nat) : Int) = (d.length : Int) from by omega)]
      refine ycondF rfl (yskip (tnorm (yseq (yregion (yp (pS rfl) (yp (pS rfl) (yp pC (ynil (tnorm (yret ?_))))))))))
      have hpr : prt t d = L := by unfold prt; rw [if_pos hok, hp]; rfl
      exact yfin (rSB rfl rfl) ⟨_, .of, _, L, H, by rw [hok], hL, fun _ => hpr.symm, rfl⟩
    · rw [if_neg h3] at hp
      rw [hp] at hok
      rw [decide_eq_false (show ¬ ((e + b : Nat) : Int) = (d.length : Int) from by omega)]
      refine ycondT rfl (yseq (yregion (yp pC (yp pC (ynil (tnorm (yret (tret ?_))))))))
      exact yfin (rSB rfl rfl) (hnil (b := false) hok (fun h => by cases h) rfl _)
theorem mkP_at : ∀ (a : Nat) (xs : List Bs) (i : Nat) (h : i < xs.length), (mkP a xs)[i]? = some ⟨a + (xs.take i).flatten.length, xs[i].length⟩
  | _, [], _, h => by simp at h
  | a, x :: xs, 0, _ => rfl
  | a, x :: xs, i + 1, h => by
    have := mkP_at (a + x.length) xs i (by simpa using h)
    show (mkP (a + x.length) xs)[i]? = _
    rw [this]
    simp [Nat.add_assoc]
theorem rnFoldData (t : Int) (d : Bs) (hd : d.length < 2 ^ 40) : Tri Try.prog 42 #[.int .i64 t, sv d] [] (fun r S => r = sv (foldD t d) ∧ S = []) := by
  refine Tri.forget (ycallee Try.fx42 (Nat.le_of_ble_eq_true rfl) ?_)
  unfold Try.x42
  refine yseq (yregion (yp pC (ynil (tnorm (yseq (yregion (yp (pI rfl) (yp (pT rfl) ?_))))))))
  refine ycons (ycall (rnParts t d hd) rfl rfl fun r' S' h => ?_)
  obtain ⟨v, L, H, rfl, hL, hLp, rfl⟩ := h
  obtain ⟨la, lc, rfl⟩ := hL.isSlice
  cases hok : dataOk t d with
  | false =>
    have hf : foldD t d = d := by
      have : prt t d = [] := by unfold prt; rw [if_neg (by rw [hok]; decide)]
      unfold foldD; rw [this]; rfl
    refine yp (pU rfl) (yp (pExt rfl rfl) (yp (pExt rfl rfl) (yp (pS rfl) (yp (pB rfl) (ynil (tnorm (yseq (yseq (yregion (yp (pB rfl) (yp (pNot rfl) (ynil (tnorm (ycondT rfl (yseq (yregion (yp (pT rfl) (yp (pT rfl) (ynil (tnorm (yret (tret ?_))))))))))))))))))))))
    exact yfin (v := sv d) (res1 rfl) ⟨[], ⟨H, by simp⟩, by rw [hf], rfl⟩
  | true =>
  have hLe := hLp hok
  have hd1000 := dataOk_len hok
  cases hsh : shapeR t with
  | none =>
    have hLn : L = [] := by rw [hLe]; exact prt_none hsh
    subst hLn
    refine yp (pU rfl) (yp (pExt rfl rfl) (yp (pExt rfl rfl) (yp (pS rfl) (yp (pB rfl) (ynil (tnorm (yseq (yseq (yregion (yp (pB rfl) (yp (pNot rfl) (ynil (tnorm (ycondF rfl (yskip (tnorm (yseq (yseq (yregion (yp pC (ynil (tnorm (yblock ?_)))))))))))))))))))))))
    refine yloop (σ := Nat) (fun i E S => Has E [(1, sv d), (5, .slice la 0 lc), (7, .int .i64 (i : Int))] ∧ Junk S []) (fun i => 0) 0 ⟨⟨rfl, rfl, rfl, trivial⟩, ⟨H, by simp⟩⟩ fun i E S ⟨hE, hJ⟩ => ?_
    obtain ⟨E0, e0⟩ := has_puts hE; subst e0; clear hE
    refine yforget hJ (yseq (yseq (yregion (yp (pI rfl) (yp (pS rfl) (yp (pLen rfl) (yp (pLt rfl rfl) (ynil (tnorm (ycondF rfl (yexit (texit (texit (bexit (tnorm (yseq (yregion (yp (pT rfl) (yp (pT rfl) (ynil (tnorm (yret ?_))))))))))))))))))))))
    rw [decide_eq_false (show ¬ (i : Int) < ((0 : Nat) : Int) from by omega)]
    skip
    exact yfin (v := sv d) (res1 rfl) ⟨[], .of, by rw [foldD_none hsh], rfl⟩
  | some x =>
    obtain ⟨P, xs, Z, hf, hcut⟩ := form_of hok hsh
    have hpr := (hf.ok hd1000).2
    rw [hpr] at hLe
    have hLl : L.length = xs.length := by rw [hLe, mkP_len]
    have hxl : xs.length ≤ 2 := by
      have := shapeR_le hf.shape
      exact this.2.1
    have hfd := foldD_form hf hd1000
    have hdl : ∀ i, (P ++ ((xs.take i).map foldB).flatten ++ ((xs.drop i).flatten ++ Z)).length = d.length := fun i => by
      have h1 : ((xs.take i).map foldB).flatten.length = (xs.take i).flatten.length := flat_len _ _ (fold_lens _)
      have h2 : xs.flatten.length = (xs.take i).flatten.length + (xs.drop i).flatten.length := by rw [← List.length_append, ← List.flatten_append, List.take_append_drop]
      rw [hf.eq]
      simp only [List.length_append]
      omega
    refine yp (pU rfl) (yp (pExt rfl rfl) (yp (pExt rfl rfl) (yp (pS rfl) (yp (pB rfl) (ynil (tnorm (yseq (yseq (yregion (yp (pB rfl) (yp (pNot rfl) (ynil (tnorm (ycondF rfl (yskip (tnorm (yseq (yseq (yregion (yp pC (ynil (tnorm (yblock ?_)))))))))))))))))))))))
    refine yloop (σ := Nat) (fun i E S => Has E [(1, sv (P ++ ((xs.take i).map foldB).flatten ++ ((xs.drop i).flatten ++ Z))), (5, .slice la L.length lc), (7, .int .i64 (i : Int))] ∧ i ≤ xs.length ∧ Junk S [H]) (fun i => xs.length - i) 0 ⟨⟨by rw [List.take_zero, List.drop_zero, List.map_nil]; show sv d = sv (P ++ [] ++ (xs.flatten ++ Z)); rw [List.append_nil, ← List.append_assoc, ← hf.eq], rfl, rfl, trivial⟩, Nat.zero_le _, .of⟩ fun i E S ⟨hE, hi, hJ⟩ => ?_
    have hdi := hdl i
    obtain ⟨E0, e0⟩ := has_puts hE; subst e0; clear hE
    refine yforget hJ (yseq (yseq (yregion (yp (pI rfl) (yp (pS rfl) (yp (pLen rfl) (yp (pLt rfl rfl) (ynil (tnorm ?_)))))))))
    rw [hLl]
    refine ycondD rfl (fun hlt => ?_) (fun hlt => ?_)
    · have hix : i < xs.length := by omega
      have hiL : i < L.length := by omega
      have hat : L[i] = (⟨P.length + (xs.take i).flatten.length, xs[i].length⟩ : Pl) := by
        have h1 := mkP_at P.length xs i hix
        rw [← hLe, List.getElem?_eq_getElem hiL] at h1
        exact Option.some.inj h1
      have hxd : xs.drop i = xs[i] :: xs.drop (i + 1) := List.drop_eq_getElem_cons hix
      have hxt : xs.take (i + 1) = xs.take i ++ [xs[i]] := List.take_succ_eq_append_getElem hix
      have hvx := hf.vld _ (List.getElem_mem hix)
      have h255 := vld_len hvx
      have hfl := foldB_len xs[i]
      have h1 : (P ++ ((xs.take i).map foldB).flatten).length = P.length + (xs.take i).flatten.length := by rw [List.length_append, flat_len _ _ (fold_lens _)]
      obtain ⟨b2, sp, fz, hz, rfl, _, hc', rfl⟩ := hL.at' (by intro h; simp [h] at hiL)
      rw [hxd, List.flatten_cons] at hdi ⊢
      generalize hA : P ++ ((xs.take i).map foldB).flatten = A at h1 hdi ⊢
      rw [← h1] at hat
      have hdA : (A ++ (xs[i] ++ (xs.drop (i + 1)).flatten ++ Z)).drop A.length = xs[i] ++ (xs.drop (i + 1)).flatten ++ Z := List.drop_left
      have htA : (A ++ (xs[i] ++ (xs.drop (i + 1)).flatten ++ Z)).take A.length = A := List.take_left
      have hdB : (A ++ (xs[i] ++ (xs.drop (i + 1)).flatten ++ Z)).drop (A.length + xs[i].length) = (xs.drop (i + 1)).flatten ++ Z := by rw [← List.drop_drop, hdA, List.append_assoc, List.drop_left]
      have hlA : A.length + xs[i].length ≤ (A ++ (xs[i] ++ (xs.drop (i + 1)).flatten ++ Z)).length := by simp only [List.length_append]; omega
      generalize hW : A ++ (xs[i] ++ (xs.drop (i + 1)).flatten ++ Z) = W at hdA htA hdB hlA hdi ⊢
      have hen : enc L[i] = [.int .i64 (A.length : Int), .int .i64 (xs[i].length : Int)] := by rw [hat]; rfl
      refine yskip (tnorm (yseq (yblock (yseq (yregion (yp (pS rfl) (yp (pI rfl) (yp (pIxN rfl rfl (by omega)) ?_))))))))
      refine ycons (yloadN (l := [.int .i64 (A.length : Int), .int .i64 (xs[i].length : Int)]) rfl ((row_elem hiL rfl).trans hen) rfl ?_)
      refine ycons (yalloc fun p8 => ?_)
      refine ycons (ystAll (c' := [.int .i64 (A.length : Int), .int .i64 (xs[i].length : Int)]) rfl rfl rfl rfl rfl ?_)
      refine ynil (tnorm (ydraw (ytq (pT rfl) (ytq (pFadr rfl) (ytl1 rfl rfl (ytq (pSvTo (Y := W) (j := A.length) rfl rfl (by omega)) ?_))))))
      rw [htA]
      refine ytq (pT rfl) (ytq (pFadr rfl) (ytl1 rfl rfl (ytq (pFadr rfl) (ytl1 rfl rfl (ytq (pFadr rfl) (ytl1 rfl rfl (ytq (pAddN rfl rfl (by omega)) (ytq (pSvFT (Y := W) (j := A.length) (k := A.length + xs[i].length) rfl rfl rfl ⟨by omega, by omega⟩) ?_))))))))
      rw [hdA, show A.length + xs[i].length - A.length = xs[i].length from by omega, List.append_assoc, List.take_left]
      refine ytq (pT rfl) (ytq (pFadr rfl) (ytl1 rfl rfl (ytq (pFadr rfl) (ytl1 rfl rfl (ytq (pAddN rfl rfl (by omega)) (ytq (pSvFrom (Y := W) (j := A.length + xs[i].length) rfl rfl (by omega)) ?_))))))
      rw [hdB]
      refine ytaltC (ycall (rnFold xs[i] (by omega)) rfl rfl fun r' S' h => ?_) ytno
      obtain ⟨rfl, rfl⟩ := h
      refine ⟨fun _ hs => hs, ?_⟩
      refine ytq (pCat (Y := A) (Z := foldB xs[i]) rfl rfl (by omega)) (ytq (pCat (Y := A ++ foldB xs[i]) (Z := (xs.drop (i + 1)).flatten ++ Z) rfl rfl (by rw [← hW] at hdi; simp only [List.length_append] at hdi ⊢; omega)) (ytq (pT rfl) (ytdone (bnorm (tnorm (yregion (yp (pI rfl) (yp (pInc rfl rfl (by omega)) (yp (pI rfl) (ynil (tnorm ?_)))))))))))
      refine ⟨i + 1, ⟨⟨?_, rfl, rfl, trivial⟩, by omega, .of⟩, by omega⟩
      show sv _ = sv _
      rw [hxt, List.map_append, List.flatten_append, ← hA]
      simp
    · have hxi : xs.take i = xs := List.take_of_length_le (by omega)
      have hxd : xs.drop i = [] := List.drop_eq_nil_of_le (by omega)
      rw [hxi, hxd]
      refine yexit (texit (texit (bexit (tnorm (yseq (yregion (yp (pT rfl) (yp (pT rfl) (ynil (tnorm (yret ?_)))))))))))
      exact yfin (v := sv (P ++ (xs.map foldB).flatten ++ ([].flatten ++ Z))) (res1 rfl) ⟨[], ⟨H, by simp⟩, by rw [hfd]; rfl, rfl⟩
end Go.Proofs.Ytejmbmenbailmaa
namespace Go.Proofs.Ytejmbmenbailmaa
open Go.Xs
open Enc (enc)

theorem pEqs2 {E : Env} {x y : Operand} {n : Bs} {t : Int} (h1 : ev E x = .agg #[sv n, .int .i64 t]) (h2 : ev E y = .agg #[sv n, .int .i64 t]) : pstep (ev E) (.eqs true [(0, 1), (1, 0)] x y) = some (.bool false) := by
  simp [pstep, h1, h2, xeqs, xeq1]
theorem pEqs5 {E : Env} {x y : Operand} {r : RR} (h1 : ev E x = .agg (enc r).toArray) (h2 : ev E y = .agg (enc r).toArray) : pstep (ev E) (.eqs true [(0, 1), (1, 0), (2, 0), (3, 0), (4, 1)] x y) = some (.bool false) := by
  have e : (enc r).toArray = #[sv r.n, .int .i64 r.t, .int .i64 r.c, .int .i64 r.ttl, sv r.d] := rfl
  rw [e] at h1 h2
  simp [pstep, h1, h2, xeqs, xeq1]
set_option maxRecDepth 10000 in
theorem rsSame {S : Segs} {s : St} {v v' : Value} (hs : s.rrs.length < 2 ^ 40) (hv : Src S v s.rrs) (hv' : Src S v' s.rrs) : Tri Try.prog 23 #[.agg (scl s v), .agg (scl s v')] S (fun x S' => x = .bool true ∧ S' = S) := by
  refine Tri.forget (ycallee Try.fx23 (Nat.le_of_ble_eq_true rfl) ?_)
  unfold Try.x23
  obtain ⟨a, c, rfl⟩ := hv.isSlice
  obtain ⟨a', c', rfl⟩ := hv'.isSlice
  refine yseq (yregion ?_)
  refine ycons (yboxG rfl fun p2 => ?_)
  refine ycons (yboxG rfl fun p3 => ?_)
  refine yp pC (ynil (tnorm (yseq (yseq (yregion (yp (pFadr rfl) ?_))))))
  refine ycons (yloadN (l := [sv s.name, .int .i64 s.typ]) rfl rfl rfl ?_)
  refine yp (pFadr rfl) ?_
  refine ycons (yloadN (l := [sv s.name, .int .i64 s.typ]) rfl rfl rfl ?_)
  refine yp (pEqs2 (n := s.name) (t := s.typ) rfl rfl) (yp (pB rfl) (ygT rfl (yop (pFadr rfl) (ygT rfl ?_))))
  refine (yload1 rfl rfl ?_)
  refine ygT rfl (yop (pFadr rfl) (ygT rfl ?_))
  refine (yload1 rfl rfl ?_)
  refine ygT rfl (yop (pNe rfl rfl) (yp (pPickF rfl rfl) (yp (pB rfl) ?_)))
  rw [decide_eq_true (show s.kind = s.kind from rfl)]
  refine ygT rfl (yop (pFadr rfl) (ygT rfl ?_))
  refine (yload1 rfl rfl ?_)
  refine ygT rfl (yop (pFadr rfl) (ygT rfl ?_))
  refine (yload1 rfl rfl ?_)
  refine ygT rfl (yop (pNeS rfl rfl) (yp (pPickF rfl rfl) (yp (pB rfl) ?_)))
  rw [decide_eq_true (show (⟨s.zone.toArray⟩ : ByteArray) = ⟨s.zone.toArray⟩ from rfl)]
  refine ygT rfl (yop (pFadr rfl) (ygT rfl ?_))
  refine (yload1 rfl rfl ?_)
  refine ygT rfl (yop (pLen rfl) (ygT rfl (yop (pFadr rfl) (ygT rfl ?_))))
  refine (yload1 rfl rfl ?_)
  refine ygT rfl (yop (pLen rfl) (ygT rfl (yop (pNe rfl rfl) (yp (pPickF rfl rfl) (ynil (tnorm ?_))))))
  rw [decide_eq_true (show (s.rrs.length : Int) = s.rrs.length from rfl)]
  refine ycondF rfl (yskip (tnorm (yseq (yseq (yregion (yp pC (ynil (tnorm (yblock ?_)))))))))
  refine yloop (σ := Nat) (fun i E S' => Has E [(2, .pointer (some ⟨p2, 0, none⟩)), (3, .pointer (some ⟨p3, 0, none⟩)), (5, .int .i64 (i : Int))] ∧ i ≤ s.rrs.length ∧ Junk S' (sbox p2 s (.slice a s.rrs.length c) :: sbox p3 s (.slice a' s.rrs.length c') :: S)) (fun i => s.rrs.length - i) 0
    ⟨⟨rfl, rfl, rfl, trivial⟩, Nat.zero_le _, .of⟩ fun i E S' ⟨hE, hi, hJ⟩ => ?_
  obtain ⟨E0, e0⟩ := has_puts hE; subst e0; clear hE
  refine yforget hJ (yseq (yseq (yregion (yp (pI rfl) (yp (pFadr rfl) ?_)))))
  refine ycons (yload1 rfl rfl ?_)
  refine yp (pLen rfl) (yp (pLt rfl rfl) (ynil (tnorm ?_)))
  refine ycondD rfl (fun hlt => ?_) (fun hlt => ?_)
  · have hii : i < s.rrs.length := by omega
    obtain ⟨b1, o1, ca1, ty1, fz1, rfl, hm1, hg1, _⟩ := srcAt hv hii
    obtain ⟨b2, o2, ca2, ty2, fz2, rfl, hm2, hg2, _⟩ := srcAt hv' hii
    generalize s.rrs[i] = r at hg1 hg2
    refine yskip (tnorm (yseq (yblock (yseq (ydraw (ytq (pFadr rfl) (ytl1 rfl rfl (ytq (pI rfl) (ytq (pIxN rfl rfl (by omega)) (ytlNM (l := enc r) (by repeat (first | exact hm1 | apply List.mem_cons_of_mem)) rfl hg1 rfl (ytq (pFadr rfl) (ytl1 rfl rfl (ytq (pI rfl) (ytq (pIxN rfl rfl (by omega)) (ytlNM (l := enc r) (by repeat (first | exact hm2 | apply List.mem_cons_of_mem)) rfl hg2 rfl (ytq (pEqs5 (r := r) rfl rfl) (ytdone (tnorm (ycondF rfl (yskip (bnorm (tnorm (yregion (yp (pI rfl) (yp (pInc rfl rfl (by omega)) (yp (pI rfl) (ynil (tnorm ?_))))))))))))))))))))))))))))
    exact ⟨i + 1, ⟨⟨rfl, rfl, rfl, trivial⟩, by omega, .of⟩, by omega⟩
  · refine yexit (texit (texit (bexit (tnorm (yseq (yregion (yp pC (ynil (tnorm (yret ?_))))))))))
    exact yfin (rB rfl) ⟨_, .of, rfl, rfl⟩
set_option maxRecDepth 10000 in
theorem rsFolded {S : Segs} {s : St} {v : Value} (hs : Sok s) (hv : Src S v s.rrs) : Tri Try.prog 24 #[.agg (scl s v)] S (fun x S' => ∃ v' H', x = .agg (scl (folS s) v') ∧ Slc 34 v' (folS s).rrs H' ∧ S' = H' :: S) := by
  refine Tri.forget (ycallee Try.fx24 (Nat.le_of_ble_eq_true rfl) ?_)
  unfold Try.x24
  obtain ⟨a, c, rfl⟩ := hv.isSlice
  have hrr := hs.rrs
  have hfr : (folS s).rrs = s.rrs.map fun r => (⟨foldB s.name, r.t, 1, 0, foldD r.t r.d⟩ : RR) := rfl
  generalize hfg : (fun r : RR => (⟨foldB s.name, r.t, 1, 0, foldD r.t r.d⟩ : RR)) = fr at hfr
  refine yseq (yregion ?_)
  refine ycons (yboxG rfl fun p1 => ?_)
  refine ycons (yalloc fun p2 => ?_)
  refine ynil (tnorm (yseq (yregion ?_)))
  refine ycons (yloadN (l := [sv s.name, .int .i64 s.typ, .slice a s.rrs.length c, .int .i64 s.kind, sv s.zone]) rfl rfl rfl ?_)
  refine ycons (yalloc fun p3 => ?_)
  refine ycons (ystAll (c' := [sv s.name, .int .i64 s.typ, .slice a s.rrs.length c, .int .i64 s.kind, sv s.zone]) rfl rfl rfl rfl rfl ?_)
  refine ynil (tnorm (yseq (yregion (yp (pFadr rfl) (yp (pFadr rfl) ?_)))))
  refine ycons (yload1 rfl rfl ?_)
  refine ycons (ycall (rnFold s.name (by have := hs.name; omega)) rfl rfl fun r' S' h => ?_)
  obtain ⟨rfl, rfl⟩ := h
  refine yp (pFadr rfl) (yp (pFadr rfl) ?_)
  refine ycons (yst5_0 rfl rfl (scT rfl) ?_)
  refine ynil (tnorm (yseq (yregion (yp (pFadr rfl) ?_))))
  refine ycons (yload1 rfl rfl ?_)
  refine ycons (ycall (rnFold s.zone (by have := hs.zone; omega)) rfl rfl fun r' S' h => ?_)
  obtain ⟨rfl, rfl⟩ := h
  refine yp (pFadr rfl) ?_
  refine ycons (yst5_4 rfl rfl (scT rfl) ?_)
  refine ynil (tnorm (yseq (yregion (yp (pFadr rfl) ?_))))
  refine ycons (yst5_2 rfl rfl (scS rfl) ?_)
  refine ynil (tnorm (yseq (yseq (yregion (yp pC (ynil (tnorm (yblock ?_))))))))
  refine yloop (σ := Nat) (fun i E S' => ∃ (rv : Value) (HR : List Chunk), Has E [(1, .pointer (some ⟨p1, 0, none⟩)), (2, .pointer (some ⟨p2, 0, none⟩)), (3, .pointer (some ⟨p3, 0, none⟩)), (4, .int .i64 (i : Int))] ∧ i ≤ s.rrs.length ∧ Slc 34 rv ((s.rrs.take i).map fr) HR ∧ Junk S' (HR :: sbox p1 s (.slice a s.rrs.length c) :: [(p2, .cells #[.string ⟨#[]⟩, .int .i64 0, .slice none 0 0, .int .i64 0, .string ⟨#[]⟩] 32)] :: [(p3, .cells #[sv (foldB s.name), .int .i64 s.typ, rv, .int .i64 s.kind, sv (foldB s.zone)] 32)] :: S)) (fun i => s.rrs.length - i) 0
    ⟨.slice none 0 0, [], ⟨rfl, rfl, rfl, rfl, trivial⟩, Nat.zero_le _, .nil, .of⟩ fun i E S' ⟨rv, HR, hE, hi, hR, hJ⟩ => ?_
  obtain ⟨ra, rc, rfl⟩ := hR.isSlice
  obtain ⟨E0, e0⟩ := has_puts hE; subst e0; clear hE
  refine yforget hJ (yseq (yseq (yregion (yp (pI rfl) (yp (pFadr rfl) ?_)))))
  refine ycons (yload1 rfl rfl ?_)
  refine yp (pLen rfl) (yp (pLt rfl rfl) (ynil (tnorm ?_)))
  refine ycondD rfl (fun hlt => ?_) (fun hlt => ?_)
  · have hii : i < s.rrs.length := by omega
    obtain ⟨b1, o1, ca1, ty1, fz1, rfl, hm1, hg1, _⟩ := srcAt hv hii
    have hr := List.getElem_mem hii
    have htk : s.rrs.take (i + 1) = s.rrs.take i ++ [s.rrs[i]] := List.take_succ_eq_append_getElem hii
    generalize s.rrs[i] = r at hg1 hr htk
    obtain ⟨hn, hd⟩ := hs.each r hr
    have hfrr : fr r = ⟨foldB s.name, r.t, 1, 0, foldD r.t r.d⟩ := by rw [← hfg]
    have hRl : ((s.rrs.take i).map fr).length ≤ 2 ^ 20 := by rw [List.length_map, List.length_take]; omega
    refine yskip (tnorm (yseq (yblock (yseq (yregion (yp (pFadr rfl) ?_))))))
    refine ycons (yload1 rfl rfl ?_)
    refine yp (pI rfl) (yp (pIxN rfl rfl (by omega)) ?_)
    refine ycons (yloadNM (l := enc r) (by repeat (first | exact hm1 | apply List.mem_cons_of_mem)) rfl hg1 rfl ?_)
    refine ycons (yalloc fun p5 => ?_)
    refine ycons (ystAll (c' := [sv r.n, .int .i64 r.t, .int .i64 r.c, .int .i64 r.ttl, sv r.d]) rfl rfl rfl rfl rfl ?_)
    refine ynil (tnorm (ydrawR (R := [[(p3, .cells #[sv (foldB s.name), .int .i64 s.typ, .slice ra ((s.rrs.take i).map fr).length rc, .int .i64 s.kind, sv (foldB s.zone)] 32)], [(p5, .cells (rcl r) 34)]]) (by simp) (ytq (pFadr rfl) (ytl1 rfl rfl (ytq (pFadr rfl) (ytq (pFadr rfl) (ytl1 rfl rfl (ytq (pFadr rfl) (ytl1 rfl rfl (ytq (pFadr rfl) (ytl1 rfl rfl (ytq (pFadr rfl) (ytl1 rfl rfl ?_)))))))))))))
    refine ytaltC (ycall (rnFoldData r.t r.d hd) rfl rfl fun r' S' h => ?_) ytno
    obtain ⟨rfl, rfl⟩ := h
    refine ⟨by simp, ?_⟩
    refine ytq (v := .agg #[sv (foldB s.name), .int .i64 r.t, .int .i64 1, .int .i64 0, sv (foldD r.t r.d)]) rfl ?_
    refine ytaltC (ybsl1 (⟨foldB s.name, r.t, 1, 0, foldD r.t r.d⟩ : RR) rfl rfl (by decide) (by decide) rfl fun p96 => ⟨by simp, ?_⟩) ytno
    refine ytalt (yapp (Y := [(⟨foldB s.name, r.t, 1, 0, foldD r.t r.d⟩ : RR)]) rfl rfl hR (.lit (by repeat (first | exact List.mem_cons_self | apply List.mem_cons_of_mem)) rfl) rfl (⟨[], 0, 0, 0, []⟩ : RR) rfl (by rw [List.length_singleton]; omega) (by rw [List.length_singleton]; omega) fun v7 H7 hL7 => ?_) ytno
    obtain ⟨l7a, l7c, rfl⟩ := hL7.isSlice
    refine ytq (pFadr rfl) ?_
    refine ytalt (yst5_2 rfl rfl (scS rfl) ?_) ytno
    refine ytdone (bnorm (tnorm (yregion (yp (pI rfl) (yp (pInc rfl rfl (by omega)) (yp (pI rfl) (ynil (tnorm ?_))))))))
    refine ⟨i + 1, ⟨.slice l7a ((s.rrs.take i).map fr ++ [(⟨foldB s.name, r.t, 1, 0, foldD r.t r.d⟩ : RR)]).length l7c, H7, ⟨rfl, rfl, rfl, rfl, trivial⟩, by omega, ?_, .of⟩, by omega⟩
    rw [htk, List.map_append, List.map_singleton, hfrr]; exact hL7
  · have hni : s.rrs.take i = s.rrs := List.take_of_length_le (by omega)
    rw [hni, ← hfr] at hR ⊢
    refine yexit (texit (texit (bexit (tnorm (yseq (yregion ?_))))))
    refine ycons (yloadN (l := [sv (foldB s.name), .int .i64 s.typ, .slice ra (folS s).rrs.length rc, .int .i64 s.kind, sv (foldB s.zone)]) rfl rfl rfl ?_)
    refine ycons (ystAll (c := [.string ⟨#[]⟩, .int .i64 0, .slice none 0 0, .int .i64 0, .string ⟨#[]⟩]) (c' := [sv (foldB s.name), .int .i64 s.typ, .slice ra (folS s).rrs.length rc, .int .i64 s.kind, sv (foldB s.zone)]) rfl rfl rfl rfl rfl ?_)
    refine ynil (tnorm (yret ?_))
    exact yfin (resL1 (rvG (b := p2) (l := [sv (foldB s.name), .int .i64 s.typ, .slice ra (folS s).rrs.length rc, .int .i64 s.kind, sv (foldB s.zone)]) agSet szSet rfl rfl)) ⟨_, .of, _, HR, rfl, hR, rfl⟩
end Go.Proofs.Ytejmbmenbailmaa
namespace Go.Proofs.Ytejmbmenbailmaa
open Go.Xs
open Enc (enc)

def by8 (z : Int) : UInt8 := UInt8.ofNat (z % 256).toNat
theorem pCvBy {E : Env} {x : Operand} {z : Int} (h : ev E x = .int .i64 z) : pstep (ev E) (.conv .u8 x) = some (.int .u8 ((by8 z).toNat : Int)) := by
  simp only [pstep, h, u8wrap]
  have : (by8 z).toNat = (z % 256).toNat % 256 := by simp [by8]
  rw [this]
  congr 2
  omega
def shrV (z : Int) (k : Nat) : Int := z.fdiv (2 ^ (Nat.min k 64))
theorem pShrK {E : Env} {x : Operand} {z : Int} (k : Nat) (h : ev E x = .int .i64 z) : pstep (ev E) (.bin .shr x (.const (.int .u64 (k : Int)))) = some (.int .i64 (shrV z k)) := by
  have : pstep (ev E) (.bin .shr x (.const (.int .u64 (k : Int)))) = xbin .shr (ev E x) (.int .u64 (k : Int)) := rfl
  rw [this, h]
  show (if IntKind.i64 = IntKind.u64 ∨ BinOp.shr = .shl ∨ BinOp.shr = .shr then xint .shr .i64 z (k : Int) else none) = _
  rw [if_pos (.inr (.inr rfl))]
  show (if (k : Int) < 0 then none else some (Value.int .i64 (z.fdiv (2 ^ (Nat.min (k : Int).toNat 64))))) = _
  rw [if_neg (by omega)]; rfl
/-- a name of a number -/
def nameK (k : Int) : Bs := if round k 3 = 0 then [1, by8 (97 + round k 20), 0] else [1, by8 (97 + round k 20), 1, 122, 0]
theorem alkName (k : Int) : Tri Try.prog 18 #[.int .i64 k] [] (fun r S => r = sv (nameK k) ∧ S = []) := by
  refine Tri.forget (ycallee Try.fx18 (Nat.le_of_ble_eq_true rfl) ?_)
  unfold Try.x18 nameK
  have h20 := round_lt k 20 (by decide)
  refine yseq (yregion (yp pC (ynil (tnorm (yseq (yregion (yp (pI rfl) ?_)))))))
  refine ycons (ycall (cRound k 20 (by decide)) rfl rfl fun r' S' h => ?_)
  obtain ⟨rfl, rfl⟩ := h
  refine yp (pAdd rfl rfl (by omega)) (yp (pCvBy rfl) ?_)
  generalize by8 (97 + round k 20) = b
  refine ycons (ybsl1 b rfl rfl (by decide) (by decide) rfl fun p8 => ?_)
  refine ycons (yb2s (Y := [b]) rfl (.lit (by repeat (first | exact List.mem_cons_self | apply List.mem_cons_of_mem)) rfl) ?_)
  refine yp (pT rfl) (ynil (tnorm (yseq (yseq (yregion (yp (pI rfl) ?_))))))
  refine ycons (ycall (cRound k 3 (by decide)) rfl rfl fun r' S' h => ?_)
  obtain ⟨rfl, rfl⟩ := h
  refine yp (pEq rfl rfl) (ynil (tnorm ?_))
  by_cases h3 : round k 3 = 0
  · rw [decide_eq_true h3, if_pos h3]
    refine ycondT rfl (yseq (yregion (yp (pT rfl) (yp (pCat (Y := [1]) (Z := [b]) rfl rfl (by simp)) (yp (pCat (Y := [1] ++ [b]) (Z := [0]) rfl rfl (by simp)) (yp (pT rfl) (ynil (tnorm (yret (tret ?_))))))))))
    exact yfin (v := sv ([1] ++ [b] ++ [0])) (res1 rfl) ⟨[], ⟨_, List.Perm.refl _⟩, rfl, rfl⟩
  · rw [decide_eq_false h3, if_neg h3]
    refine ycondF rfl (yskip (tnorm (yseq (yregion (yp (pT rfl) (yp (pCat (Y := [1]) (Z := [b]) rfl rfl (by simp)) (yp (pCat (Y := [1] ++ [b]) (Z := [1, 122, 0]) rfl rfl (by simp)) (yp (pT rfl) (ynil (tnorm (yret ?_)))))))))))
    exact yfin (v := sv ([1] ++ [b] ++ [1, 122, 0])) (res1 rfl) ⟨[], ⟨_, List.Perm.refl _⟩, rfl, rfl⟩
/-- an address's set -/
def setA (n d : Bs) : St := ⟨n, 1, 0, [0], [⟨n, 1, 1, 0, d⟩]⟩
theorem alkA (n : Bs) (z : Int) : Tri Try.prog 16 #[sv n, .int .i64 z] [] (fun r S => ∃ d v H, d.length = 4 ∧ r = .agg (scl (setA n d) v) ∧ Slc 34 v (setA n d).rrs H ∧ S = [H]) := by
  refine Tri.forget (ycallee Try.fx16 (Nat.le_of_ble_eq_true rfl) ?_)
  unfold Try.x16
  refine yseq (yregion ?_)
  refine ycons (yalloc fun p4 => ?_)
  refine ynil (tnorm (yseq (yregion (yp (pT rfl) (yp (pBuild2 (scT rfl) (scI rfl)) (yp (pT rfl) (yp (pI rfl) (yp (pShrK 24 rfl) (yp (pCvBy rfl) (yp (pI rfl) (yp (pShrK 16 rfl) (yp (pCvBy rfl) (yp (pI rfl) (yp (pShrK 8 rfl) (yp (pCvBy rfl) (yp (pI rfl) (yp (pCvBy rfl) ?_)))))))))))))))))
  generalize by8 (shrV z 24) = b0
  generalize by8 (shrV z 16) = b1
  generalize by8 (shrV z 8) = b2
  generalize by8 z = b3
  refine ycons (ybsl (l := cells [b0, b1, b2, b3]) rfl (by decide) (by decide) (by decide) rfl fun p19 => ?_)
  refine ycons (yb2s (Y := [b0, b1, b2, b3]) rfl (.lit (by repeat (first | exact List.mem_cons_self | apply List.mem_cons_of_mem)) rfl) ?_)
  refine yp (v := .agg #[sv n, .int .i64 1, .int .i64 1, .int .i64 0, sv [b0, b1, b2, b3]]) rfl ?_
  refine ycons (ybsl1 (⟨n, 1, 1, 0, [b0, b1, b2, b3]⟩ : RR) rfl rfl (by decide) (by decide) rfl fun p22 => ?_)
  refine yp (v := .agg #[sv n, .int .i64 1, .slice (some ⟨p22, 0, none⟩) 1 1, .int .i64 0, sv [0]]) rfl ?_
  refine ycons (ystAll (c' := [sv n, .int .i64 1, .slice (some ⟨p22, 0, none⟩) 1 1, .int .i64 0, sv [0]]) rfl rfl rfl rfl rfl ?_)
  refine ynil (tnorm (yret ?_))
  exact yfin (resL1 (rvG (b := p4) (l := [sv n, .int .i64 1, .slice (some ⟨p22, 0, none⟩) 1 1, .int .i64 0, sv [0]]) agSet szSet rfl rfl)) ⟨[[(p22, .cells (cells [(⟨n, 1, 1, 0, [b0, b1, b2, b3]⟩ : RR)]).toArray 34)]], .of, [b0, b1, b2, b3], _, _, rfl, rfl, .full (L := [(⟨n, 1, 1, 0, [b0, b1, b2, b3]⟩ : RR)]) rfl, rfl⟩
end Go.Proofs.Ytejmbmenbailmaa
namespace Go.Proofs.Ytejmbmenbailmaa
open Go.Xs
open Enc (enc)

theorem lwFresh {n : Nat} (hn : 1024 ≤ n ∧ n ≤ 1048576) {z : Int} (hz : z = n) : Tri Try.prog 8 #[.int .i64 z] [] (fun r S => ∃ ab tb T H, r = .tuple #[.pointer (some ⟨ab, 0, none⟩), .pointer (some ⟨tb, 0, none⟩), .bool true] ∧ Tb tb ab [] T ∧ Ar ab n [] H ∧ S = [T, H]) := by
  refine Tri.forget (ycallee Try.fx8 (Nat.le_of_ble_eq_true rfl) ?_)
  unfold Try.x8
  refine yseq (yregion (yp pC (yp pC (yp pC (ynil (tnorm (yseq (yregion (yp (pI rfl) ?_)))))))))
  refine ycons (ycall (arNewA hn hz) rfl rfl fun r S' h => ?_)
  obtain ⟨ab, H, rfl, hA, rfl⟩ := h
  refine yp (pU rfl) (yp (pExt rfl rfl) (yp (pExt rfl rfl) (yp (pP rfl) (yp (pI rfl) (ynil (tnorm (yseq (yregion (yp (pP rfl) ?_)))))))))
  refine ycons (ycall (tbNew (ab := ab)) rfl rfl fun r S' h => ?_)
  obtain ⟨tb, T, rfl, hT, rfl⟩ := h
  refine yp (pP rfl) (ynil (tnorm (yseq (yregion (yp (pP rfl) (yp (pP rfl) (yp (pI rfl) (yp (pEq rfl rfl) (yp (pB rfl) (ygT rfl (yop (pP rfl) (ygT rfl (yop (pNilPn rfl rfl) (yp (pPickT rfl rfl) (yp (pB rfl) (ygT rfl (yop (pP rfl) (ygT rfl (yop (pNilPn rfl rfl) (yp (pPickT rfl rfl) (yp (pP rfl) (yp (pP rfl) (yp (pB rfl) (ynil (tnorm (yret ?_))))))))))))))))))))))))))
  exact yfin (res3 rfl rfl rfl) ⟨[T, H], .of, ab, tb, T, H, rfl, hT, hA, rfl⟩
/-- what is used when a set was put -/
theorem put_used {N : Nat} {D D' : List (Option Bt)} {L : List Nm} {s : St} (hE : errS s = 0) (hN : usedD D ≤ N) (hf : fits N D L s) (hs : Sim D' (allocD (ads N D L (nmsS s)).D (sizS s).toNat)) : (usedD D' : Int) = usedD D + costS L s := by
  obtain ⟨hm, h4096⟩ := errS_may hE
  have h16 := sizS_ge hm
  have hC : costS L s = cost (sizS s) + (costL L [] (nmsS s) : Nat) := by unfold costS; rw [if_pos hE]
  have hc : cost (sizS s) = (costN (sizS s).toNat : Nat) := by unfold cost; rw [if_neg (by omega)]
  obtain ⟨h1, _⟩ := ads_cost (N := N) (l := nmsS s) (D := D) (L := L) (mayS_vld hm) hN
  unfold fits at hf
  rw [hC, hc] at hf
  obtain ⟨_, h2⟩ := h1 (by omega)
  rw [sim_used hs, alloc_used, h2, hC, hc]
  omega
theorem setA_ok {n d : Bs} (hn : vld n = true) (hd : d.length = 4) : errS (setA n d) = 0 ∧ sizS (setA n d) = 22 ∧ nmsS (setA n d) = [n, [0]] ∧ Sok (setA n d) := by
  have hv0 : vld [0] = true := by decide +kernel
  have hp : prt 1 d = [] := prt_none rfl
  have hdo : dataOk 1 d = true := by unfold dataOk; rw [if_neg (by omega), if_pos rfl, hd]; rfl
  have hsz : sizS (setA n d) = 22 := by
    unfold sizS setA sizR
    simp only [List.map_cons, List.map_nil, hp, hd]
    decide
  have hm : mayS (setA n d) = true := by
    unfold mayS setA rrOk sameN
    simp [hn, hv0, hdo]
  have hnl := vld_len hn
  refine ⟨?_, hsz, ?_, ⟨by show n.length < _; omega, by show 1 < _; omega, by show 1 < _; omega, fun r hr => ?_⟩⟩
  · unfold errS
    rw [if_neg (by rw [hm]; decide), hsz, if_neg (by decide)]
  · unfold nmsS setA nmsR
    simp only [List.map_cons, List.map_nil, hp]; rfl
  · rw [List.mem_singleton.1 hr]
    exact ⟨by show n.length < _; omega, by show d.length < _; omega⟩
def zSt : St := ⟨[], 0, 0, [], []⟩
set_option maxRecDepth 10000 in
set_option maxHeartbeats 1000000 in
theorem awake8 : Tri Try.prog 7 #[] [] (fun r S => r = .bool true ∧ S = []) := by
  refine Tri.forget (ycallee Try.fx7 (Nat.le_of_ble_eq_true rfl) ?_)
  unfold Try.x7
  refine yseq (yregion (yp pC (ynil (tnorm (yseq (yregion ?_))))))
  refine ycons (ycall (lwFresh (n := 1024) (by decide) rfl) rfl rfl fun r S' h => ?_)
  obtain ⟨ab, tb, T, H, rfl, hT, hA, rfl⟩ := h
  refine yp (pU rfl) (yp (pExt rfl rfl) (yp (pExt rfl rfl) (yp (pExt rfl rfl) (yp (pP rfl) (yp (pP rfl) (yp (pB rfl) (ynil (tnorm (yseq (yseq (yregion (yp (pB rfl) (yp (pNot rfl) (ynil (tnorm (ycondF rfl (yskip (tnorm (yseq (yregion ?_))))))))))))))))))))
  refine ycons (ycall (alkA [1, 65, 0] 5) rfl rfl fun r S' h => ?_)
  obtain ⟨d, v, HS, hd, rfl, hR, rfl⟩ := h
  obtain ⟨hE, hsz, hnm, hok⟩ := setA_ok (n := [1, 65, 0]) (d := d) (by decide +kernel) hd
  have hZ : szOf (setA [1, 65, 0] d) = 22 := by unfold szOf; rw [if_pos hE, hsz]
  have hcost : costS [] (setA [1, 65, 0] d) = 96 := by unfold costS; rw [if_pos hE, hsz, hnm]; decide +kernel
  have hsrc := hR.src (S := [HS]) (by simp)
  have hin : Inn [] [] [] := Inn.nil
  generalize setA [1, 65, 0] d = s at *
  obtain ⟨va, vc, rfl⟩ := hR.isSlice
  refine ycons (yalloc fun p4 => ?_)
  refine ycons (ystAll (c' := [sv s.name, .int .i64 s.typ, .slice va s.rrs.length vc, .int .i64 s.kind, sv s.zone]) rfl rfl rfl rfl rfl ?_)
  refine ynil (tnorm (yseq (yregion ?_)))
  refine ycons (yloadN (l := [sv s.name, .int .i64 s.typ, .slice va s.rrs.length vc, .int .i64 s.kind, sv s.zone]) rfl rfl rfl ?_)
  refine ycons (ycall (pkSize (S := [HS]) hok hsrc) rfl rfl fun r S' h => ?_)
  obtain ⟨rfl, rfl⟩ := h
  rw [hZ, hE]
  refine yp (pU rfl) (yp (pExt rfl rfl) (yp (pExt rfl rfl) (yp (pI rfl) (yp (pI rfl) (ynil (tnorm (yseq (yregion (yp (pP rfl) ?_)))))))))
  refine ycons (yloadN (l := [sv s.name, .int .i64 s.typ, .slice va s.rrs.length vc, .int .i64 s.kind, sv s.zone]) rfl rfl rfl ?_)
  refine ycons (ycall (pkCost (S := [HS]) hT hok hsrc) rfl rfl fun r S' h => ?_)
  obtain ⟨rfl, rfl⟩ := h
  rw [hcost]
  refine yp (pI rfl) (ynil (tnorm (yseq (yregion (yp (pP rfl) (yp (pP rfl) ?_))))))
  refine ycons (yloadN (l := [sv s.name, .int .i64 s.typ, .slice va s.rrs.length vc, .int .i64 s.kind, sv s.zone]) rfl rfl rfl ?_)
  have hf : fits 1024 [] [] s := by unfold fits; rw [hcost]; decide
  have hLd := @ads_drops 1024 (nmsS s) [] [] Inn.nil.dis .nil Inn.nil.stand
  have hLa := @ads_al 1024 (nmsS s) [] []
  have he := (fits_iff hE (Nat.zero_le _) ⟨by omega, by omega⟩ (mayS_vld (errS_may hE).1)).1 hf
  refine ycons (ycall (pkPutS (S := [HS]) hT hA hin .nil (List.nodup_nil) (fun e he => by simp at he) hok hsrc) rfl rfl fun r S' h => ?_)
  rcases h with ⟨h, _⟩ | ⟨_, h, _⟩ | ⟨_, _, T2, H2, D2, rfl, hT2, hA2, hI2, hB2, hs2, rfl⟩
  · exact absurd hE h
  · exact absurd hf h
  have hu2 := put_used hE (Nat.zero_le _) hf hs2
  rw [hcost] at hu2
  have hal := hLa he.1
  have hPP : Pos (ads 1024 [] [] (nmsS s)).L := (Liv.nil.adds (fun e he => by simp at he)).pos
  generalize ads 1024 [] [] (nmsS s) = P at *
  refine yp (pU rfl) (yp (pExt rfl rfl) (yp (pExt rfl rfl) (yp (pI rfl) (yp (pI rfl) (ynil (tnorm (yseq (yregion (yp (pP rfl) (yp (pP rfl) (yp (pI rfl) ?_)))))))))))
  refine ycons (ycall (pkGet hT2 hA2 hI2 (h := ((hnd P.D : Nat) : Int)) (s := s) (ids := P.ids) List.mem_cons_self hE hal) rfl rfl fun r S' h => ?_)
  obtain ⟨v3, HR, rfl, hR3, rfl⟩ := h
  obtain ⟨v3a, v3c, rfl⟩ := hR3.isSlice
  refine yp (pU rfl) (yp (pExt rfl rfl) (yp (pExt rfl rfl) ?_))
  refine ycons (yalloc fun p10 => ?_)
  refine ycons (ystAll (c' := [sv (folS s).name, .int .i64 (folS s).typ, .slice v3a (folS s).rrs.length v3c, .int .i64 (folS s).kind, sv (folS s).zone]) rfl rfl rfl rfl rfl ?_)
  refine yp (pI rfl) (ynil (tnorm (yseq (yregion (yp (pP rfl) ?_)))))
  refine ycons (ycall (arUsedA hA2) rfl rfl fun r S' h => ?_)
  obtain ⟨rfl, rfl⟩ := h
  rw [show ((usedD D2 : Nat) : Int) = 96 from by rw [hu2]; rfl]
  refine yp (pI rfl) (ynil (tnorm (yseq (yregion (yp (pP rfl) (yp (pP rfl) (yp (pI rfl) ?_)))))))
  refine ycons (ycall (pkDrop hT2 hA2 hI2 hPP (h := ((hnd P.D : Nat) : Int)) (s := s) (ids := P.ids) List.mem_cons_self hE hal hok) rfl rfl fun r S' h => ?_)
  obtain ⟨rfl, T4, H4, D4, hT4, hA4, hI4, hs4, rfl⟩ := h
  have hout : outB [(((hnd P.D : Nat) : Int), blkS s P.ids)] ((hnd P.D : Nat) : Int) = [] := by unfold outB; simp
  rw [hLd] at hT4 hI4
  rw [hout] at hI4
  have hu4 := hI4.empty
  have hno : getB D4 ((hnd P.D : Nat) : Int) = none := by
    cases hb : getB D4 ((hnd P.D : Nat) : Int) with
    | none => rfl
    | some b =>
      rcases hI4.all _ b hb with ⟨e, he, _⟩ | ⟨x, hx, _⟩
      · simp at he
      · simp at hx
  have hzE : errS zSt = 1 := by decide +kernel
  have hzZ : szOf zSt = 0 := by unfold szOf; rw [hzE]; rfl
  refine yp (pI rfl) (ynil (tnorm (yseq (yregion (yp pBuild0 ?_)))))
  refine ycons (ycall (pkSize (S := []) (s := zSt) (v := .slice none 0 0) ⟨by decide, by decide, by decide, fun r hr => by simp [zSt] at hr⟩ .nil) rfl rfl fun r S' h => ?_)
  obtain ⟨rfl, rfl⟩ := h
  rw [hzZ, hzE]
  refine yp (pU rfl) (yp (pExt rfl rfl) (yp (pExt rfl rfl) (yp (pI rfl) (yp (pI rfl) (ynil (tnorm (yseq (yregion (yp (pP rfl) (yp (pP rfl) (yp (pI rfl) ?_)))))))))))
  refine ycons (ycall (pkGetNo hT4 hA4 hI4 hno) rfl rfl fun r S' h => ?_)
  obtain ⟨rfl, rfl⟩ := h
  refine yp (pU rfl) (yp (pExt rfl rfl) (yp (pExt rfl rfl) ?_))
  refine ycons (yalloc fun p16 => ?_)
  refine ycons (ystAll (c' := zcl) rfl rfl rfl rfl rfl ?_)
  refine yp (pI rfl) (ynil (tnorm (yseq (ydrawR (R := [[(p10, .cells [sv (folS s).name, .int .i64 (folS s).typ, .slice v3a (folS s).rrs.length v3c, .int .i64 (folS s).kind, sv (folS s).zone].toArray 32)], [(p4, .cells [sv s.name, .int .i64 s.typ, .slice va s.rrs.length vc, .int .i64 s.kind, sv s.zone].toArray 32)]]) (by simp) (ytq (pI rfl) (ytq (pEq rfl rfl) (ytq (pB rfl) (ytgT rfl (ytq (pI rfl) (ytgT rfl (ytq (pEq rfl rfl) (ytq (pPickT rfl rfl) (ytq (pB rfl) (ytgT rfl (ytq (pI rfl) (ytgT rfl (ytq (pEq rfl rfl) (ytq (pPickT rfl rfl) (ytq (pB rfl) (ytgT rfl (ytq (pI rfl) (ytgT rfl (ytq (pEq rfl rfl) (ytq (pPickT rfl rfl) (ytq (pB rfl) (ytgT rfl (ytq (pI rfl) (ytgT rfl (ytq (pEq rfl rfl) (ytq (pPickT rfl rfl) (ytq (pB rfl) (ytgT rfl (ytlN (l := [sv (folS s).name, .int .i64 (folS s).typ, .slice v3a (folS s).rrs.length v3c, .int .i64 (folS s).kind, sv (folS s).zone]) rfl rfl rfl ?_)))))))))))))))))))))))))))))))))
  refine ytgT rfl (ytlN (l := [sv s.name, .int .i64 s.typ, .slice va s.rrs.length vc, .int .i64 s.kind, sv s.zone]) rfl rfl rfl ?_)
  refine ytaltT rfl (ytaltC (ycall (rsFolded (S := [HS]) hok hsrc) rfl rfl fun r S' h => ?_) ytno) ytno
  obtain ⟨v5, HF, rfl, hF, rfl⟩ := h
  refine ⟨by simp, ?_⟩
  have hfl : (folS s).rrs.length < 2 ^ 40 := by
    show (s.rrs.map _).length < _
    rw [List.length_map]
    have := hok.rrs
    omega
  refine ytaltT rfl (ytalt (ycall (rsSame (S := [HR, HF]) hfl (hR3.src (by simp)) (hF.src (by simp))) rfl rfl fun r S' h => ?_) ytno) ytno
  obtain ⟨rfl, rfl⟩ := h
  refine ytq (pPickT rfl rfl) (ytq (pB rfl) (ytgT rfl (ytq (pI rfl) (ytgT rfl (ytq (pI rfl) (ytgT rfl (ytq (pEq rfl rfl) (ytq (pPickT rfl rfl) (ytq (pB rfl) (ytgT rfl (ytq (pI rfl) (ytgT rfl (ytq (pEq rfl rfl) (ytq (pPickT rfl rfl) (ytq (pB rfl) (ytgT rfl (ytq (pP rfl) ?_)))))))))))))))))
  refine ytaltT rfl ?_ ytno
  refine ytalt (ycall (arUsedA hA4) rfl rfl fun r S' h => ?_) ytno
  obtain ⟨rfl, rfl⟩ := h
  rw [hu4]
  refine ytgT rfl (ytq (pEq rfl rfl) (ytq (pPickT rfl rfl) (ytq (pB rfl) (ytgT rfl (ytq (pP rfl) ?_)))))
  refine ytaltT rfl ?_ ytno
  refine ytalt (ycall (tbCount hT4) rfl rfl fun r S' h => ?_) ytno
  obtain ⟨rfl, rfl⟩ := h
  refine ytgT rfl (ytq (pEq rfl rfl) (ytq (pPickT rfl rfl) (ytq (pB rfl) (ytgT rfl (ytq (pI rfl) (ytgT rfl (ytq (pEq rfl rfl) (ytq (pPickT rfl rfl) (ytq (pB rfl) (ytgT rfl (ytq (pI rfl) (ytgT rfl (ytq (pEq rfl rfl) (ytq (pPickT rfl rfl) (ytq (pB rfl) (ytdone (tnorm (yret ?_))))))))))))))))))
  exact yfin (rB rfl) ⟨[], ⟨_, List.Perm.refl _⟩, rfl, rfl⟩
end Go.Proofs.Ytejmbmenbailmaa
