/- slices.SortFunc: the whole. -/
import Derived.Test.YtkdbajfaaifkaaaPdq3
namespace Go.Xs
open Enc (enc)
section
variable {P : Program} {α : Type} [Enc α] [Inhabited α] {ld : Operand → XOp} {k : Nat} {vl : α → Value} {cf : Nat} {caps : Array Value} {Hc : List Chunk} {p : α → Prop} {lt : α → α → Prop}
  {blk ty ln cp : Nat} {fz : Nat × Nat}
theorem pd_par {f : Nat} (hf : FnX P f 141 #[.tmp 8] (xpPar ld k)) (hl : Ld ld vl) (hk : Enc.k α = k) (hc : Cm P cf caps Hc vl p lt) {M : List α} (hM : PdM fz ln p M) {a b : Nat} (hab : a < b) (hb : b ≤ ln) (hpre : 0 < a → ∀ i, a ≤ i → i < b → ¬ lt (gt M i) (gt M (a - 1))) :
    Tri P f #[.slice (some ⟨blk, 0, none⟩) ln cp, .int .i64 (a : Int), .int .i64 (b : Int), .func (.func cf) #[] caps] [sg blk ty fz M, Hc] (fun r S => ∃ bl M', r = .bool bl ∧ Sw a b M M' ∧ (bl = true → So lt a b M') ∧ S = [sg blk ty fz M', Hc]) := by
  refine Tri.forget (ycallee hf (Nat.le_of_ble_eq_true rfl) ?_)
  have hlen := hM.len
  have hbig := hM.big
  unfold xpPar
  refine yseq ?_
  refine yregion ?_
  refine yp pC ?_
  refine ynil ?_
  refine tnorm ?_
  refine yseq ?_
  refine yregion ?_
  refine yp (pI rfl) ?_
  refine yp (pInc rfl rfl (by omega)) ?_
  refine yp (pI rfl) ?_
  refine ynil ?_
  refine tnorm ?_
  refine yseq ?_
  refine yseq ?_
  refine yregion ?_
  refine yp pC ?_
  refine ynil ?_
  refine tnorm ?_
  refine yblock ?_
  refine yloop (σ := Nat) (fun c E S => ∃ (i : Nat) (N : List α), Has E [(0, .slice (some ⟨blk, 0, none⟩) ln cp), (1, .int .i64 (a : Int)), (2, .int .i64 (b : Int)), (3, .func (.func cf) #[] caps), (9, .int .i64 (i : Int)), (10, .int .i64 (c : Int))] ∧ c ≤ 5 ∧ a + 1 ≤ i ∧ i ≤ b ∧ Sw a b M N ∧ So lt a i N ∧ Junk S [sg blk ty fz N, Hc]) (fun c => 5 - c) 0 ⟨a + 1, M, ⟨rfl, rfl, rfl, rfl, rfl, rfl, trivial⟩, by omega, by omega, by omega, .refl, fun x y h1 h2 h3 => by omega, .self⟩ fun c E S ⟨i, N, hE, hc5, hi, hib, hsw, hso, hJ⟩ => ?_
  have hNl := hsw.len
  have hN := hM.sw hsw hb
  have hz := hN.hz
  obtain ⟨E0, e0⟩ := has_puts hE; subst e0; clear hE
  refine yforget hJ ?_
  refine yseq ?_
  refine yseq ?_
  refine yregion ?_
  refine yp (pI rfl) ?_
  refine yp (pLt rfl rfl) ?_
  refine ynil ?_
  refine tnorm ?_
  refine ycondD rfl (fun h5 => ?_) (fun h5 => ?_)
  · refine yskip ?_
    refine tnorm ?_
    refine yseq ?_
    refine yblock ?_
    refine ycut (fun E S => ∃ (i : Nat), Has E [(0, .slice (some ⟨blk, 0, none⟩) ln cp), (1, .int .i64 (a : Int)), (2, .int .i64 (b : Int)), (3, .func (.func cf) #[] caps), (9, .int .i64 (i : Int)), (10, .int .i64 (c : Int))] ∧ a + 1 ≤ i ∧ i ≤ b ∧ So lt a i N ∧ Junk S [sg blk ty fz N, Hc]) ?_ fun E S ⟨i, hE, hi, hib, hso, hJ⟩ => ?_
    · refine yblock ?_
      refine yloop (σ := Nat) (fun i E S => Has E [(0, .slice (some ⟨blk, 0, none⟩) ln cp), (1, .int .i64 (a : Int)), (2, .int .i64 (b : Int)), (3, .func (.func cf) #[] caps), (9, .int .i64 (i : Int)), (10, .int .i64 (c : Int))] ∧ a + 1 ≤ i ∧ i ≤ b ∧ So lt a i N ∧ Junk S [sg blk ty fz N, Hc]) (fun i => b - i) i ⟨⟨rfl, rfl, rfl, rfl, rfl, rfl, trivial⟩, hi, hib, hso, .of⟩ fun i E S ⟨hE, hi, hib, hso, hJ⟩ => ?_
      obtain ⟨E0, e0⟩ := has_puts hE; subst e0; clear hE
      refine yforget hJ ?_
      refine yseq ?_
      refine yseq ?_
      refine ydraw ?_
      refine ytq (pI rfl) ?_
      refine ytq (pI rfl) ?_
      refine ytq (pLt rfl rfl) ?_
      refine ytq (pB rfl) ?_
      by_cases h0 : i < b
      · rw [decide_eq_true (show (i : Int) < (b : Int) from by omega)]
        refine ytgT rfl ?_
        refine ytq (pF rfl) ?_
        refine ytgT rfl ?_
        refine ytq (pS rfl) ?_
        refine ytgT rfl ?_
        refine ytq (pI rfl) ?_
        refine ytgT rfl ?_
        refine ytq (pIxN rfl rfl (by omega)) ?_
        refine ytgT rfl ?_
        refine ytld hl rfl (by omega) hk ?_
        refine ytgT rfl ?_
        refine ytq (pS rfl) ?_
        refine ytgT rfl ?_
        refine ytq (pI rfl) ?_
        refine ytgT rfl ?_
        refine ytq (pDec rfl rfl (by omega)) ?_
        refine ytgT rfl ?_
        refine ytq (pIxN rfl rfl (by omega)) ?_
        refine ytgT rfl ?_
        refine ytld hl rfl (by omega) hk ?_
        refine ytaltT rfl ?_ ytno
        refine ytalt (ycall (hc.call _ _ (hN.all i (Nat.zero_le _) (by omega)) (hN.all (i - 1) (Nat.zero_le _) (by omega))) rfl rfl fun r S' h => ?_) ytno
        obtain ⟨⟨z, rfl, hzz⟩, rfl⟩ := h
        refine ytgT rfl ?_
        refine ytq (pLt rfl rfl) ?_
        refine ytgT rfl ?_
        refine ytq (pNot rfl) ?_
        refine ytq (pPickT rfl rfl) ?_
        refine ytdone ?_
        refine tnorm ?_
        refine ycondN rfl (fun h2 => ?_) (fun h2 => ?_)
        · refine yskip ?_
          refine tnorm ?_
          refine yblock ?_
          refine yregion ?_
          refine yp (pI rfl) ?_
          refine yp (pInc rfl rfl (by omega)) ?_
          refine yp (pI rfl) ?_
          refine ynil ?_
          refine bnorm ?_
          refine tnorm ?_
          exact ⟨i + 1, ⟨⟨rfl, rfl, rfl, rfl, rfl, rfl, trivial⟩, by omega, by omega, hso.snoc hc.wk (by omega) (fun h => h2 (hzz.2 h)), .of⟩, by omega⟩
        · refine yexit ?_
          refine texit ?_
          refine texit ?_
          refine bexit ?_
          refine tnorm ?_
          exact ⟨i, ⟨rfl, rfl, rfl, rfl, rfl, rfl, trivial⟩, hi, hib, hso, .of⟩
      · rw [decide_eq_false (show ¬ (i : Int) < (b : Int) from by omega)]
        refine ytgF rfl ?_
        refine ytgF rfl ?_
        refine ytgF rfl ?_
        refine ytgF rfl ?_
        refine ytgF rfl ?_
        refine ytgF rfl ?_
        refine ytgF rfl ?_
        refine ytgF rfl ?_
        refine ytgF rfl ?_
        refine ytgF rfl ?_
        refine ytaltF rfl ?_ ytno
        refine ytgF rfl ?_
        refine ytgF rfl ?_
        refine ytq (pPickF rfl rfl) ?_
        refine ytdone ?_
        refine tnorm ?_
        refine ycondF rfl ?_
        refine yexit ?_
        refine texit ?_
        refine texit ?_
        refine bexit ?_
        refine tnorm ?_
        exact ⟨i, ⟨rfl, rfl, rfl, rfl, rfl, rfl, trivial⟩, hi, hib, hso, .of⟩
    obtain ⟨E0, e0⟩ := has_puts hE; subst e0; clear hE
    refine yforget hJ ?_
    refine yseq ?_
    refine yseq ?_
    refine yregion ?_
    refine yp (pI rfl) ?_
    refine yp (pI rfl) ?_
    refine yp (pEq rfl rfl) ?_
    refine ynil ?_
    refine tnorm ?_
    refine ycondD rfl (fun h6 => ?_) (fun h6 => ?_)
    · refine yseq ?_
      refine yregion ?_
      refine yp pC ?_
      refine ynil ?_
      refine tnorm ?_
      refine yret ?_
      refine tret ?_
      refine bret ?_
      refine tret ?_
      refine tret ?_
      refine bret ?_
      refine tret ?_
      have hib' : i = b := by omega
      subst hib'
      exact yfin (rB rfl) ⟨_, .of, true, N, rfl, hsw, fun _ => hso, rfl⟩
    refine yskip ?_
    refine tnorm ?_
    refine yseq ?_
    refine yseq ?_
    refine yregion ?_
    refine yp (pI rfl) ?_
    refine yp (pI rfl) ?_
    refine yp (pSub rfl rfl (by omega)) ?_
    refine yp (pLt rfl rfl) ?_
    refine ynil ?_
    refine tnorm ?_
    refine ycondD rfl (fun h7 => ?_) (fun h7 => ?_)
    · refine yseq ?_
      refine yregion ?_
      refine yp pC ?_
      refine ynil ?_
      refine tnorm ?_
      refine yret ?_
      refine tret ?_
      refine bret ?_
      refine tret ?_
      refine tret ?_
      refine bret ?_
      refine tret ?_
      exact yfin (rB rfl) ⟨_, .of, false, N, rfl, hsw, Bool.noConfusion, rfl⟩
    refine yskip ?_
    refine tnorm ?_
    refine yseq ?_
    refine ydraw ?_
    refine ytq (pS rfl) ?_
    refine ytq (pI rfl) ?_
    refine ytq (pS rfl) ?_
    refine ytq (pI rfl) ?_
    refine ytq (pDec rfl rfl (by omega)) ?_
    refine ytq (pS rfl) ?_
    refine ytq (pI rfl) ?_
    refine ytq (pDec rfl rfl (by omega)) ?_
    refine ytq (pIxN rfl rfl (by omega)) ?_
    refine ytld hl rfl (by omega) hk ?_
    refine ytq (pS rfl) ?_
    refine ytq (pI rfl) ?_
    refine ytq (pIxN rfl rfl (by omega)) ?_
    refine ytld hl rfl (by omega) hk ?_
    refine ytq (pIxN rfl rfl (by omega)) ?_
    refine ytalt (ystoreE rfl (by omega) hk (hl.cells _) hz ?_) ytno
    refine ytq (pIxN rfl rfl (by omega)) ?_
    refine ytalt (ystoreE2 rfl (by omega) hk (hl.cells _) hz ?_) ytno
    refine ytdone ?_
    refine tnorm ?_
    have hso1 := hso.swapped (by omega) (by omega)
    have hsw := hsw.step (i := i) (j := i - 1) (by omega) (by omega) (by omega) (by omega) (by omega)
    obtain ⟨N1, hN1⟩ : ∃ N1, N1 = swp N i (i - 1) := ⟨_, rfl⟩
    have eN : (N.set i (gt N (i - 1))).set (i - 1) (gt N i) = N1 := hN1.symm
    rw [← hN1] at hsw hso1
    rw [eN]
    clear eN hN1 hz hN hNl hso
    refine ycut (fun E S => ∃ N, Has E [(0, .slice (some ⟨blk, 0, none⟩) ln cp), (1, .int .i64 (a : Int)), (2, .int .i64 (b : Int)), (3, .func (.func cf) #[] caps), (9, .int .i64 (i : Int)), (10, .int .i64 (c : Int))] ∧ Sw a b M N ∧ So lt a i N ∧ Junk S [sg blk ty fz N, Hc]) ?_ fun E S ⟨N, hE, hsw, hso, hJ⟩ => ?_
    · refine yseq ?_
      refine yregion ?_
      refine yp (pI rfl) ?_
      refine yp (pI rfl) ?_
      refine yp (pSub rfl rfl (by omega)) ?_
      refine yp (pGe rfl rfl) ?_
      refine ynil ?_
      refine tnorm ?_
      refine ycondD rfl (fun h8 => ?_) (fun h8 => ?_)
      · refine yseq ?_
        refine yregion ?_
        refine yp (pI rfl) ?_
        refine yp (pDec rfl rfl (by omega)) ?_
        refine yp (pI rfl) ?_
        refine ynil ?_
        refine tnorm ?_
        refine yblock ?_
        refine yloop (σ := Nat) (fun j E S => ∃ N, Has E [(0, .slice (some ⟨blk, 0, none⟩) ln cp), (1, .int .i64 (a : Int)), (2, .int .i64 (b : Int)), (3, .func (.func cf) #[] caps), (9, .int .i64 (i : Int)), (10, .int .i64 (c : Int)), (11, .int .i64 (j : Int))] ∧ a ≤ j ∧ j < i ∧ Sw a b M N ∧ So1 lt a i j N ∧ Junk S [sg blk ty fz N, Hc]) (fun j => j) (i - 1) ⟨N1, ⟨rfl, rfl, rfl, rfl, rfl, rfl, rfl, trivial⟩, by omega, by omega, hsw, hso1, .of⟩ fun j E S ⟨N, hE, hj, hji, hsw, hso1, hJ⟩ => ?_
        have hNl := hsw.len
        have hN := hM.sw hsw hb
        have hz := hN.hz
        obtain ⟨E0, e0⟩ := has_puts hE; subst e0; clear hE
        refine yforget hJ ?_
        refine yseq ?_
        refine yseq ?_
        refine yregion ?_
        refine yp (pI rfl) ?_
        refine yp (pGe rfl rfl) ?_
        refine ynil ?_
        refine tnorm ?_
        refine ycondD rfl (fun h9 => ?_) (fun h9 => ?_)
        · refine yskip ?_
          refine tnorm ?_
          refine yseq ?_
          refine yblock ?_
          refine yseq ?_
          refine yseq ?_
          refine ydraw ?_
          refine ytq (pF rfl) ?_
          refine ytq (pS rfl) ?_
          refine ytq (pI rfl) ?_
          refine ytq (pIxN rfl rfl (by omega)) ?_
          refine ytld hl rfl (by omega) hk ?_
          refine ytq (pS rfl) ?_
          refine ytq (pI rfl) ?_
          refine ytq (pDec rfl rfl (by omega)) ?_
          refine ytq (pIxN rfl rfl (by omega)) ?_
          refine ytld hl rfl (by omega) hk ?_
          refine ytalt (ycall (hc.call _ _ (hN.all j (Nat.zero_le _) (by omega)) (hN.all (j - 1) (Nat.zero_le _) (by omega))) rfl rfl fun r S' h => ?_) ytno
          obtain ⟨⟨z, rfl, hzz⟩, rfl⟩ := h
          refine ytq (pLt rfl rfl) ?_
          refine ytq (pNot rfl) ?_
          refine ytdone ?_
          refine tnorm ?_
          refine ycondN rfl (fun h2 => ?_) (fun h2 => ?_)
          · refine yexit ?_
            refine texit ?_
            refine bexitN rfl ?_
            refine texit ?_
            refine texit ?_
            refine bexit ?_
            refine tnorm ?_
            exact ⟨N, ⟨rfl, rfl, rfl, rfl, rfl, rfl, trivial⟩, hsw, hso1.stop hc.wk hj (.inr fun h => h2 (hzz.2 h)), .of⟩
          · have hja : a < j := by
              refine Nat.lt_of_le_of_ne hj fun e => ?_
              subst e
              have h3 := hsw.all (p := fun x => ¬ lt x (gt M (a - 1))) (hpre (by omega)) a (Nat.le_refl _) hab
              rw [← hsw.out (k := a - 1) (by omega)] at h3
              exact h3 (hzz.1 h2)
            refine yskip ?_
            refine tnorm ?_
            refine ydraw ?_
            refine ytq (pS rfl) ?_
            refine ytq (pI rfl) ?_
            refine ytq (pS rfl) ?_
            refine ytq (pI rfl) ?_
            refine ytq (pDec rfl rfl (by omega)) ?_
            refine ytq (pS rfl) ?_
            refine ytq (pI rfl) ?_
            refine ytq (pDec rfl rfl (by omega)) ?_
            refine ytq (pIxN rfl rfl (by omega)) ?_
            refine ytld hl rfl (by omega) hk ?_
            refine ytq (pS rfl) ?_
            refine ytq (pI rfl) ?_
            refine ytq (pIxN rfl rfl (by omega)) ?_
            refine ytld hl rfl (by omega) hk ?_
            refine ytq (pIxN rfl rfl (by omega)) ?_
            refine ytalt (ystoreE rfl (by omega) hk (hl.cells _) hz ?_) ytno
            refine ytq (pIxN rfl rfl (by omega)) ?_
            refine ytalt (ystoreE2 rfl (by omega) hk (hl.cells _) hz ?_) ytno
            refine ytdone ?_
            refine bnorm ?_
            refine tnorm ?_
            refine yregion ?_
            refine yp (pI rfl) ?_
            refine yp (pDec rfl rfl (by omega)) ?_
            refine yp (pI rfl) ?_
            refine ynil ?_
            refine tnorm ?_
            exact ⟨j - 1, ⟨_, ⟨rfl, rfl, rfl, rfl, rfl, rfl, rfl, trivial⟩, by omega, by omega, hsw.step (i := j) (j := j - 1) (by omega) (by omega) (by omega) (by omega) (by omega), hso1.step hc.wk hja hji (by omega) (hzz.1 h2), .of⟩, by omega⟩
        · refine yexit ?_
          refine texit ?_
          refine texit ?_
          refine bexit ?_
          refine tnorm ?_
          exact ⟨N, ⟨rfl, rfl, rfl, rfl, rfl, rfl, trivial⟩, hsw, hso1.stop hc.wk hj (.inl (by omega)), .of⟩
      · refine yskip ?_
        refine tnorm ?_
        exact ⟨N1, ⟨rfl, rfl, rfl, rfl, rfl, rfl, trivial⟩, hsw, fun x y h1 h2 h3 => by omega, .of⟩
    have hNl := hsw.len
    have hN := hM.sw hsw hb
    obtain ⟨E0, e0⟩ := has_puts hE; subst e0; clear hE
    refine yforget hJ ?_
    refine yseq ?_
    refine yregion ?_
    refine yp (pI rfl) ?_
    refine yp (pI rfl) ?_
    refine yp (pSub rfl rfl (by omega)) ?_
    refine yp (pGe rfl rfl) ?_
    refine ynil ?_
    refine tnorm ?_
    refine ycondD rfl (fun h8 => ?_) (fun h8 => ?_)
    · refine yseq ?_
      refine yregion ?_
      refine yp (pI rfl) ?_
      refine yp (pInc rfl rfl (by omega)) ?_
      refine yp (pI rfl) ?_
      refine ynil ?_
      refine tnorm ?_
      refine yblock ?_
      refine yloop (σ := Nat) (fun j E S => ∃ N, Has E [(0, .slice (some ⟨blk, 0, none⟩) ln cp), (1, .int .i64 (a : Int)), (2, .int .i64 (b : Int)), (3, .func (.func cf) #[] caps), (9, .int .i64 (i : Int)), (10, .int .i64 (c : Int)), (12, .int .i64 (j : Int))] ∧ i + 1 ≤ j ∧ j ≤ b ∧ Sw a b M N ∧ So lt a i N ∧ Junk S [sg blk ty fz N, Hc]) (fun j => b - j) (i + 1) ⟨N, ⟨rfl, rfl, rfl, rfl, rfl, rfl, rfl, trivial⟩, by omega, by omega, hsw, hso, .of⟩ fun j E S ⟨N, hE, hj, hji, hsw, hso, hJ⟩ => ?_
      have hNl := hsw.len
      have hN := hM.sw hsw hb
      have hz := hN.hz
      obtain ⟨E0, e0⟩ := has_puts hE; subst e0; clear hE
      refine yforget hJ ?_
      refine yseq ?_
      refine yseq ?_
      refine yregion ?_
      refine yp (pI rfl) ?_
      refine yp (pI rfl) ?_
      refine yp (pLt rfl rfl) ?_
      refine ynil ?_
      refine tnorm ?_
      refine ycondD rfl (fun h9 => ?_) (fun h9 => ?_)
      · refine yskip ?_
        refine tnorm ?_
        refine yseq ?_
        refine yblock ?_
        refine yseq ?_
        refine yseq ?_
        refine ydraw ?_
        refine ytq (pF rfl) ?_
        refine ytq (pS rfl) ?_
        refine ytq (pI rfl) ?_
        refine ytq (pIxN rfl rfl (by omega)) ?_
        refine ytld hl rfl (by omega) hk ?_
        refine ytq (pS rfl) ?_
        refine ytq (pI rfl) ?_
        refine ytq (pDec rfl rfl (by omega)) ?_
        refine ytq (pIxN rfl rfl (by omega)) ?_
        refine ytld hl rfl (by omega) hk ?_
        refine ytalt (ycall (hc.call _ _ (hN.all j (Nat.zero_le _) (by omega)) (hN.all (j - 1) (Nat.zero_le _) (by omega))) rfl rfl fun r S' h => ?_) ytno
        obtain ⟨⟨z, rfl, hzz⟩, rfl⟩ := h
        refine ytq (pLt rfl rfl) ?_
        refine ytq (pNot rfl) ?_
        refine ytdone ?_
        refine tnorm ?_
        refine ycondN rfl (fun h2 => ?_) (fun h2 => ?_)
        · refine yexit ?_
          refine texit ?_
          refine bexitN rfl ?_
          refine texit ?_
          refine texit ?_
          refine bexit ?_
          refine bnorm ?_
          refine tnorm ?_
          refine yregion ?_
          refine yp (pI rfl) ?_
          refine yp (pInc rfl rfl (by omega)) ?_
          refine yp (pI rfl) ?_
          refine ynil ?_
          refine tnorm ?_
          exact ⟨c + 1, ⟨i, N, ⟨rfl, rfl, rfl, rfl, rfl, rfl, trivial⟩, by omega, by omega, by omega, hsw, hso, .of⟩, by omega⟩
        · refine yskip ?_
          refine tnorm ?_
          refine ydraw ?_
          refine ytq (pS rfl) ?_
          refine ytq (pI rfl) ?_
          refine ytq (pS rfl) ?_
          refine ytq (pI rfl) ?_
          refine ytq (pDec rfl rfl (by omega)) ?_
          refine ytq (pS rfl) ?_
          refine ytq (pI rfl) ?_
          refine ytq (pDec rfl rfl (by omega)) ?_
          refine ytq (pIxN rfl rfl (by omega)) ?_
          refine ytld hl rfl (by omega) hk ?_
          refine ytq (pS rfl) ?_
          refine ytq (pI rfl) ?_
          refine ytq (pIxN rfl rfl (by omega)) ?_
          refine ytld hl rfl (by omega) hk ?_
          refine ytq (pIxN rfl rfl (by omega)) ?_
          refine ytalt (ystoreE rfl (by omega) hk (hl.cells _) hz ?_) ytno
          refine ytq (pIxN rfl rfl (by omega)) ?_
          refine ytalt (ystoreE2 rfl (by omega) hk (hl.cells _) hz ?_) ytno
          refine ytdone ?_
          refine bnorm ?_
          refine tnorm ?_
          refine yregion ?_
          refine yp (pI rfl) ?_
          refine yp (pInc rfl rfl (by omega)) ?_
          refine yp (pI rfl) ?_
          refine ynil ?_
          refine tnorm ?_
          exact ⟨j + 1, ⟨_, ⟨rfl, rfl, rfl, rfl, rfl, rfl, rfl, trivial⟩, by omega, by omega, hsw.step (i := j) (j := j - 1) (by omega) (by omega) (by omega) (by omega) (by omega), hso.congr fun k h1 h2 => by rw [gt_swp (by omega) (by omega), if_neg (by omega), if_neg (by omega)], .of⟩, by omega⟩
      · refine yexit ?_
        refine texit ?_
        refine texit ?_
        refine bexit ?_
        refine bnorm ?_
        refine tnorm ?_
        refine yregion ?_
        refine yp (pI rfl) ?_
        refine yp (pInc rfl rfl (by omega)) ?_
        refine yp (pI rfl) ?_
        refine ynil ?_
        refine tnorm ?_
        exact ⟨c + 1, ⟨i, N, ⟨rfl, rfl, rfl, rfl, rfl, rfl, trivial⟩, by omega, by omega, by omega, hsw, hso, .of⟩, by omega⟩
    · refine yskip ?_
      refine bnorm ?_
      refine tnorm ?_
      refine yregion ?_
      refine yp (pI rfl) ?_
      refine yp (pInc rfl rfl (by omega)) ?_
      refine yp (pI rfl) ?_
      refine ynil ?_
      refine tnorm ?_
      exact ⟨c + 1, ⟨i, N, ⟨rfl, rfl, rfl, rfl, rfl, rfl, trivial⟩, by omega, by omega, by omega, hsw, hso, .of⟩, by omega⟩
  · refine yexit ?_
    refine texit ?_
    refine texit ?_
    refine bexit ?_
    refine tnorm ?_
    refine yseq ?_
    refine yregion ?_
    refine yp pC ?_
    refine ynil ?_
    refine tnorm ?_
    refine yret ?_
    exact yfin (rB rfl) ⟨_, .of, false, N, rfl, hsw, Bool.noConfusion, rfl⟩

/-- the functions that it calls -/
structure PdF (P : Program) (ld : Operand → XOp) (k f fi fh fb fc fr fp fe ft : Nat) : Prop where
  main : FnX P f 148 #[] (xpPdq ld k fi fh fb fc fr fp fe ft f)
  ins : FnX P fi 53 #[] (xpIns ld k)
  heap : ∃ fs, FnX P fh 60 #[] (xpHeap ld k fs) ∧ FnX P fs 82 #[] (xpSift ld k)
  brk : ∃ fn fx fl fO f2 tx, FnX P fb 67 #[] (xpBrk ld k fn fx tx) ∧ FnX P fn 7 #[.tmp 2] (xpNpt fl) ∧ FnX P fl 8 #[.tmp 2] (xpLen fO f2) ∧ FnX P f2 25 #[.tmp 2] xpLen64 ∧ FnX P fx 33 #[.tmp 2] xpNxt
  chp : ∃ fa fm fo ti, FnX P fc 63 #[.tmp 8, .tmp 9] (xpChp fa fm ti) ∧ FnX P fa 18 #[.tmp 8] (xpMad fm) ∧ FnX P fm 41 #[.tmp 12] (xpMed fo) ∧ FnX P fo 32 #[.tmp 10, .tmp 11] (xpOrd2 ld k)
  rev : FnX P fr 34 #[] (xpRev ld k)
  par : FnX P fp 141 #[.tmp 8] (xpPar ld k)
  peq : FnX P fe 90 #[.tmp 10] (xpPeq ld k)
  prt : FnX P ft 178 #[.tmp 10, .tmp 11] (xpPrt ld k)

set_option maxHeartbeats 1000000 in
theorem pd_main {f fi fh fb fc fr fp fe ft : Nat} (F : PdF P ld k f fi fh fb fc fr fp fe ft) (hl : Ld ld vl) (hk : Enc.k α = k) (hc : Cm P cf caps Hc vl p lt) : ∀ (m : Nat) {M : List α} (_ : PdM fz ln p M) {a b : Nat} (_ : a ≤ b) (_ : b ≤ ln) (_ : 0 < a → ∀ i, a ≤ i → i < b → ¬ lt (gt M i) (gt M (a - 1))) (_ : b - a < m) {q : Nat} (_ : q ≤ 64),
    Tri P f #[.slice (some ⟨blk, 0, none⟩) ln cp, .int .i64 (a : Int), .int .i64 (b : Int), .int .i64 (q : Int), .func (.func cf) #[] caps] [sg blk ty fz M, Hc] (fun r S => r = .tuple #[] ∧ ∃ M', Sw a b M M' ∧ So lt a b M' ∧ S = [sg blk ty fz M', Hc]) := by
  intro m
  induction m with
  | zero => intro M hM a b hab hb hpre hm; omega
  | succ m ih =>
  intro M hM a0 b0 hab hb hpre hm q0 hq0
  obtain ⟨fs, F1, F2⟩ := F.heap
  obtain ⟨fn, fx, fl, fO, f2, tx, F3, F4, F5, F6, F7⟩ := F.brk
  obtain ⟨fa, fm, fo, ti, F8, F9, F10, F11⟩ := F.chp
  refine Tri.forget (ycallee F.main (Nat.le_of_ble_eq_true rfl) ?_)
  have hlen := hM.len
  have hbig := hM.big
  unfold xpPdq
  refine yseq ?_
  refine yregion ?_
  refine yp pC ?_
  refine ynil ?_
  refine tnorm ?_
  refine yseq ?_
  refine yregion ?_
  refine yp pC ?_
  refine ynil ?_
  refine tnorm ?_
  refine yblock ?_
  refine yloop (σ := Nat) (fun w E S => ∃ (a b q : Nat) (N : List α) (b1 b2 : Bool), Has E [(0, .slice (some ⟨blk, 0, none⟩) ln cp), (1, .int .i64 (a : Int)), (2, .int .i64 (b : Int)), (3, .int .i64 (q : Int)), (4, .func (.func cf) #[] caps), (10, .bool b1), (11, .bool b2)] ∧ b - a = w ∧ q ≤ 64 ∧ PdI lt a0 b0 M a b N ∧ Junk S [sg blk ty fz N, Hc]) (fun w => w) (b0 - a0)
    ⟨a0, b0, q0, M, true, true, ⟨rfl, rfl, rfl, rfl, rfl, rfl, rfl, trivial⟩, rfl, hq0, ⟨.refl, fun i j h1 h2 h3 h4 => by omega, by omega, hab, by omega, hpre⟩, .self⟩ fun w E S ⟨a, b, q, N, b1, b2, hE, hw, hq, hpi, hJ⟩ => ?_
  subst hw
  have haa := hpi.aa
  have hab' := hpi.ab
  have hbb := hpi.bb
  have hNl := hpi.sw.len
  have hN := hM.sw hpi.sw hb
  obtain ⟨E0, e0⟩ := has_puts hE; subst e0; clear hE
  refine yforget hJ ?_
  refine yblock ?_
  refine yseq ?_
  refine yregion ?_
  refine yp (pI rfl) ?_
  refine yp (pI rfl) ?_
  refine yp (pSub rfl rfl (by omega)) ?_
  refine yp (pI rfl) ?_
  refine ynil ?_
  refine tnorm ?_
  refine yseq ?_
  refine yseq ?_
  refine yregion ?_
  refine yp (pI rfl) ?_
  refine yp (pLe rfl rfl) ?_
  refine ynil ?_
  refine tnorm ?_
  rw [show (b : Int) - (a : Int) = ((b - a : Nat) : Int) from by omega]
  skip
  refine ycondD rfl (fun h1 => ?_) (fun h1 => ?_)
  · refine yseq ?_
    refine yregion ?_
    refine yp (pS rfl) ?_
    refine yp (pI rfl) ?_
    refine yp (pI rfl) ?_
    refine yp (pF rfl) ?_
    refine ycons (ycall (pd_ins (blk := blk) (ty := ty) (cp := cp) F.ins hl hk hc hN (a := a) (b := b) hab' (by omega)) rfl rfl fun r S' h => ?_)
    obtain ⟨rfl, N2, hs2, ho2, rfl⟩ := h
    refine ynil ?_
    refine tnorm ?_
    refine yret ?_
    refine tret ?_
    refine bret ?_
    refine tret ?_
    refine bret ?_
    have h3 := hpi.keep hs2 (by omega)
    exact yfin res0 ⟨_, .of, rfl, N2, h3.sw, h3.ou.done ho2, rfl⟩
  refine yskip ?_
  refine tnorm ?_
  refine yseq ?_
  refine yseq ?_
  refine yregion ?_
  refine yp (pI rfl) ?_
  refine yp (pEq rfl rfl) ?_
  refine ynil ?_
  refine tnorm ?_
  refine ycondD rfl (fun h2 => ?_) (fun h2 => ?_)
  · refine yseq ?_
    refine yregion ?_
    refine yp (pS rfl) ?_
    refine yp (pI rfl) ?_
    refine yp (pI rfl) ?_
    refine yp (pF rfl) ?_
    refine ycons (ycall (pd_heap (blk := blk) (ty := ty) (cp := cp) F1 F2 hl hk hc hN (a := a) (b := b) (by omega) (by omega)) rfl rfl fun r S' h => ?_)
    obtain ⟨rfl, N2, hs2, ho2, rfl⟩ := h
    refine ynil ?_
    refine tnorm ?_
    refine yret ?_
    refine tret ?_
    refine bret ?_
    refine tret ?_
    refine bret ?_
    have h3 := hpi.keep hs2 (by omega)
    exact yfin res0 ⟨_, .of, rfl, N2, h3.sw, h3.ou.done ho2, rfl⟩
  refine yskip ?_
  refine tnorm ?_
  refine ycut (fun E S => ∃ (q : Nat) (N : List α), Has E [(0, .slice (some ⟨blk, 0, none⟩) ln cp), (1, .int .i64 (a : Int)), (2, .int .i64 (b : Int)), (3, .int .i64 (q : Int)), (4, .func (.func cf) #[] caps), (10, .bool b1), (11, .bool b2), (12, .int .i64 ((b - a : Nat) : Int))] ∧ q ≤ 64 ∧ PdI lt a0 b0 M a b N ∧ Junk S [sg blk ty fz N, Hc]) ?_ fun E S ⟨q, N, hE, hq, hpi, hJ⟩ => ?_
  · refine yseq ?_
    refine yregion ?_
    refine yp (pB rfl) ?_
    refine yp (pNot rfl) ?_
    refine ynil ?_
    refine tnorm ?_
    cases b1 with
    | true =>
      refine ycondF rfl ?_
      refine yskip ?_
      refine tnorm ?_
      exact ⟨q, N, ⟨rfl, rfl, rfl, rfl, rfl, rfl, rfl, rfl, trivial⟩, hq, hpi, .of⟩
    | false =>
      refine ycondT rfl ?_
      refine yseq ?_
      refine yregion ?_
      refine yp (pS rfl) ?_
      refine yp (pI rfl) ?_
      refine yp (pI rfl) ?_
      refine yp (pF rfl) ?_
      refine ycons (ycall (pd_brk (blk := blk) (ty := ty) (cp := cp) F3 F4 F5 F6 F7 hl hk hN (a := a) (b := b) (by omega) (by omega)) rfl rfl fun r S' h => ?_)
      obtain ⟨N2, rfl, hs2, rfl⟩ := h
      refine ynil ?_
      refine tnorm ?_
      refine yregion ?_
      refine yp (pI rfl) ?_
      refine yp (pDec rfl rfl (by omega)) ?_
      refine yp (pI rfl) ?_
      refine ynil ?_
      refine tnorm ?_
      exact ⟨q - 1, N2, ⟨rfl, rfl, rfl, congrArg (Value.int .i64) (by omega), rfl, rfl, rfl, rfl, trivial⟩, by omega, hpi.keep hs2 (by omega), .of⟩
  have hNl := hpi.sw.len
  have hN := hM.sw hpi.sw hb
  obtain ⟨E0, e0⟩ := has_puts hE; subst e0; clear hE
  refine yforget hJ ?_
  refine yseq ?_
  refine yregion ?_
  refine yp (pS rfl) ?_
  refine yp (pI rfl) ?_
  refine yp (pI rfl) ?_
  refine yp (pF rfl) ?_
  refine ycons (ycall (pd_chp (blk := blk) (ty := ty) (cp := cp) F8 F9 F10 F11 hl hk hc hN (a := a) (b := b) (by omega) (by omega)) rfl rfl fun r S' h => ?_)
  obtain ⟨pv, hint, rfl, hp1, hp2, rfl⟩ := h
  refine yp (pU rfl) ?_
  refine yp (pExt rfl rfl) ?_
  refine yp (pExt rfl rfl) ?_
  refine yp (pI rfl) ?_
  refine yp (pI rfl) ?_
  refine ynil ?_
  refine tnorm ?_
  refine ycut (fun E S => ∃ (pv : Nat) (hint : Int) (N : List α), Has E [(0, .slice (some ⟨blk, 0, none⟩) ln cp), (1, .int .i64 (a : Int)), (2, .int .i64 (b : Int)), (3, .int .i64 (q : Int)), (4, .func (.func cf) #[] caps), (10, .bool b1), (11, .bool b2), (12, .int .i64 ((b - a : Nat) : Int)), (13, .int .i64 (pv : Int)), (14, .int .i64 hint)] ∧ a ≤ pv ∧ pv < b ∧ PdI lt a0 b0 M a b N ∧ Junk S [sg blk ty fz N, Hc]) ?_ fun E S ⟨pv, hint, N, hE, hp1, hp2, hpi, hJ⟩ => ?_
  · refine yseq ?_
    refine yregion ?_
    refine yp (pI rfl) ?_
    refine yp (pEq rfl rfl) ?_
    refine ynil ?_
    refine tnorm ?_
    refine ycondD rfl (fun h3 => ?_) (fun h3 => ?_)
    · refine yseq ?_
      refine yregion ?_
      refine yp (pS rfl) ?_
      refine yp (pI rfl) ?_
      refine yp (pI rfl) ?_
      refine yp (pF rfl) ?_
      refine ycons (ycall (pd_rev (blk := blk) (ty := ty) (cp := cp) F.rev hl hk hN (a := a) (b := b) (by omega) (by omega)) rfl rfl fun r S' h => ?_)
      obtain ⟨N2, rfl, hs2, rfl⟩ := h
      refine ynil ?_
      refine tnorm ?_
      refine yseq ?_
      refine yregion ?_
      refine yp (pI rfl) ?_
      refine yp (pDec rfl rfl (by omega)) ?_
      refine yp (pI rfl) ?_
      refine yp (pI rfl) ?_
      refine yp (pSub rfl rfl (by omega)) ?_
      refine yp (pSub rfl rfl (by omega)) ?_
      refine yp (pI rfl) ?_
      refine ynil ?_
      refine tnorm ?_
      refine yregion ?_
      refine yp pC ?_
      refine ynil ?_
      refine tnorm ?_
      refine ⟨b - 1 - (pv - a), 1, N2, ⟨rfl, rfl, rfl, rfl, rfl, rfl, rfl, rfl, ?_, rfl, trivial⟩, by omega, by omega, hpi.keep hs2 (by omega), .of⟩
      exact congrArg (Value.int .i64) (by omega)
    · refine yskip ?_
      refine tnorm ?_
      exact ⟨pv, hint, N, ⟨rfl, rfl, rfl, rfl, rfl, rfl, rfl, rfl, rfl, rfl, trivial⟩, hp1, hp2, hpi, .of⟩
  have hNl := hpi.sw.len
  have hN := hM.sw hpi.sw hb
  obtain ⟨E0, e0⟩ := has_puts hE; subst e0; clear hE
  refine yforget hJ ?_
  refine ycutQ (fun E S => ∃ (N : List α), Has E [(0, .slice (some ⟨blk, 0, none⟩) ln cp), (1, .int .i64 (a : Int)), (2, .int .i64 (b : Int)), (3, .int .i64 (q : Int)), (4, .func (.func cf) #[] caps), (10, .bool b1), (11, .bool b2), (12, .int .i64 ((b - a : Nat) : Int)), (13, .int .i64 (pv : Int))] ∧ PdI lt a0 b0 M a b N ∧ Junk S [sg blk ty fz N, Hc]) ?_ fun E S ⟨N, hE, hpi, hJ⟩ => ?_
  · cases b1 with
    | false =>
      refine yseq ?_
      refine yregion ?_
      refine yp (pB rfl) ?_
      refine yp (pB rfl) ?_
      refine ygF rfl ?_
      refine yp (pPickF rfl rfl) ?_
      refine yp (pB rfl) ?_
      refine ygF rfl ?_
      refine ygF rfl ?_
      refine yp (pPickF rfl rfl) ?_
      refine ynil ?_
      refine tnorm ?_
      refine ycondF rfl ?_
      refine yskip ?_
      refine tnorm ?_
      exact ⟨N, ⟨rfl, rfl, rfl, rfl, rfl, rfl, rfl, rfl, rfl, trivial⟩, hpi, .of⟩
    | true =>
    cases b2 with
    | false =>
      refine yseq ?_
      refine yregion ?_
      refine yp (pB rfl) ?_
      refine yp (pB rfl) ?_
      refine ygT rfl ?_
      refine yop (pB rfl) ?_
      refine yp (pPickT rfl rfl) ?_
      refine yp (pB rfl) ?_
      refine ygF rfl ?_
      refine ygF rfl ?_
      refine yp (pPickF rfl rfl) ?_
      refine ynil ?_
      refine tnorm ?_
      refine ycondF rfl ?_
      refine yskip ?_
      refine tnorm ?_
      exact ⟨N, ⟨rfl, rfl, rfl, rfl, rfl, rfl, rfl, rfl, rfl, trivial⟩, hpi, .of⟩
    | true =>
    refine yseq ?_
    refine yregion ?_
    refine yp (pB rfl) ?_
    refine yp (pB rfl) ?_
    refine ygT rfl ?_
    refine yop (pB rfl) ?_
    refine yp (pPickT rfl rfl) ?_
    refine yp (pB rfl) ?_
    refine ygT rfl ?_
    refine yop (pI rfl) ?_
    refine ygT rfl ?_
    refine yop (pEq rfl rfl) ?_
    refine yp (pPickT rfl rfl) ?_
    refine ynil ?_
    refine tnorm ?_
    refine ycondD rfl (fun h3 => ?_) (fun h3 => ?_)
    · refine yseq ?_
      refine yregion ?_
      refine yp (pS rfl) ?_
      refine yp (pI rfl) ?_
      refine yp (pI rfl) ?_
      refine yp (pF rfl) ?_
      refine ycons (ycall (pd_par (blk := blk) (ty := ty) (cp := cp) F.par hl hk hc hN (a := a) (b := b) (by omega) (by omega) hpi.pre) rfl rfl fun r S' h => ?_)
      obtain ⟨bl, N2, rfl, hs2, ho2, rfl⟩ := h
      have h4 := hpi.keep hs2 (by omega)
      cases bl with
      | true =>
        refine ynil ?_
        refine tnorm ?_
        refine ycondT rfl ?_
        refine yret ?_
        refine tret ?_
        refine bret ?_
        refine tret ?_
        refine bret ?_
        exact yfin res0 ⟨_, .of, rfl, N2, h4.sw, h4.ou.done (ho2 rfl), rfl⟩
      | false =>
        refine ynil ?_
        refine tnorm ?_
        refine ycondF rfl ?_
        refine yskip ?_
        refine tnorm ?_
        exact ⟨N2, ⟨rfl, rfl, rfl, rfl, rfl, rfl, rfl, rfl, rfl, trivial⟩, h4, .of⟩
    · refine yskip ?_
      refine tnorm ?_
      exact ⟨N, ⟨rfl, rfl, rfl, rfl, rfl, rfl, rfl, rfl, rfl, trivial⟩, hpi, .of⟩
  have hNl := hpi.sw.len
  have hN := hM.sw hpi.sw hb
  obtain ⟨E0, e0⟩ := has_puts hE; subst e0; clear hE
  refine yforget hJ ?_
  refine ycutQ (fun E S => Has E [(0, .slice (some ⟨blk, 0, none⟩) ln cp), (1, .int .i64 (a : Int)), (2, .int .i64 (b : Int)), (3, .int .i64 (q : Int)), (4, .func (.func cf) #[] caps), (10, .bool b1), (11, .bool b2), (12, .int .i64 ((b - a : Nat) : Int)), (13, .int .i64 (pv : Int))] ∧ Junk S [sg blk ty fz N, Hc]) ?_ fun E S ⟨hE, hJ⟩ => ?_
  · refine yseq ?_
    refine ydraw ?_
    refine ytq (pI rfl) ?_
    refine ytq (pGt rfl rfl) ?_
    refine ytq (pB rfl) ?_
    by_cases h3 : 0 < a
    · rw [decide_eq_true (show (0 : Int) < (a : Int) from by omega)]
      refine ytgT rfl ?_
      refine ytq (pF rfl) ?_
      refine ytgT rfl ?_
      refine ytq (pS rfl) ?_
      refine ytgT rfl ?_
      refine ytq (pI rfl) ?_
      refine ytgT rfl ?_
      refine ytq (pDec rfl rfl (by omega)) ?_
      refine ytgT rfl ?_
      refine ytq (pIxN rfl rfl (by omega)) ?_
      refine ytgT rfl ?_
      refine ytld hl rfl (by omega) hk ?_
      refine ytgT rfl ?_
      refine ytq (pS rfl) ?_
      refine ytgT rfl ?_
      refine ytq (pI rfl) ?_
      refine ytgT rfl ?_
      refine ytq (pIxN rfl rfl (by omega)) ?_
      refine ytgT rfl ?_
      refine ytld hl rfl (by omega) hk ?_
      refine ytaltT rfl ?_ ytno
      refine ytalt (ycall (hc.call _ _ (hN.all (a - 1) (Nat.zero_le _) (by omega)) (hN.all pv (Nat.zero_le _) (by omega))) rfl rfl fun r S' h => ?_) ytno
      obtain ⟨⟨z, rfl, hzz⟩, rfl⟩ := h
      refine ytgT rfl ?_
      refine ytq (pLt rfl rfl) ?_
      refine ytgT rfl ?_
      refine ytq (pNot rfl) ?_
      refine ytq (pPickT rfl rfl) ?_
      refine ytdone ?_
      refine tnorm ?_
      refine ycondN rfl (fun h4 => ?_) (fun h4 => ?_)
      · refine yseq ?_
        refine yregion ?_
        refine yp (pS rfl) ?_
        refine yp (pI rfl) ?_
        refine yp (pI rfl) ?_
        refine yp (pI rfl) ?_
        refine yp (pF rfl) ?_
        refine ycons (ycall (pd_peq (blk := blk) (ty := ty) (cp := cp) F.peq hl hk hc hN hp1 hp2 (by omega) (fun q h5 h6 => hc.wk.tr _ _ _ (hpi.pre h3 q h5 h6) fun h => h4 (hzz.2 h))) rfl rfl fun r S' h => ?_)
        obtain ⟨mid, N2, rfl, hs2, he2, rfl⟩ := h
        refine yp (pI rfl) ?_
        refine ynil ?_
        refine tnorm ?_
        refine yseq ?_
        refine yregion ?_
        refine yp (pI rfl) ?_
        refine yp (pI rfl) ?_
        refine ynil ?_
        refine tnorm ?_
        refine yexit ?_
        refine texit ?_
        refine bexit ?_
        refine tnorm ?_
        have h5 := he2.am
        have h6 := he2.mb
        exact ⟨b - mid, ⟨mid, b, q, N2, b1, b2, ⟨rfl, rfl, rfl, rfl, rfl, rfl, rfl, trivial⟩, rfl, hq, (hpi.keep hs2 (by omega)).eqd he2, .of⟩, by omega⟩
      · refine yskip ?_
        refine tnorm ?_
        exact ⟨⟨rfl, rfl, rfl, rfl, rfl, rfl, rfl, rfl, rfl, trivial⟩, .of⟩
    · rw [decide_eq_false (show ¬ (0 : Int) < (a : Int) from by omega)]
      refine ytgF rfl ?_
      refine ytgF rfl ?_
      refine ytgF rfl ?_
      refine ytgF rfl ?_
      refine ytgF rfl ?_
      refine ytgF rfl ?_
      refine ytgF rfl ?_
      refine ytgF rfl ?_
      refine ytgF rfl ?_
      refine ytgF rfl ?_
      refine ytaltF rfl ?_ ytno
      refine ytgF rfl ?_
      refine ytgF rfl ?_
      refine ytq (pPickF rfl rfl) ?_
      refine ytdone ?_
      refine tnorm ?_
      refine ycondF rfl ?_
      refine yskip ?_
      refine tnorm ?_
      exact ⟨⟨rfl, rfl, rfl, rfl, rfl, rfl, rfl, rfl, rfl, trivial⟩, .of⟩
  obtain ⟨E0, e0⟩ := has_puts hE; subst e0; clear hE
  refine yforget hJ ?_
  refine yseq ?_
  refine yregion ?_
  refine yp (pS rfl) ?_
  refine yp (pI rfl) ?_
  refine yp (pI rfl) ?_
  refine yp (pI rfl) ?_
  refine yp (pF rfl) ?_
  refine ycons (ycall (pd_prt (blk := blk) (ty := ty) (cp := cp) F.prt hl hk hc hN hp1 hp2 (by omega)) rfl rfl fun r S' h => ?_)
  obtain ⟨mid, bl, N2, rfl, hs2, hpt, rfl⟩ := h
  have hpi2 := hpi.keep hs2 (by omega)
  have hN2l := hpi2.sw.len
  have hN2 := hM.sw hpi2.sw hb
  have h5 := hpt.am
  have h6 := hpt.mb
  refine yp (pU rfl) ?_
  refine yp (pExt rfl rfl) ?_
  refine yp (pExt rfl rfl) ?_
  refine yp (pI rfl) ?_
  refine yp (pB rfl) ?_
  refine ynil ?_
  refine tnorm ?_
  refine yseq ?_
  refine yregion ?_
  refine yp (pB rfl) ?_
  refine yp (pB rfl) ?_
  refine ynil ?_
  refine tnorm ?_
  refine yseq ?_
  refine yregion ?_
  refine yp (pI rfl) ?_
  refine yp (pI rfl) ?_
  refine yp (pSub rfl rfl (by omega)) ?_
  refine yp (pI rfl) ?_
  refine yp (pI rfl) ?_
  refine yp (pSub rfl rfl (by omega)) ?_
  refine yp (pI rfl) ?_
  refine yp (pI rfl) ?_
  refine ynil ?_
  refine tnorm ?_
  refine yseq ?_
  refine yregion ?_
  refine yp (pI rfl) ?_
  refine yp (pQuoN (j := b - a) (k := 8) rfl rfl (by omega) (by omega)) ?_
  refine yp (pI rfl) ?_
  refine ynil ?_
  refine tnorm ?_
  refine yseq ?_
  refine yregion ?_
  refine yp (pI rfl) ?_
  refine yp (pI rfl) ?_
  refine yp (pLt rfl rfl) ?_
  refine ynil ?_
  refine tnorm ?_
  refine ycondD rfl (fun h7 => ?_) (fun h7 => ?_)
  · refine yseq ?_
    refine yregion ?_
    refine yp (pI rfl) ?_
    refine yp (pI rfl) ?_
    refine yp (pGe rfl rfl) ?_
    refine yp (pB rfl) ?_
    refine ynil ?_
    refine tnorm ?_
    refine yseq ?_
    refine yregion ?_
    refine yp (pS rfl) ?_
    refine yp (pI rfl) ?_
    refine yp (pI rfl) ?_
    refine yp (pI rfl) ?_
    refine yp (pF rfl) ?_
    refine ycons (ycall (ih hN2 (a := a) (b := mid) h5 (by omega) (fun h0 i h8 h9 => hpi2.pre h0 i h8 (by omega)) (by omega) hq) rfl rfl fun r S' h => ?_)
    obtain ⟨rfl, N3, hs3, ho3, rfl⟩ := h
    refine ynil ?_
    refine tnorm ?_
    refine yregion ?_
    refine yp (pI rfl) ?_
    refine yp (pInc rfl rfl (by omega)) ?_
    refine yp (pI rfl) ?_
    refine ynil ?_
    refine bnorm ?_
    refine tnorm ?_
    exact ⟨b - (mid + 1), ⟨mid + 1, b, q, N3, _, bl, ⟨rfl, rfl, rfl, rfl, rfl, rfl, rfl, trivial⟩, rfl, hq, hpi2.left hc.wk hpt hs3 ho3 (by omega), .of⟩, by omega⟩
  · refine yseq ?_
    refine yregion ?_
    refine yp (pI rfl) ?_
    refine yp (pI rfl) ?_
    refine yp (pGe rfl rfl) ?_
    refine yp (pB rfl) ?_
    refine ynil ?_
    refine tnorm ?_
    refine yseq ?_
    refine yregion ?_
    refine yp (pS rfl) ?_
    refine yp (pI rfl) ?_
    refine yp (pInc rfl rfl (by omega)) ?_
    refine yp (pI rfl) ?_
    refine yp (pI rfl) ?_
    refine yp (pF rfl) ?_
    refine ycons (ycall (ih hN2 (a := mid + 1) (b := b) (by omega) (by omega) (fun h0 i h8 h9 => hpt.hi i (by omega) h9) (by omega) hq) rfl rfl fun r S' h => ?_)
    obtain ⟨rfl, N3, hs3, ho3, rfl⟩ := h
    refine ynil ?_
    refine tnorm ?_
    refine yregion ?_
    refine yp (pI rfl) ?_
    refine yp (pI rfl) ?_
    refine ynil ?_
    refine bnorm ?_
    refine tnorm ?_
    exact ⟨mid - a, ⟨a, mid, q, N3, _, bl, ⟨rfl, rfl, rfl, rfl, rfl, rfl, rfl, trivial⟩, rfl, hq, hpi2.right hc.wk hpt hs3 ho3 (by omega), .of⟩, by omega⟩
theorem pd_nil {f fi fh fb fc fr fp fe ft : Nat} (F : PdF P ld k f fi fh fb fc fr fp fe ft) {a : Option Addr} {c : Nat} {q : Int} : Tri P f #[.slice a 0 c, .int .i64 0, .int .i64 0, .int .i64 q, .func (.func cf) #[] caps] [] (fun r S => r = .tuple #[] ∧ S = []) := by
  have hi : Tri P fi #[.slice a 0 c, .int .i64 0, .int .i64 0, .func (.func cf) #[] caps] [] (fun r S => r = .tuple #[] ∧ S = []) := by
    refine Tri.forget (ycallee F.ins (Nat.le_of_ble_eq_true rfl) ?_)
    unfold xpIns
    refine yseq ?_
    refine yregion ?_
    refine yp (pI rfl) ?_
    refine yp (pAdd rfl rfl (by omega)) ?_
    refine yp (pI rfl) ?_
    refine ynil ?_
    refine tnorm ?_
    refine yblock ?_
    refine yloop (σ := Nat) (fun i E S => Has E [(2, .int .i64 0), (8, .int .i64 1)] ∧ Junk S []) (fun i => 0) 0 ⟨⟨rfl, rfl, trivial⟩, .self⟩ fun i E S ⟨hE, hJ⟩ => ?_
    obtain ⟨E0, e0⟩ := has_puts hE; subst e0; clear hE
    refine yforget hJ ?_
    refine yseq ?_
    refine yseq ?_
    refine yregion ?_
    refine yp (pI rfl) ?_
    refine yp (pI rfl) ?_
    refine yp (pLt rfl rfl) ?_
    refine ynil ?_
    refine tnorm ?_
    refine ycondF rfl ?_
    refine yexit ?_
    refine texit ?_
    refine texit ?_
    refine bexit ?_
    rw [decide_eq_false (show ¬ (1 : Int) < 0 from by decide)]
    skip
    exact yfinN res0 ⟨_, .of, rfl, rfl⟩
  refine Tri.forget (ycallee F.main (Nat.le_of_ble_eq_true rfl) ?_)
  unfold xpPdq
  refine yseq ?_
  refine yregion ?_
  refine yp pC ?_
  refine ynil ?_
  refine tnorm ?_
  refine yseq ?_
  refine yregion ?_
  refine yp pC ?_
  refine ynil ?_
  refine tnorm ?_
  refine yblock ?_
  refine yloop (σ := Nat) (fun i E S => Has E [(0, .slice a 0 c), (1, .int .i64 0), (2, .int .i64 0), (4, .func (.func cf) #[] caps)] ∧ Junk S []) (fun i => 0) 0 ⟨⟨rfl, rfl, rfl, rfl, trivial⟩, .self⟩ fun i E S ⟨hE, hJ⟩ => ?_
  obtain ⟨E0, e0⟩ := has_puts hE; subst e0; clear hE
  refine yforget hJ ?_
  refine yblock ?_
  refine yseq ?_
  refine yregion ?_
  refine yp (pI rfl) ?_
  refine yp (pI rfl) ?_
  refine yp (pSub rfl rfl (by omega)) ?_
  refine yp (pI rfl) ?_
  refine ynil ?_
  refine tnorm ?_
  refine yseq ?_
  refine yseq ?_
  refine yregion ?_
  refine yp (pI rfl) ?_
  refine yp (pLe rfl rfl) ?_
  refine ynil ?_
  refine tnorm ?_
  refine ycondT rfl ?_
  refine yseq ?_
  refine yregion ?_
  refine yp (pS rfl) ?_
  refine yp (pI rfl) ?_
  refine yp (pI rfl) ?_
  refine yp (pF rfl) ?_
  rw [decide_eq_true (show (0 : Int) - 0 ≤ 12 from by decide)]
  skip
  refine ycons (ycall hi rfl rfl fun r S' h => ?_)
  obtain ⟨rfl, rfl⟩ := h
  refine ynil ?_
  refine tnorm ?_
  refine yret ?_
  refine tret ?_
  refine bret ?_
  refine tret ?_
  refine bret ?_
  exact yfin res0 ⟨_, .of, rfl, rfl⟩
omit [Enc α] in
theorem gt_append {L sp : List α} {i : Nat} (h : i < L.length) : gt (L ++ sp) i = gt L i := by
  rw [gt_eq (by simp; omega), gt_eq h, List.getElem_append_left h]
omit [Enc α] in
/-- swaps in the front part leave the rest -/
theorem Sw.front {L sp M : List α} (h : Sw 0 L.length (L ++ sp) M) : ∃ L', M = L' ++ sp ∧ L'.Perm L := by
  induction h with
  | refl => exact ⟨L, rfl, .refl _⟩
  | step h hi hi' hj hj' hb ih =>
    rename_i M i j
    obtain ⟨L', rfl, hp⟩ := ih
    have hl := hp.length_eq
    refine ⟨swp L' i j, ?_, (swp_perm (by omega) (by omega)).trans hp⟩
    unfold swp
    rw [gt_append (by omega), gt_append (by omega), List.set_append_left _ _ (by omega), List.set_append_left _ _ (by simp; omega)]
/-- SortFunc: the same elements, in order -/
theorem sort_func {f fl fO f2 fm fi fh fb fc fr fp fe ft : Nat} (hf : FnX P f 14 #[] (xpSortF fl fm)) (h1 : FnX P fl 8 #[.tmp 2] (xpLen fO f2)) (h2 : FnX P f2 25 #[.tmp 2] xpLen64) (F : PdF P ld k fm fi fh fb fc fr fp fe ft) (hl : Ld ld vl) (hk : Enc.k α = k) (hc : Cm P cf caps Hc vl p lt)
    {v : Value} {L : List α} {H : List Chunk} (hL : Slc ty v L H) (hlen : L.length < 2 ^ 39) (hp : ∀ x ∈ L, p x) :
    Tri P f #[v, .func (.func cf) #[] caps] [H, Hc] (fun r S => r = .tuple #[] ∧ ∃ L' H', L'.Perm L ∧ L'.Pairwise (fun a b => ¬ lt b a) ∧ Slc ty v L' H' ∧ S = [H', Hc]) := by
  refine Tri.forget (ycallee hf (Nat.le_of_ble_eq_true rfl) ?_)
  unfold xpSortF
  rcases hL.inv with ⟨rfl, rfl, rfl⟩ | ⟨b, sp, fz, hz, rfl, rfl⟩
  · refine yseq ?_
    refine yregion ?_
    refine yp (pS rfl) ?_
    refine yp (pLen rfl) ?_
    refine yp (pI rfl) ?_
    refine ynil ?_
    refine tnorm ?_
    refine yregion ?_
    refine yp (pS rfl) ?_
    refine yp (pI rfl) ?_
    refine yp (pI rfl) ?_
    refine yp (pCvU (j := 0) rfl (by omega)) ?_
    refine ycons (ycall (pd_len h1 h2 (m := 0) (by omega)) rfl rfl fun r S' h => ?_)
    obtain ⟨l, rfl, hl8, hi, rfl⟩ := h
    refine yp (pF rfl) ?_
    refine ycons (ycall (pd_nil (a := none) (c := 0) (q := (l : Int)) F) rfl rfl fun r S' h => ?_)
    obtain ⟨rfl, rfl⟩ := h
    refine ynil ?_
    exact yfinN res0 ⟨[[], Hc], .of, rfl, [], [], .refl _, .nil, .nil, rfl⟩
  · refine yseq ?_
    refine yregion ?_
    refine yp (pS rfl) ?_
    refine yp (pLen rfl) ?_
    refine yp (pI rfl) ?_
    refine ynil ?_
    refine tnorm ?_
    refine yregion ?_
    refine yp (pS rfl) ?_
    refine yp (pI rfl) ?_
    refine yp (pI rfl) ?_
    refine yp (pCvU (j := L.length) rfl (by omega)) ?_
    refine ycons (ycall (pd_len h1 h2 (m := L.length) (by omega)) rfl rfl fun r S' h => ?_)
    obtain ⟨l, rfl, hl8, hi, rfl⟩ := h
    refine yp (pF rfl) ?_
    refine ycons (ycall (pd_main (blk := b) (ty := ty) (cp := L.length + sp.length) (fz := fz) (ln := L.length) F hl hk hc (L.length + 1) (M := L ++ sp) ⟨by simp, by omega, hz, fun i _ h => ?_⟩ (a := 0) (b := L.length) (by omega) (by omega) (fun h => absurd h (by omega)) (by omega) (q := l) (by omega)) rfl rfl fun r S' h => ?_)
    · rw [gt_append h]
      exact hp _ (gt_mem h)
    obtain ⟨rfl, M', hsw, hso, rfl⟩ := h
    obtain ⟨L', rfl, hpm⟩ := hsw.front
    refine ynil ?_
    have hll := hpm.length_eq
    refine yfinN res0 ⟨[sg b ty fz (L' ++ sp), Hc], .of, rfl, L', _, hpm, ?_, ?_, rfl⟩
    · rw [List.pairwise_iff_getElem]
      intro i j hi hj hij
      have := hso i j (Nat.zero_le _) hij (by omega)
      rwa [gt_append hi, gt_append hj, gt_eq hi, gt_eq hj] at this
    · rw [← hll]
      exact .row (by rw [cells_length] at hz ⊢; simp at hz ⊢; rw [hll]; exact hz)
end
end Go.Xs
