/- slices.SortStableFunc: the whole. -/
import Derived.Test.YtejmbmenbailmaaGreatSymO
namespace Go.Xs
open Enc (enc)
variable {P : Program} {α : Type} [Enc α] {S : zo}
def mR (fi fm : Nat) : zD :=
 .seq (.region [⟨some 6, .mov (.const (.int .i64 20)), none⟩]) (
 .seq (.region [⟨some 10, .mov (.tmp 6), none⟩,
  ⟨some 7, .mov (.const (.int .i64 0)), none⟩,
  ⟨some 8, .mov (.tmp 10), none⟩]) (
 .seq (.block 0 (
  .loop (
   .seq (.seq (.region [⟨some 11, .mov (.tmp 8), none⟩,
    ⟨some 12, .mov (.tmp 1), none⟩,
    ⟨some 13, .bin .leq (.tmp 11) (.tmp 12), none⟩]) (
    .cond (.tmp 13) (
     .skip) (
     .exit 0))) (
   .block 1 (
    .seq (.region [⟨some 14, .mov (.tmp 0), none⟩,
     ⟨some 15, .mov (.tmp 7), none⟩,
     ⟨some 16, .mov (.tmp 8), none⟩,
     ⟨some 17, .mov (.tmp 2), none⟩,
     ⟨some 18, .call (.func fi) [(.tmp 14), (.tmp 15), (.tmp 16), (.tmp 17)], none⟩]) (
    .seq (.region [⟨some 19, .mov (.tmp 8), none⟩,
     ⟨some 7, .mov (.tmp 19), none⟩]) (
    .region [⟨some 20, .mov (.tmp 8), none⟩,
     ⟨some 21, .mov (.tmp 6), none⟩,
     ⟨some 22, .bin .add (.tmp 20) (.tmp 21), none⟩,
     ⟨some 8, .mov (.tmp 22), none⟩]))))))) (
 .seq (.region [⟨some 23, .mov (.tmp 0), none⟩,
  ⟨some 24, .mov (.tmp 7), none⟩,
  ⟨some 25, .mov (.tmp 1), none⟩,
  ⟨some 26, .mov (.tmp 2), none⟩,
  ⟨some 27, .call (.func fi) [(.tmp 23), (.tmp 24), (.tmp 25), (.tmp 26)], none⟩]) (
 .block 2 (
  .loop (
   .seq (.seq (.region [⟨some 28, .mov (.tmp 6), none⟩,
    ⟨some 29, .mov (.tmp 1), none⟩,
    ⟨some 30, .bin .lss (.tmp 28) (.tmp 29), none⟩]) (
    .cond (.tmp 30) (
     .skip) (
     .exit 2))) (
   .block 3 (
    .seq (.region [⟨some 31, .mov (.tmp 6), none⟩,
     ⟨some 32, .bin .mul (.const (.int .i64 2)) (.tmp 31), none⟩,
     ⟨some 7, .mov (.const (.int .i64 0)), none⟩,
     ⟨some 8, .mov (.tmp 32), none⟩]) (
    .seq (.block 4 (
     .loop (
      .seq (.seq (.region [⟨some 33, .mov (.tmp 8), none⟩,
       ⟨some 34, .mov (.tmp 1), none⟩,
       ⟨some 35, .bin .leq (.tmp 33) (.tmp 34), none⟩]) (
       .cond (.tmp 35) (
        .skip) (
        .exit 4))) (
      .block 5 (
       .seq (.region [⟨some 36, .mov (.tmp 0), none⟩,
        ⟨some 37, .mov (.tmp 7), none⟩,
        ⟨some 38, .mov (.tmp 7), none⟩,
        ⟨some 39, .mov (.tmp 6), none⟩,
        ⟨some 40, .bin .add (.tmp 38) (.tmp 39), none⟩,
        ⟨some 41, .mov (.tmp 8), none⟩,
        ⟨some 42, .mov (.tmp 2), none⟩,
        ⟨some 43, .call (.func fm) [(.tmp 36), (.tmp 37), (.tmp 40), (.tmp 41), (.tmp 42)], none⟩]) (
       .seq (.region [⟨some 44, .mov (.tmp 8), none⟩,
        ⟨some 7, .mov (.tmp 44), none⟩]) (
       .region [⟨some 45, .mov (.tmp 8), none⟩,
        ⟨some 46, .mov (.tmp 6), none⟩,
        ⟨some 47, .bin .mul (.const (.int .i64 2)) (.tmp 46), none⟩,
        ⟨some 48, .bin .add (.tmp 45) (.tmp 47), none⟩,
        ⟨some 8, .mov (.tmp 48), none⟩]))))))) (
    .seq (.seq (.region [⟨some 49, .mov (.tmp 7), none⟩,
     ⟨some 50, .mov (.tmp 6), none⟩,
     ⟨some 51, .bin .add (.tmp 49) (.tmp 50), none⟩,
     ⟨some 9, .mov (.tmp 51), none⟩]) (
     .seq (.region [⟨some 52, .mov (.tmp 9), none⟩,
      ⟨some 53, .mov (.tmp 1), none⟩,
      ⟨some 54, .bin .lss (.tmp 52) (.tmp 53), none⟩]) (
     .cond (.tmp 54) (
      .region [⟨some 55, .mov (.tmp 0), none⟩,
       ⟨some 56, .mov (.tmp 7), none⟩,
       ⟨some 57, .mov (.tmp 9), none⟩,
       ⟨some 58, .mov (.tmp 1), none⟩,
       ⟨some 59, .mov (.tmp 2), none⟩,
       ⟨some 60, .call (.func fm) [(.tmp 55), (.tmp 56), (.tmp 57), (.tmp 58), (.tmp 59)], none⟩]) (
      .skip)))) (
    .region [⟨some 61, .mov (.tmp 6), none⟩,
     ⟨some 62, .bin .mul (.tmp 61) (.const (.int .i64 2)), none⟩,
     ⟨some 6, .mov (.tmp 62), none⟩])))))))))))
theorem SS.merge {β : Type} {key : β → Int} {l1 l2 r1 r2 Z : List β} (h1 : SS key l1 r1) (h2 : SS key l2 r2) (h : SS key (r1 ++ r2) Z) : SS key (l1 ++ l2) Z :=
 ⟨h.1, fun k => by
  have e := h.2 k;have e1 := h1.2 k;have e2 := h2.2 k;simp only [keyed, List.filter_append] at e e1 e2 ⊢;rw [e, e1, e2]⟩
/-- in order by blocks of w, the last may be shorter -/
inductive U5 {β : Type} (key : β → Int) (w : Nat) : List β → List β → Prop
 | last {l r : List β} : l.length ≤ w → r.length = l.length → SS key l r → U5 key w l r
 | cons {l r L R : List β} : l.length = w → r.length = w → SS key l r → U5 key w L R → U5 key w (l ++ L) (r ++ R)
/-- whole blocks alone -/
inductive Full {β : Type} (key : β → Int) (w : Nat) : List β → List β → Prop
 | nil : Full key w [] []
 | snoc {l r L R : List β} : Full key w L R → l.length = w → r.length = w → SS key l r → Full key w (L ++ l) (R ++ r)
theorem Full.app {β : Type} {key : β → Int} {w : Nat} {L R : List β} (h : Full key w L R) : ∀ {L' R' : List β}, U5 key w L' R' → U5 key w (L ++ L') (R ++ R') := by
 induction h with
 | nil => intro L' R' h; simpa using h
 | snoc hf h1 h2 h3 ih =>
  intro L' R' h;rw [List.append_assoc, List.append_assoc];exact ih (.cons h1 h2 h3 h)
theorem Full.len {β : Type} {key : β → Int} {w : Nat} {L R : List β} (h : Full key w L R) : R.length = L.length := by
 induction h with
 | nil => rfl
 | snoc hf h1 h2 h3 ih => simp; omega
theorem U5.len {β : Type} {key : β → Int} {w : Nat} {L R : List β} (h : U5 key w L R) : R.length = L.length := by
 induction h with
 | last h1 h2 h3 => exact h2
 | cons h1 h2 h3 h ih => simp; omega
/-- the first block of more than one -/
theorem U5.split {β : Type} {key : β → Int} {w : Nat} {L R : List β} (h : U5 key w L R) (hw : w < L.length) : ∃ l r L' R', L = l ++ L' ∧ R = r ++ R' ∧ l.length = w ∧ r.length = w ∧ SS key l r ∧ U5 key w L' R' := by
 cases h with
 | last h1 => omega
 | cons h1 h2 h3 h => exact ⟨_, _, _, _, rfl, rfl, h1, h2, h3, h⟩
theorem U5.one {β : Type} {key : β → Int} {w : Nat} {L R : List β} (h : U5 key w L R) (hw : L.length ≤ w) : SS key L R := by
 cases h with
 | last h1 h2 h3 => exact h3
 | @cons l r L R h1 h2 h3 h =>
  have e1 : L = [] := by rw [List.length_append] at hw; exact List.length_eq_zero_iff.1 (by omega)
  subst e1;have e2 : R = [] := List.length_eq_zero_iff.1 (by rw [h.len]; rfl);subst e2;simpa using h3
theorem KJ {f fi fm fr fs k ty : Nat} (hf : Za P f 63 #[] (mR fi fm)) (hi : Za P fi 53 #[] (og k)) (hm : Za P fm 220 #[] (J6 k fr fm)) (hr : Za P fr 58 #[] (iy fs)) (hsw : Za P fs 38 #[] (KA k)) (hk : Enc.k α = k) (key : α → Int) {cf : Nat}
 (hc : ∀ a b : α, zP P cf #[.agg (enc a).toArray, .agg (enc b).toArray] [] (fun r S => (∃ z, r = .int .i64 z ∧ (z < 0 ↔ key a < key b)) ∧ S = []))
 {v : Value} {L : List α} {H : List Chunk} (hL : Zc ty v L H) (hlen : L.length < 2 ^ 38) {n : Nat} (hn : n = L.length) :
 zP P f #[v, .int .i64 (n : Int), .func (.func cf) #[] #[]] [H] (fun r S => r = .tuple #[] ∧ ∃ L' H', SS key L L' ∧ L'.length = L.length ∧ Zc ty v L' H' ∧ S = [H']) := by
 refine zP.forget (zm hf (Nat.le_of_ble_eq_true rfl) ?_);unfold mR;obtain ⟨a0, c0, hv⟩ := hL.isSlice;rw [← hn] at hv;subst hv;refine ze (z8 (yp pC (zf (za (ze (z8 (yp (pI rfl) (yp pC (yp (pI rfl) (zf (za (ze (zw ?_)))))))))))));refine Z9 (σ := Nat × List α × List α × List α) (fun s E S => Has E [(0, .slice a0 n c0), (1, .int .i64 n), (2, .func (.func cf) #[] #[]), (6, .int .i64 20), (7, .int .i64 s.1), (8, .int .i64 (s.1 + 20 : Nat))] ∧ s.1 = s.2.1.length ∧ s.1 ≤ n ∧ L = s.2.1 ++ s.2.2.2 ∧ Full key 20 s.2.1 s.2.2.1 ∧ ∃ H', Zc ty (.slice a0 n c0) (s.2.2.1 ++ s.2.2.2) H' ∧ zC S [H']) (fun s => n - s.1) (0, [], [], L) ⟨⟨rfl, rfl, rfl, rfl, rfl, rfl, trivial⟩, rfl, Nat.zero_le _, rfl, .nil, H, hL, .self⟩ fun s E S ⟨hE, hsa, hsn, hLe, hF, H1, hL1, hJ⟩ => ?_
 obtain ⟨a, LA, A, B⟩ := s;simp only at hE hsa hsn hLe hF hL1;have hFl := hF.len;have hll := congrArg List.length hLe;rw [List.length_append] at hll;obtain ⟨E0, e0⟩ := zy hE; subst e0; clear hE;refine zq hJ (ze (ze (z8 (yp (pI rfl) (yp (pI rfl) (yp (jW rfl rfl) (zf (za ?_))))))));refine zQ rfl (fun h => ?_) (fun h => ?_)
 ·refine zu (za (zw (ze (z8 (yp (pS rfl) (yp (pI rfl) (yp (pI rfl) (yp (pF rfl) ?_))))))));have e1 : A ++ B.take 20 ++ B.drop 20 = A ++ B := by rw [List.append_assoc, List.take_append_drop]
  have hbl : (B.take 20).length = 20 := by rw [List.length_take]; omega
  refine zh (zk (ji hi hk key hc (v := .slice a0 n c0) (pre := A) (seg := B.take 20) (rest := B.drop 20) (by rw [e1]; exact hL1) (by rw [e1, List.length_append]; omega) (a := a) (b := a + 20) (by omega) (by omega)) rfl rfl fun r S' h => ?_);obtain ⟨rfl, Z, H2, hZ, hZl, hL2, rfl⟩ := h;refine zf (za (ze (z8 (yp (pI rfl) (yp (pI rfl) (zf (za (z8 (yp (pI rfl) (yp (pI rfl) (yp (Vy rfl rfl (by omega)) (yp (pI rfl) (zf (zT (za ?_)))))))))))))));refine ⟨(a + 20, LA ++ B.take 20, A ++ Z, B.drop 20), ⟨⟨rfl, rfl, rfl, rfl, rfl, rfl, trivial⟩, by rw [List.length_append]; omega, by simp only; omega, by rw [List.append_assoc, List.take_append_drop]; exact hLe, .snoc hF hbl (by omega) hZ, H2, by simpa only [List.append_assoc] using hL2, .of⟩, by simp only; omega⟩
 refine Z4 (zF (zF (Z5 (za (ze (z8 (yp (pS rfl) (yp (pI rfl) (yp (pI rfl) (yp (pF rfl) ?_))))))))));have e1 : A ++ B ++ [] = A ++ B := by simp
 refine zh (zk (ji hi hk key hc (v := .slice a0 n c0) (pre := A) (seg := B) (rest := []) (by rw [e1]; exact hL1) (by rw [e1, List.length_append]; omega) (a := a) (b := n) (by omega) (by omega)) rfl rfl fun r S' h => ?_);obtain ⟨rfl, Z, H2, hZ, hZl, hL2, rfl⟩ := h;have hB0 : U5 key 20 L (A ++ Z) := by
  rw [hLe];exact hF.app (.last (by omega) hZl hZ)
 rw [List.append_nil] at hL2;generalize A ++ Z = R0 at hB0 hL2;clear hF hL1 hZ e1 hZl hll hFl hLe hsa hsn;refine zf (za (zw ?_));refine Z9 (σ := Nat × List α) (fun s E S => Has E [(0, .slice a0 n c0), (1, .int .i64 n), (2, .func (.func cf) #[] #[]), (6, .int .i64 s.1)] ∧ 20 ≤ s.1 ∧ s.1 < 2 ^ 40 ∧ U5 key s.1 L s.2 ∧ ∃ H', Zc ty (.slice a0 n c0) s.2 H' ∧ zC S [H']) (fun s => n - s.1) (20, R0) ⟨⟨rfl, rfl, rfl, rfl, trivial⟩, Nat.le_refl _, by simp only; omega, hB0, H2, hL2, .of⟩ fun s E S ⟨hE, hw1, hw2, hB, H3, hL3, hJ⟩ => ?_
 obtain ⟨w, R⟩ := s;simp only at hE hw1 hw2 hB hL3;obtain ⟨E0, e0⟩ := zy hE; subst e0; clear hE;refine zq hJ (ze (ze (z8 (yp (pI rfl) (yp (pI rfl) (yp (ZO rfl rfl) (zf (za ?_))))))));refine zQ rfl (fun h => ?_) (fun h => ?_)
 ·refine zu (za (zw (ze (z8 (yp (pI rfl) ?_)))));refine yp (v := .int .i64 ((2 * w : Nat) : Int)) ?_ ?_
  ·rw [KY (m := 2) (n := (w : Int)) rfl rfl (by omega)];congr 2
  refine yp pC (yp (pI rfl) (zf (za (ze (zw ?_)))));refine Z9 (σ := Nat × List α × List α × List α × List α) (fun s E S => Has E [(0, .slice a0 n c0), (1, .int .i64 n), (2, .func (.func cf) #[] #[]), (6, .int .i64 w), (7, .int .i64 s.1), (8, .int .i64 (s.1 + 2 * w : Nat))] ∧ s.1 = s.2.1.length ∧ s.1 ≤ n ∧ L = s.2.1 ++ s.2.2.2.1 ∧ Full key (2 * w) s.2.1 s.2.2.1 ∧ U5 key w s.2.2.2.1 s.2.2.2.2 ∧ ∃ H', Zc ty (.slice a0 n c0) (s.2.2.1 ++ s.2.2.2.2) H' ∧ zC S [H']) (fun s => n - s.1) (0, [], [], L, R) ⟨⟨rfl, rfl, rfl, rfl, rfl, ?_, trivial⟩, rfl, Nat.zero_le _, rfl, .nil, hB, H3, hL3, .self⟩ fun s E S ⟨hE, hsa, hsn, hLe, hF, hBB, H4, hL4, hJ⟩ => ?_
  ·show Value.int .i64 ((2 * w : Nat) : Int) = .int .i64 ((0 + 2 * w : Nat) : Int);rw [Nat.zero_add]
  obtain ⟨a, LA, A, LB, B⟩ := s;simp only at hE hsa hsn hLe hF hBB hL4;have hFl := hF.len;have hBl := hBB.len;have hll := congrArg List.length hLe;rw [List.length_append] at hll;obtain ⟨E0, e0⟩ := zy hE; subst e0; clear hE;refine zq hJ (ze (ze (z8 (yp (pI rfl) (yp (pI rfl) (yp (jW rfl rfl) (zf (za ?_))))))));refine zQ rfl (fun h2 => ?_) (fun h2 => ?_)
  ·obtain ⟨l1, r1, LB1, B1, rfl, rfl, hl1, hr1, hs1, hBB1⟩ := hBB.split (by omega);rw [List.length_append] at hll hBl;have hgo : ∃ l2 r2 LB2 B2, LB1 = l2 ++ LB2 ∧ B1 = r2 ++ B2 ∧ l2.length = w ∧ r2.length = w ∧ SS key l2 r2 ∧ U5 key w LB2 B2 := by
    by_cases hlt : w < LB1.length
    ·exact hBB1.split hlt
    ·have e : LB1.length = w := by omega
     refine ⟨LB1, B1, [], [], by simp, by simp, e, by have := hBB1.len; omega, hBB1.one (by omega), .last (by simp) rfl ⟨.nil, fun _ => rfl⟩⟩
   obtain ⟨l2, r2, LB2, B2, rfl, rfl, hl2, hr2, hs2, hBB2⟩ := hgo;have e1 : A ++ (r1 ++ (r2 ++ B2)) = A ++ r1 ++ r2 ++ B2 := by simp only [List.append_assoc]
   rw [e1] at hL4;simp only [List.length_append] at hll hBl;refine zu (za (zw (ze (z8 (yp (pS rfl) (yp (pI rfl) (yp (pI rfl) (yp (pI rfl) (yp (Zo rfl rfl (by omega)) (yp (pI rfl) (yp (pF rfl) ?_)))))))))));refine zh (zk (Ye hm hr hsw hk key hc (r1.length + r2.length) (v := .slice a0 n c0) (p := A) (X := r1) (Y := r2) (q := B2) hL4 (by simp only [List.length_append]; omega) hs1.1 hs2.1 (by omega) (by omega) (Nat.le_refl _) (a := ((a : Nat) : Int)) (m := ((a + w : Nat) : Int)) (b := ((a + 2 * w : Nat) : Int)) (by omega) (by omega) (by omega)) rfl rfl fun r S' h => ?_);obtain ⟨rfl, Z, H5, hZ, hZl, hL5, rfl⟩ := h;refine zf (za (ze (z8 (yp (pI rfl) (yp (pI rfl) (zf (za (z8 (yp (pI rfl) (yp (pI rfl) ?_))))))))));refine yp (v := .int .i64 ((2 * w : Nat) : Int)) ?_ ?_
   ·rw [KY (m := 2) (n := (w : Int)) rfl rfl (by omega)];congr 2
   refine yp (Zo rfl rfl (by omega)) (yp (pI rfl) (zf (zT (za ?_))));refine ⟨(a + 2 * w, LA ++ (l1 ++ l2), A ++ Z, LB2, B2), ⟨⟨rfl, rfl, rfl, rfl, rfl, rfl, trivial⟩, by simp only [List.length_append]; omega, by simp only; omega, by rw [hLe]; simp only [List.append_assoc], .snoc hF (by rw [List.length_append]; omega) (by omega) (hs1.merge hs2 hZ), hBB2, H5, hL5, .of⟩, by simp only; omega⟩
  ·refine Z4 (zF (zF (Z5 (za (ze (ze (z8 (yp (pI rfl) (yp (pI rfl) (yp (Zo rfl rfl (by omega)) (yp (pI rfl) (zf (za (ze (z8 (yp (pI rfl) (yp (pI rfl) (yp (ZO rfl rfl) (zf (za ?_))))))))))))))))))));refine zQ rfl (fun h3 => ?_) (fun h3 => ?_)
   ·obtain ⟨l1, r1, LB1, B1, rfl, rfl, hl1, hr1, hs1, hBB1⟩ := hBB.split (by omega);rw [List.length_append] at hll hBl;have hs2 : SS key LB1 B1 := hBB1.one (by omega);have hBl1 := hBB1.len;have e1 : A ++ (r1 ++ B1) = A ++ r1 ++ B1 ++ [] := by simp only [List.append_assoc, List.append_nil]
    rw [e1] at hL4;refine z8 (yp (pS rfl) (yp (pI rfl) (yp (pI rfl) (yp (pI rfl) (yp (pF rfl) ?_)))));refine zh (zk (Ye hm hr hsw hk key hc (r1.length + B1.length) (v := .slice a0 n c0) (p := A) (X := r1) (Y := B1) (q := []) hL4 (by simp only [List.length_append, List.length_nil]; omega) hs1.1 hs2.1 (by omega) (by omega) (Nat.le_refl _) (a := ((a : Nat) : Int)) (m := ((a + w : Nat) : Int)) (b := ((n : Nat) : Int)) (by omega) (by omega) (by omega)) rfl rfl fun r S' h => ?_);obtain ⟨rfl, Z, H5, hZ, hZl, hL5, rfl⟩ := h;refine zf (za (z8 (yp (pI rfl) ?_)));refine yp (v := .int .i64 ((2 * w : Nat) : Int)) ?_ ?_
    ·rw [KY (m := (w : Int)) (n := 2) rfl rfl (by omega)];congr 2; omega
    refine yp (pI rfl) (zf (zT (za ?_)));refine ⟨(2 * w, A ++ Z), ⟨⟨rfl, rfl, rfl, rfl, trivial⟩, by simp only; omega, by simp only; omega, ?_, H5, by simpa only [List.append_nil] using hL5, .of⟩, by simp only; omega⟩;rw [hLe];exact hF.app (.last (by rw [List.length_append]; omega) (by rw [List.length_append]; omega) (hs1.merge hs2 hZ))
   ·refine zu (za (z8 (yp (pI rfl) ?_)));refine yp (v := .int .i64 ((2 * w : Nat) : Int)) ?_ ?_
    ·rw [KY (m := (w : Int)) (n := 2) rfl rfl (by omega)];congr 2; omega
    refine yp (pI rfl) (zf (zT (za ?_)));refine ⟨(2 * w, A ++ B), ⟨⟨rfl, rfl, rfl, rfl, trivial⟩, by simp only; omega, by simp only; omega, ?_, H4, hL4, .of⟩, by simp only; omega⟩;rw [hLe];exact hF.app (.last (by omega) hBl (hBB.one (by omega)))
 ·have hfin := hB.one (by omega);refine Z4 (zF (zF (Z5 ?_)));exact ZW w9 ⟨_, .of, rfl, R, H3, hfin, by have := hB.len; omega, hL3, rfl⟩
end Go.Xs