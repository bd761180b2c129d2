/- slices.SortStableFunc: symMerge. -/
import Derived.Test.YtejmbmenbailmaaGreatSymN
namespace Go.Xs
open Enc (enc)
variable {P : Program} {α : Type} [Enc α] {S : zo}
theorem Ye {f fr fs k ty : Nat} (hf : Za P f 220 #[] (J6 k fr f)) (hr : Za P fr 58 #[] (iy fs)) (hsw : Za P fs 38 #[] (KA k)) (hk : Enc.k α = k) (key : α → Int) {cf : Nat}
 (hc : ∀ a b : α, zP P cf #[.agg (enc a).toArray, .agg (enc b).toArray] [] (fun r S => (∃ z, r = .int .i64 z ∧ (z < 0 ↔ key a < key b)) ∧ S = [])) :
 ∀ (s : Nat) {v : Value} {p X Y q : List α} {H : List Chunk} (_hL : Zc ty v (p ++ X ++ Y ++ q) H) (_hlen : (p ++ X ++ Y ++ q).length < 2 ^ 40) (_hX : Sorted key X) (_hY : Sorted key Y) (_hx : 0 < X.length) (_hy : 0 < Y.length) (_hs : X.length + Y.length ≤ s)
  {a m b : Int} (_ha : a = (p.length : Nat)) (_hm : m = (p.length + X.length : Nat)) (_hb : b = (p.length + X.length + Y.length : Nat)),
  zP P f #[v, .int .i64 a, .int .i64 m, .int .i64 b, .func (.func cf) #[] #[]] [H] (fun r S => r = .tuple #[] ∧ ∃ Z H', SS key (X ++ Y) Z ∧ Z.length = X.length + Y.length ∧ Zc ty v (p ++ Z ++ q) H' ∧ S = [H']) := by
 intro s
 induction s with
 | zero => intro v p X Y q H hL hlen hX hY hx hy hs; omega
 | succ s ih =>
 intro v p X Y q H hL hlen hX hY hx hy hs a m b ha hm hb;by_cases hx1 : X.length = 1
 ·obtain ⟨x, rfl⟩ := List.length_eq_one_iff.1 hx1;have := bH hf hk key hc (x := x) (p := p) (Y := Y) (q := q) (by simpa using hL) (by simpa using hlen) hY ha (by simpa using hm) (by simpa using hb);simpa using this
 by_cases hy1 : Y.length = 1
 ·obtain ⟨y, rfl⟩ := List.length_eq_one_iff.1 hy1;exact QA hf hk key hc hL hlen hX hx1 ha hm (by simpa using hb)
 subst ha hm hb;refine zP.forget (zm hf (Nat.le_of_ble_eq_true rfl) ?_);have hN : (p ++ X ++ Y ++ q).length = p.length + X.length + Y.length + q.length := by simp; omega
 obtain ⟨a0, c0, hv⟩ := hL.isSlice;generalize hNN : (p ++ X ++ Y ++ q).length = N at hlen hN hv;subst hv;unfold J6;refine ze (ze (z8 (yp (pI rfl) (yp (pI rfl) (yp (ZH rfl rfl (by omega)) (yp (Wi rfl rfl) (zf (za ?_))))))));refine zQ rfl (fun h => by omega) (fun _ => ?_);refine zu (za (ze (ze (z8 (yp (pI rfl) (yp (pI rfl) (yp (ZH rfl rfl (by omega)) (yp (Wi rfl rfl) (zf (za ?_))))))))));refine zQ rfl (fun h => by omega) (fun _ => ?_);refine zu (za (ze (z8 (yp (pI rfl) (yp (pI rfl) (yp (Zo rfl rfl (by omega)) (yp (KZ rfl (by omega)) (yp (qQ rfl) (yp (dI rfl (by omega)) ?_)))))))));obtain ⟨c, hcd⟩ : ∃ c, c = (X.length + Y.length) / 2 := ⟨_, rfl⟩
 rw [show (p.length + (p.length + X.length + Y.length)) / 2 = p.length + c from by omega];refine yp (pI rfl) (zf (za (ze (z8 (yp (pI rfl) (yp (pI rfl) (yp (Zo rfl rfl (by omega)) (yp (pI rfl) (zf (za (ze (z8 (yp pC (yp pC (zf (za ?_))))))))))))))));refine vE (fun E S => Has E [(0, .slice a0 N c0), (1, .int .i64 (p.length : Nat)), (2, .int .i64 (p.length + X.length : Nat)), (3, .int .i64 (p.length + X.length + Y.length : Nat)), (4, .func (.func cf) #[] #[]), (18, .int .i64 (p.length + c : Nat)), (19, .int .i64 (p.length + c + (p.length + X.length) : Nat)), (20, .int .i64 (p.length + (c - Y.length) : Nat)), (21, .int .i64 (p.length + min c X.length : Nat))] ∧ zC S [H]) ?_ ?_
 ·refine ze (z8 (yp (pI rfl) (yp (pI rfl) (yp (Vs rfl rfl) (zf (za ?_))))));refine zQ rfl (fun h => ?_) (fun h => ?_)
  ·refine ze (z8 (yp (pI rfl) (yp (pI rfl) (yp (ZH rfl rfl (by omega)) (yp (pI rfl) (zf (za (z8 (yp (pI rfl) (yp (pI rfl) (zf (za ?_))))))))))));refine ⟨⟨rfl, rfl, rfl, rfl, rfl, rfl, rfl, ?_, ?_, trivial⟩, .self⟩
   ·show Value.int .i64 (((p.length + c + (p.length + X.length) : Nat) : Int) - ((p.length + X.length + Y.length : Nat) : Int)) = .int .i64 ((p.length + (c - Y.length) : Nat) : Int);congr 1; omega
   ·show Value.int .i64 ((p.length + c : Nat) : Int) = .int .i64 ((p.length + min c X.length : Nat) : Int);congr 1; omega
  ·refine ze (z8 (yp (pI rfl) (yp (pI rfl) (zf (za (z8 (yp (pI rfl) (yp (pI rfl) (zf (za ?_))))))))));refine ⟨⟨rfl, rfl, rfl, rfl, rfl, rfl, rfl, ?_, ?_, trivial⟩, .self⟩
   ·show Value.int .i64 ((p.length : Nat) : Int) = .int .i64 ((p.length + (c - Y.length) : Nat) : Int);congr 1; omega
   ·show Value.int .i64 ((p.length + X.length : Nat) : Int) = .int .i64 ((p.length + min c X.length : Nat) : Int);congr 1; omega
 rintro E S ⟨hE, hJ⟩;obtain ⟨E0, e0⟩ := zy hE; subst e0; clear hE;refine zq hJ (ze (z8 (yp (pI rfl) (yp (wh rfl rfl (by omega)) (yp (pI rfl) (zf (za (ze (zw ?_)))))))));refine Z9 (σ := Nat × Nat) (fun s E S => Has E [(0, .slice a0 N c0), (1, .int .i64 (p.length : Nat)), (2, .int .i64 (p.length + X.length : Nat)), (3, .int .i64 (p.length + X.length + Y.length : Nat)), (4, .func (.func cf) #[] #[]), (18, .int .i64 (p.length + c : Nat)), (19, .int .i64 (p.length + c + (p.length + X.length) : Nat)), (20, .int .i64 (p.length + s.1 : Nat)), (21, .int .i64 (p.length + s.2 : Nat)), (22, .int .i64 (p.length + c + (p.length + X.length) - 1 : Nat))] ∧ c - Y.length ≤ s.1 ∧ s.1 ≤ s.2 ∧ s.2 ≤ min c X.length ∧
  (∀ e w, c - Y.length < s.1 → X[s.1 - 1]? = some e → Y[c - s.1]? = some w → key e ≤ key w) ∧ (∀ e w, s.2 < min c X.length → X[s.2]? = some e → Y[c - 1 - s.2]? = some w → key w < key e) ∧ zC S [H]) (fun s => s.2 - s.1) (c - Y.length, min c X.length) ⟨⟨rfl, rfl, rfl, rfl, rfl, rfl, rfl, rfl, rfl, rfl, trivial⟩, Nat.le_refl _, by simp only; omega, Nat.le_refl _, fun e w h => absurd h (Nat.lt_irrefl _), fun e w h => absurd h (Nat.lt_irrefl _), .self⟩ fun s E S ⟨hE, hlo, hi, hj, h1, h2, hJ⟩ => ?_
 obtain ⟨i, j⟩ := s;simp only at hE hlo hi hj h1 h2;obtain ⟨E0, e0⟩ := zy hE; subst e0; clear hE;refine zq hJ (ze (ze (z8 (yp (pI rfl) (yp (pI rfl) (yp (ZO rfl rfl) (zf (za ?_))))))));refine zQ rfl (fun h => ?_) (fun h => ?_)
 ·have hij : i < j := by omega
  refine zu (za (zw (ze (z8 (yp (pI rfl) (yp (pI rfl) (yp (Zo rfl rfl (by omega)) (yp (KZ rfl (by omega)) (yp (qQ rfl) (yp (dI rfl (by omega)) ?_))))))))));rw [show (p.length + i + (p.length + j)) / 2 = p.length + (i + j) / 2 from by omega];have hh1 : i ≤ (i + j) / 2 := by omega
  have hh2 : (i + j) / 2 < j := by omega
  generalize (i + j) / 2 = g at hh1 hh2;have hgc : g < c := by omega
  have hgx : g < X.length := by omega
  obtain ⟨e, he⟩ : ∃ e, X[g]? = some e := ⟨_, List.getElem?_eq_getElem (by omega)⟩
  obtain ⟨w, hw⟩ : ∃ w, Y[c - 1 - g]? = some w := ⟨_, List.getElem?_eq_getElem (by omega)⟩
  have he1 : ∀ n : Nat, n = p.length + g → (p ++ X ++ Y ++ q)[n]? = some e := by
   intro n hn;rw [hn, List.append_assoc, List.append_assoc, List.getElem?_append_right (by omega), show p.length + g - p.length = g from by omega, List.getElem?_append_left (by omega), he]
  have hw1 : ∀ n : Nat, n = p.length + X.length + (c - 1 - g) → (p ++ X ++ Y ++ q)[n]? = some w := by
   intro n hn;rw [hn, List.append_assoc, List.getElem?_append_right (by rw [List.length_append]; omega), show p.length + X.length + (c - 1 - g) - (p ++ X).length = c - 1 - g from by rw [List.length_append]; omega, List.getElem?_append_left (by omega), hw]
  obtain ⟨bb, sp, fz, hz, rfl, hN2, hc0, rfl⟩ := hL.at' (by intro h; rw [h] at hNN; simp at hNN; omega);refine yp (pI rfl) (zf (za (ze (zX (zi (pF rfl) (zi (pS rfl) (zi (pI rfl) (zi (pI rfl) (zi (ZH rfl rfl (by omega)) ?_)))))))));rw [show (((p.length + c + (p.length + X.length) - 1 : Nat) : Int) - ((p.length + g : Nat) : Int)) = ((p.length + X.length + (c - 1 - g) : Nat) : Int) from by omega];refine zi (zU rfl rfl (by omega)) (Vi (l := enc w) rfl (Zw (hw1 _ rfl) hk) (by rw [Enc.len, hk]) (zi (pS rfl) (zi (pI rfl) (zi (zU rfl rfl (by omega)) (Vi (l := enc e) rfl (Zw (he1 _ rfl) hk) (by rw [Enc.len, hk]) ?_)))))
  skip
  refine zN (zk (hc w e) rfl rfl fun v S' h => ?_) zO;obtain ⟨⟨z, rfl, hz2⟩, rfl⟩ := h;refine zi (ZO rfl rfl) (zi (Zi rfl) (zL (za ?_)));by_cases h3 : z < 0
  ·rw [decide_eq_true h3];refine zA rfl (z8 (yp (pI rfl) (yp (pI rfl) (zf (zT (za ?_))))));refine ⟨(i, g), ⟨⟨rfl, rfl, rfl, rfl, rfl, rfl, rfl, rfl, rfl, rfl, trivial⟩, hlo, hh1, by simp only; omega, h1, ?_, .of⟩, by simp only; omega⟩;intro e' w' _ he' hw';simp only at he' hw';rw [he] at he'; rw [hw] at hw';cases he'; cases hw';exact hz2.1 h3
  ·rw [decide_eq_false h3];refine zH rfl (z8 (yp (pI rfl) (yp (Zg rfl rfl (by omega)) (yp (pI rfl) (zf (zT (za ?_)))))));refine ⟨(g + 1, j), ⟨⟨rfl, rfl, rfl, rfl, rfl, rfl, rfl, rfl, rfl, rfl, trivial⟩, by simp only; omega, by simp only; omega, hj, ?_, h2, .of⟩, by simp only; omega⟩;intro e' w' _ he' hw';simp only [Nat.add_sub_cancel] at he' hw';rw [show c - (g + 1) = c - 1 - g from by omega] at hw';rw [he] at he'; rw [hw] at hw';cases he'; cases hw';have := mt hz2.2 h3;omega
 obtain rfl : i = j := by omega
 refine Z4 (zF (zF (Z5 (za (ze (z8 (yp (pI rfl) (yp (pI rfl) (yp (ZH rfl rfl (by omega)) (yp (pI rfl) (zf (za ?_))))))))))));rw [show (((p.length + c + (p.length + X.length) : Nat) : Int) - ((p.length + i : Nat) : Int)) = ((p.length + X.length + (c - i) : Nat) : Int) from by omega];have hA : ∀ a ∈ Y.take (c - i), ∀ b ∈ X.drop i, key a < key b := by
  intro a ha b hb;by_cases hi2 : i < min c X.length
  ·obtain ⟨e, he⟩ : ∃ e, X[i]? = some e := ⟨_, List.getElem?_eq_getElem (by omega)⟩
   obtain ⟨w, hw⟩ : ∃ w, Y[c - 1 - i]? = some w := ⟨_, List.getElem?_eq_getElem (by omega)⟩
   have h3 := h2 e w hi2 he hw;have h4 := hY.Xl hw a (by rw [show c - 1 - i + 1 = c - i from by omega]; exact ha);have h5 := hX.Xv he b hb;omega
  ·rcases (by omega : i = c ∨ i = X.length) with rfl | rfl
   ·simp at ha
   ·simp at hb
 have hB : ∀ a ∈ X.take i, ∀ b ∈ Y.drop (c - i), key a ≤ key b := by
  intro a ha b hb;by_cases hi2 : c - Y.length < i
  ·obtain ⟨e, he⟩ : ∃ e, X[i - 1]? = some e := ⟨_, List.getElem?_eq_getElem (by omega)⟩
   obtain ⟨w, hw⟩ : ∃ w, Y[c - i]? = some w := ⟨_, List.getElem?_eq_getElem (by omega)⟩
   have h3 := h1 e w hi2 he hw;have h4 := hX.Xl he a (by rw [show i - 1 + 1 = i from by omega]; exact ha);have h5 := hY.Xv hw b hb;omega
  ·by_cases hcy : Y.length ≤ c
   ·rw [List.drop_eq_nil_of_le (by omega)] at hb; cases hb
   ·have : i = 0 := by omega
    subst this;simp at ha
 have hXe := List.take_append_drop i X;have hYe := List.take_append_drop (c - i) Y;have lX1 : (X.take i).length = i := by rw [List.length_take]; omega
 have lX2 : (X.drop i).length = X.length - i := by rw [List.length_drop]
 have lY1 : (Y.take (c - i)).length = c - i := by rw [List.length_take]; omega
 have lY2 : (Y.drop (c - i)).length = Y.length - (c - i) := by rw [List.length_drop]
 generalize X.take i = X1 at hA hB hXe lX1;generalize X.drop i = X2 at hA hB hXe lX2;generalize Y.take (c - i) = Y1 at hA hB hYe lY1;generalize Y.drop (c - i) = Y2 at hA hB hYe lY2;have hXs : Sorted key (X1 ++ X2) := by rw [hXe]; exact hX
 have hYs : Sorted key (Y1 ++ Y2) := by rw [hYe]; exact hY
 have hL1 : Zc ty (.slice a0 N c0) ((p ++ X1) ++ X2 ++ Y1 ++ (Y2 ++ q)) H := by
  rw [← hXe, ← hYe] at hL; simpa only [List.append_assoc] using hL
 have hll : ((p ++ X1) ++ X2 ++ Y1 ++ (Y2 ++ q)).length = N := by simp only [List.length_append]; omega
 refine vE (fun E S => Has E [(0, .slice a0 N c0), (1, .int .i64 (p.length : Nat)), (3, .int .i64 (p.length + X.length + Y.length : Nat)), (4, .func (.func cf) #[] #[]), (18, .int .i64 (p.length + c : Nat)), (20, .int .i64 (p.length + i : Nat)), (24, .int .i64 (p.length + X.length + (c - i) : Nat))] ∧
  ∃ H', Zc ty (.slice a0 N c0) (p ++ X1 ++ Y1 ++ (X2 ++ Y2 ++ q)) H' ∧ zC S [H']) ?_ ?_
 ·refine ze (z8 (yp (pI rfl) (yp (pI rfl) (yp (ZO rfl rfl) (yp (pB rfl) ?_)))));have hskip : (X2 = [] ∨ Y1 = []) → Zc ty (.slice a0 N c0) (p ++ X1 ++ Y1 ++ (X2 ++ Y2 ++ q)) H := by
   rintro (rfl | rfl)
   ·simpa only [List.append_assoc, List.append_nil, List.nil_append] using hL1
   ·simpa only [List.append_assoc, List.append_nil, List.nil_append] using hL1
  by_cases hc1 : i < X.length
  ·rw [decide_eq_true (show ((p.length + i : Nat) : Int) < ((p.length + X.length : Nat) : Int) from by omega)];refine zZ rfl (Zb (pI rfl) (zZ rfl (Zb (pI rfl) (zZ rfl (Zb (ZO rfl rfl) (yp (zM rfl rfl) (zf (za ?_))))))));by_cases hc2 : 0 < c - i
   ·rw [decide_eq_true (show ((p.length + X.length : Nat) : Int) < ((p.length + X.length + (c - i) : Nat) : Int) from by omega)];refine zH rfl (z8 (yp (pS rfl) (yp (pI rfl) (yp (pI rfl) (yp (pI rfl) (yp (pF rfl) ?_))))));refine zh (zk (rotate hr hsw hk (cf := cf) hL1 (by rw [hll]; exact hlen) (by omega) (by omega) (a := ((p.length + i : Nat) : Int)) (m := ((p.length + X.length : Nat) : Int)) (b := ((p.length + X.length + (c - i) : Nat) : Int)) (by rw [List.length_append]; omega) (by rw [List.length_append]; omega) (by rw [List.length_append]; omega)) rfl rfl fun r S' h => ?_);obtain ⟨rfl, H2, hL2, rfl⟩ := h;refine zf (za ?_);exact ⟨⟨rfl, rfl, rfl, rfl, rfl, rfl, rfl, trivial⟩, H2, by simpa only [List.append_assoc] using hL2, .of⟩
   ·rw [decide_eq_false (show ¬ ((p.length + X.length : Nat) : Int) < ((p.length + X.length + (c - i) : Nat) : Int) from by omega)];refine zA rfl (zu (za ?_));exact ⟨⟨rfl, rfl, rfl, rfl, rfl, rfl, rfl, trivial⟩, H, hskip (.inr (List.length_eq_zero_iff.1 (by omega))), .self⟩
  ·rw [decide_eq_false (show ¬ ((p.length + i : Nat) : Int) < ((p.length + X.length : Nat) : Int) from by omega)];refine Z0 rfl (Z0 rfl (Z0 rfl (yp (zS rfl rfl) (zf (za (zA rfl (zu (za ?_))))))));exact ⟨⟨rfl, rfl, rfl, rfl, rfl, rfl, rfl, trivial⟩, H, hskip (.inl (List.length_eq_zero_iff.1 (by omega))), .self⟩
 rintro E S ⟨hE, H2, hL2, hJ⟩;obtain ⟨E0, e0⟩ := zy hE; subst e0; clear hE;refine zq hJ ?_;refine vE (fun E S => Has E [(0, .slice a0 N c0), (3, .int .i64 (p.length + X.length + Y.length : Nat)), (4, .func (.func cf) #[] #[]), (18, .int .i64 (p.length + c : Nat)), (24, .int .i64 (p.length + X.length + (c - i) : Nat))] ∧
  ∃ Z1 H', SS key (X1 ++ Y1) Z1 ∧ Z1.length = c ∧ Zc ty (.slice a0 N c0) (p ++ Z1 ++ (X2 ++ Y2 ++ q)) H' ∧ zC S [H']) ?_ ?_
 ·refine ze (z8 (yp (pI rfl) (yp (pI rfl) (yp (ZO rfl rfl) (yp (pB rfl) ?_)))));have hskip : (X1 = [] ∨ Y1 = []) → SS key (X1 ++ Y1) (X1 ++ Y1) := by
   rintro (rfl | rfl)
   ·exact (List.pairwise_append.1 hYs).1 |> fun h => by simpa using Sorted.SS h
   ·exact (List.pairwise_append.1 hXs).1 |> fun h => by simpa using Sorted.SS h
  by_cases hc1 : 0 < i
  ·rw [decide_eq_true (show ((p.length : Nat) : Int) < ((p.length + i : Nat) : Int) from by omega)];refine zZ rfl (Zb (pI rfl) (zZ rfl (Zb (pI rfl) (zZ rfl (Zb (ZO rfl rfl) (yp (zM rfl rfl) (zf (za ?_))))))));by_cases hc2 : i < c
   ·rw [decide_eq_true (show ((p.length + i : Nat) : Int) < ((p.length + c : Nat) : Int) from by omega)];refine zH rfl (z8 (yp (pS rfl) (yp (pI rfl) (yp (pI rfl) (yp (pI rfl) (yp (pF rfl) ?_))))));refine zh (zk (ih (q := X2 ++ Y2 ++ q) hL2 (by simp only [List.length_append] at hll ⊢; omega) (List.pairwise_append.1 hXs).1 (List.pairwise_append.1 hYs).1 (by omega) (by omega) (by omega) (a := ((p.length : Nat) : Int)) (m := ((p.length + i : Nat) : Int)) (b := ((p.length + c : Nat) : Int)) rfl (by omega) (by omega)) rfl rfl fun r S' h => ?_);obtain ⟨rfl, Z1, H3, hZ, hZl, hL3, rfl⟩ := h;refine zf (za ?_);exact ⟨⟨rfl, rfl, rfl, rfl, rfl, trivial⟩, Z1, H3, hZ, by omega, hL3, .of⟩
   ·rw [decide_eq_false (show ¬ ((p.length + i : Nat) : Int) < ((p.length + c : Nat) : Int) from by omega)];refine zA rfl (zu (za ?_));exact ⟨⟨rfl, rfl, rfl, rfl, rfl, trivial⟩, X1 ++ Y1, H2, hskip (.inr (List.length_eq_zero_iff.1 (by omega))), by rw [List.length_append]; omega, by simpa only [List.append_assoc] using hL2, .self⟩
  ·rw [decide_eq_false (show ¬ ((p.length : Nat) : Int) < ((p.length + i : Nat) : Int) from by omega)];refine Z0 rfl (Z0 rfl (Z0 rfl (yp (zS rfl rfl) (zf (za (zA rfl (zu (za ?_))))))));exact ⟨⟨rfl, rfl, rfl, rfl, rfl, trivial⟩, X1 ++ Y1, H2, hskip (.inl (List.length_eq_zero_iff.1 (by omega))), by rw [List.length_append]; omega, by simpa only [List.append_assoc] using hL2, .self⟩
 rintro E S ⟨hE, Z1, H3, hZ1, hZl, hL3, hJ⟩;obtain ⟨E0, e0⟩ := zy hE; subst e0; clear hE;refine zq hJ ?_;have hfin : ∀ Z2, SS key (X2 ++ Y2) Z2 → SS key (X ++ Y) (Z1 ++ Z2) := fun Z2 h => by
  rw [← hXe, ← hYe];exact SS.join hZ1 h hXs hYs hA hB
 have hskip : (X2 = [] ∨ Y2 = []) → SS key (X2 ++ Y2) (X2 ++ Y2) := by
  rintro (rfl | rfl)
  ·exact (List.pairwise_append.1 hYs).2.1 |> fun h => by simpa using Sorted.SS h
  ·exact (List.pairwise_append.1 hXs).2.1 |> fun h => by simpa using Sorted.SS h
 refine ze (z8 (yp (pI rfl) (yp (pI rfl) (yp (ZO rfl rfl) (yp (pB rfl) ?_)))));by_cases hc1 : i < X.length
 ·rw [decide_eq_true (show ((p.length + c : Nat) : Int) < ((p.length + X.length + (c - i) : Nat) : Int) from by omega)];refine zZ rfl (Zb (pI rfl) (zZ rfl (Zb (pI rfl) (zZ rfl (Zb (ZO rfl rfl) (yp (zM rfl rfl) (zf (za ?_))))))));by_cases hc2 : c - i < Y.length
  ·rw [decide_eq_true (show ((p.length + X.length + (c - i) : Nat) : Int) < ((p.length + X.length + Y.length : Nat) : Int) from by omega)];refine zH rfl (z8 (yp (pS rfl) (yp (pI rfl) (yp (pI rfl) (yp (pI rfl) (yp (pF rfl) ?_))))));refine zh (zk (ih (v := .slice a0 N c0) (p := p ++ Z1) (X := X2) (Y := Y2) (q := q) (by simpa only [List.append_assoc] using hL3) (by simp only [List.length_append] at hll ⊢; omega) (List.pairwise_append.1 hXs).2.1 (List.pairwise_append.1 hYs).2.1 (by omega) (by omega) (by omega) (a := ((p.length + c : Nat) : Int)) (m := ((p.length + X.length + (c - i) : Nat) : Int)) (b := ((p.length + X.length + Y.length : Nat) : Int)) (by rw [List.length_append]; omega) (by rw [List.length_append]; omega) (by rw [List.length_append]; omega)) rfl rfl fun r S' h => ?_);obtain ⟨rfl, Z2, H4, hZ2, hZl2, hL4, rfl⟩ := h;refine zf ?_;exact ZW w9 ⟨_, .of, rfl, Z1 ++ Z2, H4, hfin _ hZ2, by rw [List.length_append]; omega, by simpa only [List.append_assoc] using hL4, rfl⟩
  ·rw [decide_eq_false (show ¬ ((p.length + X.length + (c - i) : Nat) : Int) < ((p.length + X.length + Y.length : Nat) : Int) from by omega)];refine zA rfl (zu ?_);exact ZW w9 ⟨_, .of, rfl, Z1 ++ (X2 ++ Y2), H3, hfin _ (hskip (.inr (List.length_eq_zero_iff.1 (by omega)))), by rw [List.length_append, List.length_append]; omega, by simpa only [List.append_assoc] using hL3, rfl⟩
 ·rw [decide_eq_false (show ¬ ((p.length + c : Nat) : Int) < ((p.length + X.length + (c - i) : Nat) : Int) from by omega)];refine Z0 rfl (Z0 rfl (Z0 rfl (yp (zS rfl rfl) (zf (za (zA rfl (zu ?_)))))));exact ZW w9 ⟨_, .of, rfl, Z1 ++ (X2 ++ Y2), H3, hfin _ (hskip (.inl (List.length_eq_zero_iff.1 (by omega)))), by rw [List.length_append, List.length_append]; omega, by simpa only [List.append_assoc] using hL3, rfl⟩
end Go.Xs