/- slices.SortStableFunc: symMerge of one element and many. -/
import Derived.Test.YtejmbmenbailmaaGreatSymM
namespace Go.Xs
open Enc (enc)
variable {P : Program} {α : Type} [Enc α] {S : zo}
theorem Yd {β : Type} {Y : List β} {t : Nat} {w : β} (hw : Y[t]? = some w) : Y.take (t + 1) = Y.take t ++ [w] := by
 rw [List.take_add_one, hw]; rfl
theorem YC {β : Type} {Y : List β} {t : Nat} {w : β} (hw : Y[t]? = some w) : Y.drop t = w :: Y.drop (t + 1) := by
 obtain ⟨ht, rfl⟩ := List.getElem?_eq_some_iff.1 hw;exact List.drop_eq_getElem_cons ht
theorem Kh {β : Type} {U V : List β} {w : β} {n : Nat} (hn : n = U.length) : (U ++ w :: V)[n]? = some w := by
 subst hn;rw [List.getElem?_append_right (Nat.le_refl _)]; simp
theorem bH {f fr fs k ty : Nat} (hf : Za P f 220 #[] (J6 k fr fs)) (hk : Enc.k α = k) (key : α → Int) {cf : Nat}
 (hc : ∀ a b : α, zP P cf #[.agg (enc a).toArray, .agg (enc b).toArray] [] (fun r S => (∃ z, r = .int .i64 z ∧ (z < 0 ↔ key a < key b)) ∧ S = []))
 {v : Value} {p Y q : List α} {x : α} {H : List Chunk} (hL : Zc ty v (p ++ x :: Y ++ q) H) (hlen : (p ++ x :: Y ++ q).length < 2 ^ 40) (hY : Sorted key Y)
 {a m b : Int} (ha : a = (p.length : Nat)) (hm : m = (p.length + 1 : Nat)) (hb : b = (p.length + 1 + Y.length : Nat)) :
 zP P f #[v, .int .i64 a, .int .i64 m, .int .i64 b, .func (.func cf) #[] #[]] [H] (fun r S => r = .tuple #[] ∧ ∃ Z H', SS key (x :: Y) Z ∧ Z.length = 1 + Y.length ∧ Zc ty v (p ++ Z ++ q) H' ∧ S = [H']) := by
 subst ha hm hb;refine zP.forget (zm hf (Nat.le_of_ble_eq_true rfl) ?_);unfold J6;have hN : (p ++ x :: Y ++ q).length = p.length + 1 + Y.length + q.length := by simp; omega
 obtain ⟨bb, sp, fz, hz, hv⟩ : ∃ (bb : Nat) (sp : List α) (fz : Nat × Nat), uO fz (cells (p ++ x :: Y ++ q ++ sp)).length ∧ v = .slice (some ⟨bb, 0, none⟩) (p ++ x :: Y ++ q).length ((p ++ x :: Y ++ q).length + sp.length) ∧ H = [(bb, .cells (cells (p ++ x :: Y ++ q ++ sp)).toArray ty fz)] := by
  rcases hL.inv with ⟨_, h, _⟩ | ⟨b, sp, fz, hz, h1, h2⟩
  ·simp at h
  ·exact ⟨b, sp, fz, hz, h1, h2⟩
 obtain ⟨rfl, rfl⟩ := hv;generalize hNN : (p ++ x :: Y ++ q).length = N at hlen hN;generalize hc0 : N + sp.length = c0;have hx0 : (p ++ x :: Y ++ q)[p.length]? = some x := by rw [List.append_assoc, List.cons_append]; exact Kh rfl
 have hyt : ∀ t w, Y[t]? = some w → (p ++ x :: Y ++ q)[p.length + 1 + t]? = some w := by
  intro t w h;obtain ⟨ht, _⟩ := List.getElem?_eq_some_iff.1 h;rw [List.append_assoc, List.getElem?_append_right (by omega), show p.length + 1 + t - p.length = t + 1 from by omega, List.cons_append, List.getElem?_cons_succ, List.getElem?_append_left ht, h]
 refine ze (ze (z8 (yp (pI rfl) (yp (pI rfl) (yp (ZH rfl rfl (by omega)) (yp (Wi rfl rfl) (zf (za ?_))))))));refine zQ rfl (fun h => ?_) (fun h => by omega);refine ze (z8 (yp (pI rfl) (yp (pI rfl) (zf (za (ze (z8 (yp (pI rfl) (yp (pI rfl) (zf (za (ze (zw ?_)))))))))))));refine Z9 (σ := Nat × Nat) (fun s E S => Has E [(0, .slice (some ⟨bb, 0, none⟩) N c0), (1, .int .i64 (p.length : Nat)), (4, .func (.func cf) #[] #[]), (10, .int .i64 (p.length + 1 + s.1 : Nat)), (11, .int .i64 (p.length + 1 + s.2 : Nat))] ∧ s.1 ≤ s.2 ∧ s.2 ≤ Y.length ∧ (∀ e ∈ Y.take s.1, key e < key x) ∧ (∀ e ∈ Y.drop s.2, key x ≤ key e) ∧ zC S [[(bb, .cells (cells (p ++ x :: Y ++ q ++ sp)).toArray ty fz)]]) (fun s => s.2 - s.1) (0, Y.length) ⟨⟨rfl, rfl, rfl, rfl, rfl, trivial⟩, Nat.zero_le _, Nat.le_refl _, by simp, by simp, .self⟩ fun s E S ⟨hE, hi, hj, h1, h2, hJ⟩ => ?_
 obtain ⟨i, j⟩ := s;simp only at hE hi hj h1 h2;obtain ⟨E0, e0⟩ := zy hE; subst e0; clear hE;refine zq hJ (ze (ze (z8 (yp (pI rfl) (yp (pI rfl) (yp (ZO rfl rfl) (zf (za ?_))))))));refine zQ rfl (fun h => ?_) (fun h => ?_)
 ·have hij : i < j := by omega
  refine zu (za (zw (ze (z8 (yp (pI rfl) (yp (pI rfl) (yp (Zo rfl rfl (by omega)) (yp (KZ rfl (by omega)) (yp (qQ rfl) (yp (dI rfl (by omega)) ?_))))))))));rw [show (p.length + 1 + i + (p.length + 1 + j)) / 2 = p.length + 1 + (i + j) / 2 from by omega];have hh1 : i ≤ (i + j) / 2 := by omega
  have hh2 : (i + j) / 2 < j := by omega
  generalize (i + j) / 2 = g at hh1 hh2;obtain ⟨w, hw⟩ : ∃ w, Y[g]? = some w := ⟨_, List.getElem?_eq_getElem (by omega)⟩
  refine yp (pI rfl) (zf (za (ze (zX (zi (pF rfl) (zi (pS rfl) (zi (pI rfl) (zi (zU rfl rfl (by omega)) (Vi (l := enc w) rfl (Zw (hyt g w hw) hk) (by rw [Enc.len, hk]) (zi (pS rfl) (zi (pI rfl) (zi (zU rfl rfl (by omega)) (Vi (l := enc x) rfl (Zw hx0 hk) (by rw [Enc.len, hk]) ?_)))))))))))))
  skip
  refine zN (zk (hc w x) rfl rfl fun v S' h => ?_) zO;obtain ⟨⟨z, rfl, hz2⟩, rfl⟩ := h;refine zi (ZO rfl rfl) (zL (za ?_));refine zQ rfl (fun h3 => ?_) (fun h3 => ?_)
  ·refine z8 (yp (pI rfl) (yp (Zg rfl rfl (by omega)) (yp (pI rfl) (zf (zT (za ?_))))));refine ⟨(g + 1, j), ⟨⟨rfl, rfl, rfl, rfl, rfl, trivial⟩, by simp only; omega, hj, ?_, h2, .of⟩, by simp only; omega⟩;intro e he;have h5 := hY.Xl hw e he;have h6 := hz2.1 h3;omega
  ·refine z8 (yp (pI rfl) (yp (pI rfl) (zf (zT (za ?_)))));refine ⟨(i, g), ⟨⟨rfl, rfl, rfl, rfl, rfl, trivial⟩, by simp only; omega, by simp only; omega, h1, ?_, .of⟩, by simp only; omega⟩;intro e he;have h5 := hY.Xv hw e he;have h6 : ¬ key w < key x := mt hz2.2 h3;omega
 obtain rfl : i = j := by omega
 refine Z4 (zF (zF (Z5 (za (ze (ze (z8 (yp (pI rfl) (yp (pI rfl) (zf (za (zw ?_))))))))))));refine Z9 (σ := Nat) (fun t E S => Has E [(0, .slice (some ⟨bb, 0, none⟩) N c0), (10, .int .i64 (p.length + 1 + i : Nat)), (13, .int .i64 (p.length + t : Nat))] ∧ t ≤ i ∧ zC S [[(bb, .cells (cells (p ++ (Y.take t ++ x :: Y.drop t) ++ q ++ sp)).toArray ty fz)]]) (fun t => i - t) 0 ⟨⟨rfl, rfl, rfl, trivial⟩, Nat.zero_le _, by simpa using .self⟩ fun t E S ⟨hE, ht, hJ2⟩ => ?_
 obtain ⟨E0, e0⟩ := zy hE; subst e0; clear hE;refine zq hJ2 (ze (ze (z8 (yp (pI rfl) (yp (pI rfl) (yp (wh rfl rfl (by omega)) (yp (ZO rfl rfl) (zf (za ?_)))))))));have hlt : (p ++ (Y.take t ++ x :: Y.drop t) ++ q).length = N := by rw [hN]; simp; omega
 refine zQ rfl (fun h => ?_) (fun h => ?_)
 ·have hti : t < i := by omega
  obtain ⟨w, hw⟩ : ∃ w, Y[t]? = some w := ⟨_, List.getElem?_eq_getElem (by omega)⟩
  have hd := YC hw;have hsh : p ++ (Y.take t ++ x :: Y.drop t) ++ q = (p ++ Y.take t) ++ x :: ([] ++ w :: (Y.drop (t + 1) ++ q)) := by rw [hd]; simp
  have hsh2 : p ++ (Y.take (t + 1) ++ x :: Y.drop (t + 1)) ++ q = (p ++ Y.take t) ++ w :: ([] ++ x :: (Y.drop (t + 1) ++ q)) := by rw [Yd hw]; simp
  have hu : (p ++ Y.take t).length = p.length + t := by simp; omega
  have hfz : uO fz (cells (p ++ (Y.take t ++ x :: Y.drop t) ++ q ++ sp)).length := by
   rw [zK, List.length_append, hlt, ← hNN, ← List.length_append, ← zK]; exact hz
  generalize p ++ (Y.take t ++ x :: Y.drop t) ++ q = LL at *
  generalize hh : p ++ (Y.take (t + 1) ++ x :: Y.drop (t + 1)) ++ q = LL2 at *
  have hx1 : LL[p.length + t]? = some x := by rw [hsh]; exact Kh hu.symm
  have hw1 : LL[p.length + t + 1]? = some w := by
   rw [hsh, List.getElem?_append_right (by omega), hu, show p.length + t + 1 - (p.length + t) = 0 + 1 from by omega]; rfl
  refine zu (za (ze (zw (zX (zi (pS rfl) (zi (pI rfl) (zi (pS rfl) (zi (pI rfl) (zi (Zg rfl rfl (by omega)) (zi (pS rfl) (zi (pI rfl) (zi (Zg rfl rfl (by omega)) (zi (zU rfl rfl (by omega)) (Vi (l := enc w) rfl (Zw hw1 hk) (by rw [Enc.len, hk]) (zi (pS rfl) (zi (pI rfl) (zi (zU rfl rfl (by omega)) (Vi (l := enc x) rfl (Zw hx1 hk) (by rw [Enc.len, hk]) (zi (zU rfl rfl (by omega)) ?_)))))))))))))))))));have hb1 : p.length + t < (LL ++ sp).length := by rw [List.length_append]; omega
  have hb2 : p.length + t + 1 < (LL ++ sp).length := by rw [List.length_append]; omega
  refine zN (Zj (y := w) rfl hb1 hk rfl hfz ?_) zO;refine zi (zU rfl rfl (by omega)) ?_;refine zN (Zj (y := x) rfl (by rw [List.length_set]; exact hb2) hk rfl (by rw [zK, List.length_set, ← zK]; exact hfz) ?_) zO;refine zL (zT (za (z8 (yp (pI rfl) (yp (Zg rfl rfl (by omega)) (yp (pI rfl) (zf (za ?_))))))));have hsw : ((LL ++ sp).set (p.length + t) w).set (p.length + t + 1) x = LL2 ++ sp := by
   have := bK (p ++ Y.take t) [] (Y.drop (t + 1) ++ q ++ sp) x w;rw [hu, List.length_nil, Nat.add_zero] at this;rw [hsh, hsh2];simp at this ⊢;exact this
  rw [hsw, ← hh];exact ⟨t + 1, ⟨⟨rfl, rfl, rfl, trivial⟩, by omega, .of⟩, by omega⟩
 ·obtain rfl : t = i := by omega
  refine Z4 (zF (zF (Z5 (za (zJ (zV ?_))))));have hl2 : (p ++ (Y.take t ++ x :: Y.drop t) ++ q).length = (p ++ x :: Y ++ q).length := by rw [hlt, hNN]
  have hS : SS key (x :: Y) (Y.take t ++ x :: Y.drop t) := by
   have := SS.left (key := key) (x := x) (A := Y.take t) (B := Y.drop t) (by rw [List.take_append_drop]; exact hY) h1 h2
   rwa [List.take_append_drop] at this
  exact zI w9 ⟨_, .of, rfl, Y.take t ++ x :: Y.drop t, _, hS, by simp; omega, Zc.re hz hl2 hNN.symm (by rw [hNN]; exact hc0.symm), rfl⟩
theorem QA {f fr fs k ty : Nat} (hf : Za P f 220 #[] (J6 k fr fs)) (hk : Enc.k α = k) (key : α → Int) {cf : Nat}
 (hc : ∀ a b : α, zP P cf #[.agg (enc a).toArray, .agg (enc b).toArray] [] (fun r S => (∃ z, r = .int .i64 z ∧ (z < 0 ↔ key a < key b)) ∧ S = []))
 {v : Value} {p X q : List α} {y : α} {H : List Chunk} (hL : Zc ty v (p ++ X ++ [y] ++ q) H) (hlen : (p ++ X ++ [y] ++ q).length < 2 ^ 40) (hX : Sorted key X) (hX1 : X.length ≠ 1)
 {a m b : Int} (ha : a = (p.length : Nat)) (hm : m = (p.length + X.length : Nat)) (hb : b = (p.length + X.length + 1 : Nat)) :
 zP P f #[v, .int .i64 a, .int .i64 m, .int .i64 b, .func (.func cf) #[] #[]] [H] (fun r S => r = .tuple #[] ∧ ∃ Z H', SS key (X ++ [y]) Z ∧ Z.length = X.length + 1 ∧ Zc ty v (p ++ Z ++ q) H' ∧ S = [H']) := by
 subst ha hm hb;refine zP.forget (zm hf (Nat.le_of_ble_eq_true rfl) ?_);unfold J6;have hN : (p ++ X ++ [y] ++ q).length = p.length + X.length + 1 + q.length := by simp; omega
 obtain ⟨bb, sp, fz, hz, hv⟩ : ∃ (bb : Nat) (sp : List α) (fz : Nat × Nat), uO fz (cells (p ++ X ++ [y] ++ q ++ sp)).length ∧ v = .slice (some ⟨bb, 0, none⟩) (p ++ X ++ [y] ++ q).length ((p ++ X ++ [y] ++ q).length + sp.length) ∧ H = [(bb, .cells (cells (p ++ X ++ [y] ++ q ++ sp)).toArray ty fz)] := by
  rcases hL.inv with ⟨_, h, _⟩ | ⟨b, sp, fz, hz, h1, h2⟩
  ·simp at h
  ·exact ⟨b, sp, fz, hz, h1, h2⟩
 obtain ⟨rfl, rfl⟩ := hv;generalize hNN : (p ++ X ++ [y] ++ q).length = N at hlen hN;generalize hc0 : N + sp.length = c0;have hy0 : (p ++ X ++ [y] ++ q)[p.length + X.length]? = some y := by rw [List.append_assoc]; exact Kh (by simp)
 have hxt : ∀ t w, X[t]? = some w → (p ++ X ++ [y] ++ q)[p.length + t]? = some w := by
  intro t w h;obtain ⟨ht, _⟩ := List.getElem?_eq_some_iff.1 h;rw [List.append_assoc, List.append_assoc, List.getElem?_append_right (by omega), show p.length + t - p.length = t from by omega, List.getElem?_append_left ht, h]
 refine ze (ze (z8 (yp (pI rfl) (yp (pI rfl) (yp (ZH rfl rfl (by omega)) (yp (Wi rfl rfl) (zf (za ?_))))))));refine zQ rfl (fun h => by omega) (fun _ => ?_);refine zu (za (ze (ze (z8 (yp (pI rfl) (yp (pI rfl) (yp (ZH rfl rfl (by omega)) (yp (Wi rfl rfl) (zf (za ?_))))))))));refine zQ rfl (fun h => ?_) (fun h => by omega);refine ze (z8 (yp (pI rfl) (yp (pI rfl) (zf (za (ze (z8 (yp (pI rfl) (yp (pI rfl) (zf (za (ze (zw ?_)))))))))))));refine Z9 (σ := Nat × Nat) (fun s E S => Has E [(0, .slice (some ⟨bb, 0, none⟩) N c0), (2, .int .i64 (p.length + X.length : Nat)), (4, .func (.func cf) #[] #[]), (14, .int .i64 (p.length + s.1 : Nat)), (15, .int .i64 (p.length + s.2 : Nat))] ∧ s.1 ≤ s.2 ∧ s.2 ≤ X.length ∧ (∀ e ∈ X.take s.1, key e ≤ key y) ∧ (∀ e ∈ X.drop s.2, key y < key e) ∧ zC S [[(bb, .cells (cells (p ++ X ++ [y] ++ q ++ sp)).toArray ty fz)]]) (fun s => s.2 - s.1) (0, X.length) ⟨⟨rfl, rfl, rfl, rfl, rfl, trivial⟩, Nat.zero_le _, Nat.le_refl _, by simp, by simp, .self⟩ fun s E S ⟨hE, hi, hj, h1, h2, hJ⟩ => ?_
 obtain ⟨i, j⟩ := s;simp only at hE hi hj h1 h2;obtain ⟨E0, e0⟩ := zy hE; subst e0; clear hE;refine zq hJ (ze (ze (z8 (yp (pI rfl) (yp (pI rfl) (yp (ZO rfl rfl) (zf (za ?_))))))));refine zQ rfl (fun h => ?_) (fun h => ?_)
 ·have hij : i < j := by omega
  refine zu (za (zw (ze (z8 (yp (pI rfl) (yp (pI rfl) (yp (Zo rfl rfl (by omega)) (yp (KZ rfl (by omega)) (yp (qQ rfl) (yp (dI rfl (by omega)) ?_))))))))));rw [show (p.length + i + (p.length + j)) / 2 = p.length + (i + j) / 2 from by omega];have hh1 : i ≤ (i + j) / 2 := by omega
  have hh2 : (i + j) / 2 < j := by omega
  generalize (i + j) / 2 = g at hh1 hh2;obtain ⟨w, hw⟩ : ∃ w, X[g]? = some w := ⟨_, List.getElem?_eq_getElem (by omega)⟩
  refine yp (pI rfl) (zf (za (ze (zX (zi (pF rfl) (zi (pS rfl) (zi (pI rfl) (zi (zU rfl rfl (by omega)) (Vi (l := enc y) rfl (Zw hy0 hk) (by rw [Enc.len, hk]) (zi (pS rfl) (zi (pI rfl) (zi (zU rfl rfl (by omega)) (Vi (l := enc w) rfl (Zw (hxt g w hw) hk) (by rw [Enc.len, hk]) ?_)))))))))))))
  skip
  refine zN (zk (hc y w) rfl rfl fun v S' h => ?_) zO;obtain ⟨⟨z, rfl, hz2⟩, rfl⟩ := h;refine zi (ZO rfl rfl) (zi (Zi rfl) (zL (za ?_)));by_cases h3 : z < 0
  ·rw [decide_eq_true h3];refine zA rfl (z8 (yp (pI rfl) (yp (pI rfl) (zf (zT (za ?_))))));refine ⟨(i, g), ⟨⟨rfl, rfl, rfl, rfl, rfl, trivial⟩, by simp only; omega, by simp only; omega, h1, ?_, .of⟩, by simp only; omega⟩;intro e he;have h5 := hX.Xv hw e he;have h6 := hz2.1 h3;omega
  ·rw [decide_eq_false h3];refine zH rfl (z8 (yp (pI rfl) (yp (Zg rfl rfl (by omega)) (yp (pI rfl) (zf (zT (za ?_)))))));refine ⟨(g + 1, j), ⟨⟨rfl, rfl, rfl, rfl, rfl, trivial⟩, by simp only; omega, hj, ?_, h2, .of⟩, by simp only; omega⟩;intro e he;have h5 := hX.Xl hw e he;have h6 : ¬ key y < key w := mt hz2.2 h3;omega
 obtain rfl : i = j := by omega
 refine Z4 (zF (zF (Z5 (za (ze (ze (z8 (yp (pI rfl) (yp (pI rfl) (zf (za (zw ?_))))))))))));refine Z9 (σ := Nat) (fun t E S => Has E [(0, .slice (some ⟨bb, 0, none⟩) N c0), (14, .int .i64 (p.length + i : Nat)), (17, .int .i64 (p.length + t : Nat))] ∧ i ≤ t ∧ t ≤ X.length ∧ zC S [[(bb, .cells (cells (p ++ (X.take t ++ y :: X.drop t) ++ q ++ sp)).toArray ty fz)]]) (fun t => t) X.length ⟨⟨rfl, rfl, rfl, trivial⟩, hj, Nat.le_refl _, by simpa using .self⟩ fun t E S ⟨hE, ht, ht2, hJ2⟩ => ?_
 obtain ⟨E0, e0⟩ := zy hE; subst e0; clear hE;refine zq hJ2 (ze (ze (z8 (yp (pI rfl) (yp (pI rfl) (yp (Vs rfl rfl) (zf (za ?_))))))));have hlt : (p ++ (X.take t ++ y :: X.drop t) ++ q).length = N := by rw [hN]; simp; omega
 refine zQ rfl (fun h => ?_) (fun h => ?_)
 ·obtain ⟨u, rfl⟩ : ∃ u, t = u + 1 := ⟨t - 1, by omega⟩
  obtain ⟨w, hw⟩ : ∃ w, X[u]? = some w := ⟨_, List.getElem?_eq_getElem (by omega)⟩
  have hd := YC hw;have hsh : p ++ (X.take (u + 1) ++ y :: X.drop (u + 1)) ++ q = (p ++ X.take u) ++ w :: ([] ++ y :: (X.drop (u + 1) ++ q)) := by rw [Yd hw]; simp
  have hsh2 : p ++ (X.take u ++ y :: X.drop u) ++ q = (p ++ X.take u) ++ y :: ([] ++ w :: (X.drop (u + 1) ++ q)) := by rw [hd]; simp
  have hu : (p ++ X.take u).length = p.length + u := by simp; omega
  have hfz : uO fz (cells (p ++ (X.take (u + 1) ++ y :: X.drop (u + 1)) ++ q ++ sp)).length := by
   rw [zK, List.length_append, hlt, ← hNN, ← List.length_append, ← zK]; exact hz
  generalize p ++ (X.take (u + 1) ++ y :: X.drop (u + 1)) ++ q = LL at *
  generalize hh : p ++ (X.take u ++ y :: X.drop u) ++ q = LL2 at *
  have hx1 : LL[p.length + u]? = some w := by rw [hsh]; exact Kh hu.symm
  have hw1 : LL[p.length + (u + 1)]? = some y := by
   rw [hsh, List.getElem?_append_right (by omega), hu, show p.length + (u + 1) - (p.length + u) = 0 + 1 from by omega]; rfl
  refine zu (za (ze (zw (zX (zi (pS rfl) (zi (pI rfl) (zi (pS rfl) (zi (pI rfl) (zi (wh rfl rfl (by omega)) (zi (pS rfl) (zi (pI rfl) (zi (wh rfl rfl (by omega)) (zi (zU rfl rfl (by omega)) (Vi (l := enc w) rfl (Zw (by rw [show p.length + (u + 1) - 1 = p.length + u from by omega]; exact hx1) hk) (by rw [Enc.len, hk]) (zi (pS rfl) (zi (pI rfl) (zi (zU rfl rfl (by omega)) (Vi (l := enc y) rfl (Zw hw1 hk) (by rw [Enc.len, hk]) (zi (zU rfl rfl (by omega)) ?_)))))))))))))))))));have hb1 : p.length + (u + 1) < (LL ++ sp).length := by rw [List.length_append]; omega
  have hb2 : p.length + (u + 1) - 1 < (LL ++ sp).length := by rw [List.length_append]; omega
  refine zN (Zj (y := w) rfl hb1 hk rfl hfz ?_) zO;refine zi (zU rfl rfl (by omega)) ?_;refine zN (Zj (y := y) rfl (by rw [List.length_set]; exact hb2) hk rfl (by rw [zK, List.length_set, ← zK]; exact hfz) ?_) zO;refine zL (zT (za (z8 (yp (pI rfl) (yp (wh rfl rfl (by omega)) (yp (pI rfl) (zf (za ?_))))))));have hsw : ((LL ++ sp).set (p.length + (u + 1)) w).set (p.length + (u + 1) - 1) y = LL2 ++ sp := by
   have := bK (p ++ X.take u) [] (X.drop (u + 1) ++ q ++ sp) w y;rw [hu, List.length_nil, Nat.add_zero] at this;rw [show p.length + (u + 1) - 1 = p.length + u from by omega, show p.length + (u + 1) = p.length + u + 1 from by omega];rw [hsh, hsh2, List.set_comm _ _ (by omega)];simp at this ⊢;exact this
  rw [hsw, ← hh];exact ⟨u, ⟨⟨rfl, rfl, rfl, trivial⟩, by omega, by omega, .of⟩, by omega⟩
 ·obtain rfl : t = i := by omega
  refine Z4 (zF (zF (Z5 (za (zJ (zV ?_))))));have hl2 : (p ++ (X.take t ++ y :: X.drop t) ++ q).length = (p ++ X ++ [y] ++ q).length := by rw [hlt, hNN]
  have hS : SS key (X ++ [y]) (X.take t ++ y :: X.drop t) := by
   refine SS.insert (D := X) ?_ ?_ h2
   ·rw [List.take_append_drop]; exact hX.SS
   ·intro a ha;exact h1 a (List.mem_of_getLast? ha)
  exact zI w9 ⟨_, .of, rfl, X.take t ++ y :: X.drop t, _, hS, by simp; omega, Zc.re hz hl2 hNN.symm (by rw [hNN]; exact hc0.symm), rfl⟩
end Go.Xs