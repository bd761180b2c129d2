/- slices.SortFunc, once for every type of its elements: the parts that sort small ranges, and heaps. -/
import Derived.Test.YtkdbajfaaifkaaaPdqF
import Derived.Test.YtkdbajfaaifkaaaFrame
namespace Go.Xs
open Enc (enc)
section
variable {P : Program} {r : Option Nat} {n : Nat} {K : Env → Segs → Prop} {E : Env} {S R : Segs} {d : Option Tmp} {α : Type} [Enc α] [Inhabited α]
/-- how an element is loaded, and what value it is -/
structure Ld (ld : Operand → XOp) (vl : α → Value) : Prop where
  q : ∀ {R : Segs} {E : Env} {a : Operand} {b off : Nat} {c : Array Value} {ty : TypeId} {fz : Nat × Nat} {x : α}, ev E a = .pointer (some ⟨b, off, none⟩) → [(b, Obj.cells c ty fz)] ∈ R → (c.toList.drop off).take (Enc.k α) = enc x → QV R E (ld a) (vl x)
  cells : ∀ x, (vl x).cells.toList = enc x
theorem ytld {ld : Operand → XOp} {vl : α → Value} (hl : Ld ld vl) {a : Operand} {b i kk : Nat} {M : List α} {ty : TypeId} {fz : Nat × Nat} {f : Obj → Segs} {t : XTree} [hA : At R b (.cells (cells M).toArray ty fz) f] (ha : ev E a = .pointer (some ⟨b, 0 + i * kk, none⟩)) (hi : i < M.length) (hk : Enc.k α = kk)
    (h : YT P r n R K t (putE d (vl (gt M i)) E) S) : YT P r n R K (.q ⟨d, ld a, none⟩ t) E S := by
  obtain ⟨S1, S2, e, _⟩ := hA.ex
  refine ⟨_, hl.q (c := (cells M).toArray) (ty := ty) (fz := fz) ha (by rw [e]; simp) ?_, h⟩
  subst hk
  rw [Nat.zero_add, gt_eq hi]
  exact cells_elem M i hi
omit [Inhabited α] in
theorem ystoreE2 {b i j kk ty : Nat} {a v : Operand} {M : List α} {x y : α} {fz : Nat × Nat} {f : Obj → Segs} [hA : At S b (.cells (cells (M.set j x)).toArray ty fz) f] (ha : ev E a = .pointer (some ⟨b, 0 + i * kk, none⟩)) (hi : i < M.length) (hk : Enc.k α = kk) (hv : (ev E v).cells.toList = enc y) (hz : FzOk fz (Go.Xs.cells M).length)
    (h : K (putE d undef E) (f (.cells (cells ((M.set j x).set i y)).toArray ty fz))) : YO P r n d (.store kk a v) K E S :=
  ystoreE ha (by simpa using hi) hk hv (by rw [cells_length] at hz ⊢; simpa using hz) h
/-- what a comparison tells -/
structure Cm (P : Program) (cf : Nat) (caps : Array Value) (Hc : List Chunk) (vl : α → Value) (p : α → Prop) (lt : α → α → Prop) : Prop where
  wk : Wk lt
  call : ∀ x y, p x → p y → Tri P cf (vl x :: vl y :: caps.toList).toArray [Hc] (fun r S => (∃ z, r = .int .i64 z ∧ (z < 0 ↔ lt x y)) ∧ S = [Hc])
/-- what is known of the array -/
structure PdM (fz : Nat × Nat) (ln : Nat) (p : α → Prop) (M : List α) : Prop where
  len : ln ≤ M.length
  big : ln < 2 ^ 40
  hz : FzOk fz (cells M).length
  all : ∀ i, 0 ≤ i → i < ln → p (gt M i)
theorem PdM.sw {fz : Nat × Nat} {ln a b : Nat} {p : α → Prop} {M N : List α} (h : PdM fz ln p M) (hs : Sw a b M N) (hb : b ≤ ln) : PdM fz ln p N :=
  ⟨by rw [hs.len]; exact h.len, h.big, by have := h.hz; rw [cells_length] at this ⊢; rw [hs.len]; exact this,
    (hs.mono (Nat.zero_le _) hb h.len).all h.all⟩
end
section
variable {P : Program} {α : Type} [Enc α] [Inhabited α] {ld : Operand → XOp} {k : Nat} {vl : α → Value} {cf : Nat} {caps : Array Value} {Hc : List Chunk} {p : α → Prop} {lt : α → α → Prop}
  {blk ty ln cp : Nat} {fz : Nat × Nat}
abbrev sg (blk ty : Nat) (fz : Nat × Nat) (M : List α) : List Chunk := [(blk, .cells (cells M).toArray ty fz)]

theorem pd_ins {f : Nat} (hf : FnX P f 53 #[] (xpIns ld k)) (hl : Ld ld vl) (hk : Enc.k α = k) (hc : Cm P cf caps Hc vl p lt) {M : List α} (hM : PdM fz ln p M) {a b : Nat} (hab : a ≤ b) (hb : b ≤ ln) :
    Tri P f #[.slice (some ⟨blk, 0, none⟩) ln cp, .int .i64 (a : Int), .int .i64 (b : Int), .func (.func cf) #[] caps] [sg blk ty fz M, Hc] (fun r S => r = .tuple #[] ∧ ∃ M', Sw a b M M' ∧ So lt a b M' ∧ S = [sg blk ty fz M', Hc]) := by
  refine Tri.forget (ycallee hf (Nat.le_of_ble_eq_true rfl) ?_)
  have hlen := hM.len
  have hbig := hM.big
  unfold xpIns
  refine yseq ?_
  refine yregion ?_
  refine yp (pI rfl) ?_
  refine yp (pInc rfl rfl (by omega)) ?_
  refine yp (pI rfl) ?_
  refine ynil ?_
  refine tnorm ?_
  refine yblock ?_
  refine yloop (σ := Nat) (fun i E S => Has E [(0, .slice (some ⟨blk, 0, none⟩) ln cp), (1, .int .i64 (a : Int)), (2, .int .i64 (b : Int)), (3, .func (.func cf) #[] caps), (8, .int .i64 (i : Int))] ∧ a + 1 ≤ i ∧ i ≤ b + 1 ∧ ∃ N, Sw a b M N ∧ So lt a i N ∧ Junk S [sg blk ty fz N, Hc]) (fun i => b + 1 - i) (a + 1) ⟨⟨rfl, rfl, rfl, rfl, rfl, trivial⟩, by omega, by omega, M, .refl, fun i j h1 h2 h3 => by omega, .self⟩ fun i E S ⟨hE, hi, hi2, N, hsw, hso, hJ⟩ => ?_
  obtain ⟨E0, e0⟩ := has_puts hE; subst e0; clear hE
  refine yforget hJ ?_
  refine yseq ?_
  refine yseq ?_
  refine yregion ?_
  refine yp (pI rfl) ?_
  refine yp (pI rfl) ?_
  refine yp (pLt rfl rfl) ?_
  refine ynil ?_
  refine tnorm ?_
  refine ycondD rfl (fun h => ?_) (fun h => ?_)
  · refine yskip ?_
    refine tnorm ?_
    refine yseq ?_
    refine yblock ?_
    refine yseq ?_
    refine yregion ?_
    refine yp (pI rfl) ?_
    refine yp (pI rfl) ?_
    refine ynil ?_
    refine tnorm ?_
    refine yblock ?_
    refine yloop (σ := Nat) (fun j E S => Has E [(0, .slice (some ⟨blk, 0, none⟩) ln cp), (1, .int .i64 (a : Int)), (2, .int .i64 (b : Int)), (3, .func (.func cf) #[] caps), (8, .int .i64 (i : Int)), (9, .int .i64 (j : Int))] ∧ a ≤ j ∧ j ≤ i ∧ ∃ N, Sw a b M N ∧ So1 lt a (i + 1) j N ∧ Junk S [sg blk ty fz N, Hc]) (fun j => j) i ⟨⟨rfl, rfl, rfl, rfl, rfl, rfl, trivial⟩, by omega, by omega, N, hsw, So1.start hso, .self⟩ fun j E S ⟨hE, hj, hj2, N, hsw, hso, hJ⟩ => ?_
    have hNl := hsw.len
    have hN := hM.sw hsw hb
    have hz := hN.hz
    obtain ⟨E0, e0⟩ := has_puts hE; subst e0; clear hE
    refine yforget hJ ?_
    refine yseq ?_
    refine yseq ?_
    refine ydraw ?_
    refine ytq (pI rfl) ?_
    refine ytq (pI rfl) ?_
    refine ytq (pGt rfl rfl) ?_
    refine ytq (pB rfl) ?_
    by_cases h0 : a < j
    · rw [decide_eq_true (show (a : Int) < (j : Int) from by omega)]
      refine ytgT rfl ?_
      refine ytq (pF rfl) ?_
      refine ytgT rfl ?_
      refine ytq (pS rfl) ?_
      refine ytgT rfl ?_
      refine ytq (pI rfl) ?_
      refine ytgT rfl ?_
      refine ytq (pIxN rfl rfl (by omega)) ?_
      refine ytgT rfl ?_
      refine ytld hl rfl (by omega) hk ?_
      refine ytgT rfl ?_
      refine ytq (pS rfl) ?_
      refine ytgT rfl ?_
      refine ytq (pI rfl) ?_
      refine ytgT rfl ?_
      refine ytq (pDec rfl rfl (by omega)) ?_
      refine ytgT rfl ?_
      refine ytq (pIxN rfl rfl (by omega)) ?_
      refine ytgT rfl ?_
      refine ytld hl rfl (by omega) hk ?_
      refine ytaltT rfl ?_ ytno
      refine ytalt (ycall (hc.call (gt N j) (gt N (j - 1)) (hN.all _ (Nat.zero_le _) (by omega)) (hN.all _ (Nat.zero_le _) (by omega))) rfl rfl fun r S' h => ?_) ytno
      obtain ⟨⟨z, rfl, hzz⟩, rfl⟩ := h
      refine ytgT rfl ?_
      refine ytq (pLt rfl rfl) ?_
      refine ytq (pPickT rfl rfl) ?_
      refine ytdone ?_
      refine tnorm ?_
      refine ycondD rfl (fun h2 => ?_) (fun h2 => ?_)
      · refine yskip ?_
        refine tnorm ?_
        refine yseq ?_
        refine yblock ?_
        refine ydraw ?_
        refine ytq (pS rfl) ?_
        refine ytq (pI rfl) ?_
        refine ytq (pS rfl) ?_
        refine ytq (pI rfl) ?_
        refine ytq (pDec rfl rfl (by omega)) ?_
        refine ytq (pS rfl) ?_
        refine ytq (pI rfl) ?_
        refine ytq (pDec rfl rfl (by omega)) ?_
        refine ytq (pIxN rfl rfl (by omega)) ?_
        refine ytld hl rfl (by omega) hk ?_
        refine ytq (pS rfl) ?_
        refine ytq (pI rfl) ?_
        refine ytq (pIxN rfl rfl (by omega)) ?_
        refine ytld hl rfl (by omega) hk ?_
        refine ytq (pIxN rfl rfl (by omega)) ?_
        refine ytalt (ystoreE rfl (by omega) hk (hl.cells _) hz ?_) ytno
        refine ytq (pIxN rfl rfl (by omega)) ?_
        refine ytalt (ystoreE2 rfl (by omega) hk (hl.cells _) hz ?_) ytno
        refine ytdone ?_
        refine bnorm ?_
        refine tnorm ?_
        refine yregion ?_
        refine yp (pI rfl) ?_
        refine yp (pDec rfl rfl (by omega)) ?_
        refine yp (pI rfl) ?_
        refine ynil ?_
        refine tnorm ?_
        exact ⟨j - 1, ⟨⟨rfl, rfl, rfl, rfl, rfl, rfl, trivial⟩, by omega, by omega, _, hsw.step (by omega) (by omega) (by omega) (by omega) (by omega), hso.step hc.wk h0 (by omega) (by omega) (hzz.1 h2), .of⟩, by omega⟩
      · refine yexit ?_
        refine texit ?_
        refine texit ?_
        refine bexit ?_
        refine bnorm ?_
        refine tnorm ?_
        refine yregion ?_
        refine yp (pI rfl) ?_
        refine yp (pInc rfl rfl (by omega)) ?_
        refine yp (pI rfl) ?_
        refine ynil ?_
        refine tnorm ?_
        exact ⟨i + 1, ⟨⟨rfl, rfl, rfl, rfl, rfl, trivial⟩, by omega, by omega, N, hsw, hso.stop hc.wk hj (.inr fun h => h2 (hzz.2 h)), .of⟩, by omega⟩
    · rw [decide_eq_false (show ¬ (a : Int) < (j : Int) from by omega)]
      refine ytgF rfl ?_
      refine ytgF rfl ?_
      refine ytgF rfl ?_
      refine ytgF rfl ?_
      refine ytgF rfl ?_
      refine ytgF rfl ?_
      refine ytgF rfl ?_
      refine ytgF rfl ?_
      refine ytgF rfl ?_
      refine ytgF rfl ?_
      refine ytaltF rfl ?_ ytno
      refine ytgF rfl ?_
      refine ytq (pPickF rfl rfl) ?_
      refine ytdone ?_
      refine tnorm ?_
      refine ycondF rfl ?_
      refine yexit ?_
      refine texit ?_
      refine texit ?_
      refine bexit ?_
      refine bnorm ?_
      refine tnorm ?_
      refine yregion ?_
      refine yp (pI rfl) ?_
      refine yp (pInc rfl rfl (by omega)) ?_
      refine yp (pI rfl) ?_
      refine ynil ?_
      refine tnorm ?_
      exact ⟨i + 1, ⟨⟨rfl, rfl, rfl, rfl, rfl, trivial⟩, by omega, by omega, N, hsw, hso.stop hc.wk hj (.inl (by omega)), .of⟩, by omega⟩
  · refine yexit ?_
    refine texit ?_
    refine texit ?_
    refine bexit ?_
    exact yfinN res0 ⟨_, .of, rfl, N, hsw, fun x y h1 h2 h3 => hso x y h1 h2 (by omega), rfl⟩

theorem pd_sift {f : Nat} (hf : FnX P f 82 #[] (xpSift ld k)) (hl : Ld ld vl) (hk : Enc.k α = k) (hc : Cm P cf caps Hc vl p lt) {M : List α} (hM : PdM fz ln p M) {lo hi first : Nat} (hlo : lo ≤ hi) (hb : first + hi ≤ ln) (hH : Hp lt first (lo + 1) hi M) :
    Tri P f #[.slice (some ⟨blk, 0, none⟩) ln cp, .int .i64 (lo : Int), .int .i64 (hi : Int), .int .i64 (first : Int), .func (.func cf) #[] caps] [sg blk ty fz M, Hc] (fun r S => r = .tuple #[] ∧ ∃ M', Sw (first + lo) (first + hi) M M' ∧ Hp lt first lo hi M' ∧ S = [sg blk ty fz M', Hc]) := by
  refine Tri.forget (ycallee hf (Nat.le_of_ble_eq_true rfl) ?_)
  have hlen := hM.len
  have hbig := hM.big
  unfold xpSift
  refine yseq ?_
  refine yregion ?_
  refine yp (pI rfl) ?_
  refine yp (pI rfl) ?_
  refine ynil ?_
  refine tnorm ?_
  refine yblock ?_
  refine yloop (σ := Nat) (fun q E S => Has E [(0, .slice (some ⟨blk, 0, none⟩) ln cp), (2, .int .i64 (hi : Int)), (3, .int .i64 (first : Int)), (4, .func (.func cf) #[] caps), (10, .int .i64 (q : Int))] ∧ lo ≤ q ∧ q ≤ hi ∧ ∃ N, Sw (first + lo) (first + hi) M N ∧ Hp1 lt first lo hi q N ∧ Junk S [sg blk ty fz N, Hc]) (fun q => hi - q) lo ⟨⟨rfl, rfl, rfl, rfl, rfl, trivial⟩, by omega, by omega, M, .refl, Hp1.start hH, .self⟩ fun q E S ⟨hE, hq, hq2, N, hsw, hhp, hJ⟩ => ?_
  have hNl := hsw.len
  have hN := hM.sw hsw hb
  have hz := hN.hz
  obtain ⟨E0, e0⟩ := has_puts hE; subst e0; clear hE
  refine yforget hJ ?_
  refine yblock ?_
  refine yseq ?_
  refine yregion ?_
  refine yp (pI rfl) ?_
  refine yp (pMulN (j := 2) rfl rfl (by omega)) ?_
  refine yp (pInc rfl rfl (by omega)) ?_
  refine yp (pI rfl) ?_
  refine ynil ?_
  refine tnorm ?_
  refine yseq ?_
  refine yseq ?_
  refine yregion ?_
  refine yp (pI rfl) ?_
  refine yp (pI rfl) ?_
  refine yp (pGe rfl rfl) ?_
  refine ynil ?_
  refine tnorm ?_
  refine ycondD rfl (fun h => ?_) (fun h => ?_)
  · refine yexit ?_
    refine texit ?_
    refine bexitN rfl ?_
    refine texit ?_
    refine bexit ?_
    exact yfinN res0 ⟨_, .of, rfl, N, hsw, hhp.stop fun c h1 h2 => by omega, rfl⟩
  refine yskip ?_
  refine tnorm ?_
  refine ycut (fun E S => ∃ c : Nat, Has E [(0, .slice (some ⟨blk, 0, none⟩) ln cp), (2, .int .i64 (hi : Int)), (3, .int .i64 (first : Int)), (4, .func (.func cf) #[] caps), (10, .int .i64 (q : Int)), (11, .int .i64 (c : Int))] ∧ (c = 2 * q + 1 ∨ c = 2 * q + 2) ∧ c < hi ∧ (∀ c', (c' = 2 * q + 1 ∨ c' = 2 * q + 2) → c' < hi → ¬ lt (gt N (first + c)) (gt N (first + c'))) ∧ Junk S [sg blk ty fz N, Hc]) ?_ fun E S ⟨c, hE, hcc, hch, hmax, hJ⟩ => ?_
  · refine yseq ?_
    refine ydraw ?_
    refine ytq (pI rfl) ?_
    refine ytq (pInc rfl rfl (by omega)) ?_
    refine ytq (pI rfl) ?_
    refine ytq (pLt rfl rfl) ?_
    refine ytq (pB rfl) ?_
    by_cases h2 : 2 * q + 2 < hi
    · rw [decide_eq_true (show ((2 * q + 1 + 1 : Nat) : Int) < (hi : Int) from by omega)]
      refine ytgT rfl ?_
      refine ytq (pF rfl) ?_
      refine ytgT rfl ?_
      refine ytq (pS rfl) ?_
      refine ytgT rfl ?_
      refine ytq (pI rfl) ?_
      refine ytgT rfl ?_
      refine ytq (pI rfl) ?_
      refine ytgT rfl ?_
      refine ytq (pAddN rfl rfl (by omega)) ?_
      refine ytgT rfl ?_
      refine ytq (pIxN rfl rfl (by omega)) ?_
      refine ytgT rfl ?_
      refine ytld hl rfl (by omega) hk ?_
      refine ytgT rfl ?_
      refine ytq (pS rfl) ?_
      refine ytgT rfl ?_
      refine ytq (pI rfl) ?_
      refine ytgT rfl ?_
      refine ytq (pI rfl) ?_
      refine ytgT rfl ?_
      refine ytq (pAddN rfl rfl (by omega)) ?_
      refine ytgT rfl ?_
      refine ytq (pInc rfl rfl (by omega)) ?_
      refine ytgT rfl ?_
      refine ytq (pIxN rfl rfl (by omega)) ?_
      refine ytgT rfl ?_
      refine ytld hl rfl (by omega) hk ?_
      refine ytaltT rfl ?_ ytno
      refine ytalt (ycall (hc.call _ _ (hN.all (first + (2 * q + 1)) (Nat.zero_le _) (by omega)) (hN.all (first + (2 * q + 1) + 1) (Nat.zero_le _) (by omega))) rfl rfl fun r S' h => ?_) ytno
      obtain ⟨⟨z, rfl, hzz⟩, rfl⟩ := h
      refine ytgT rfl ?_
      refine ytq (pLt rfl rfl) ?_
      refine ytq (pPickT rfl rfl) ?_
      refine ytdone ?_
      refine tnorm ?_
      refine ycondD rfl (fun h3 => ?_) (fun h3 => ?_)
      · refine yregion ?_
        refine yp (pI rfl) ?_
        refine yp (pInc rfl rfl (by omega)) ?_
        refine yp (pI rfl) ?_
        refine ynil ?_
        refine tnorm ?_
        refine ⟨2 * q + 2, ⟨rfl, rfl, rfl, rfl, rfl, rfl, trivial⟩, by omega, by omega, fun c' h4 h5 => ?_, .of⟩
        rcases h4 with rfl | rfl
        · exact hc.wk.asymm _ _ (hzz.1 h3)
        · exact hc.wk.irr _
      · refine yskip ?_
        refine tnorm ?_
        refine ⟨2 * q + 1, ⟨rfl, rfl, rfl, rfl, rfl, rfl, trivial⟩, by omega, by omega, fun c' h4 h5 => ?_, .of⟩
        rcases h4 with rfl | rfl
        · exact hc.wk.irr _
        · exact fun h => h3 (hzz.2 h)
    · rw [decide_eq_false (show ¬ ((2 * q + 1 + 1 : Nat) : Int) < (hi : Int) from by omega)]
      refine ytgF rfl ?_
      refine ytgF rfl ?_
      refine ytgF rfl ?_
      refine ytgF rfl ?_
      refine ytgF rfl ?_
      refine ytgF rfl ?_
      refine ytgF rfl ?_
      refine ytgF rfl ?_
      refine ytgF rfl ?_
      refine ytgF rfl ?_
      refine ytgF rfl ?_
      refine ytgF rfl ?_
      refine ytgF rfl ?_
      refine ytgF rfl ?_
      refine ytaltF rfl ?_ ytno
      refine ytgF rfl ?_
      refine ytq (pPickF rfl rfl) ?_
      refine ytdone ?_
      refine tnorm ?_
      refine ycondF rfl ?_
      refine yskip ?_
      refine tnorm ?_
      refine ⟨2 * q + 1, ⟨rfl, rfl, rfl, rfl, rfl, rfl, trivial⟩, by omega, by omega, fun c' h4 h5 => ?_, .of⟩
      have : c' = 2 * q + 1 := by omega
      rw [this]
      exact hc.wk.irr _
  obtain ⟨E0, e0⟩ := has_puts hE; subst e0; clear hE
  refine yforget hJ ?_
  refine yseq ?_
  refine yseq ?_
  refine ydraw ?_
  refine ytq (pF rfl) ?_
  refine ytq (pS rfl) ?_
  refine ytq (pI rfl) ?_
  refine ytq (pI rfl) ?_
  refine ytq (pAddN rfl rfl (by omega)) ?_
  refine ytq (pIxN rfl rfl (by omega)) ?_
  refine ytld hl rfl (by omega) hk ?_
  refine ytq (pS rfl) ?_
  refine ytq (pI rfl) ?_
  refine ytq (pI rfl) ?_
  refine ytq (pAddN rfl rfl (by omega)) ?_
  refine ytq (pIxN rfl rfl (by omega)) ?_
  refine ytld hl rfl (by omega) hk ?_
  refine ytalt (ycall (hc.call _ _ (hN.all (first + q) (Nat.zero_le _) (by omega)) (hN.all (first + c) (Nat.zero_le _) (by omega))) rfl rfl fun r S' h => ?_) ytno
  obtain ⟨⟨z, rfl, hzz⟩, rfl⟩ := h
  refine ytq (pLt rfl rfl) ?_
  refine ytq (pNot rfl) ?_
  refine ytdone ?_
  refine tnorm ?_
  refine ycondN rfl (fun h3 => ?_) (fun h3 => ?_)
  · refine yret ?_
    refine tret ?_
    refine bret ?_
    refine tret ?_
    refine bret ?_
    exact yfin res0 ⟨_, .of, rfl, N, hsw, hhp.stop fun c' h4 h5 => hc.wk.tr _ _ _ (fun h => h3 (hzz.2 h)) (hmax c' h4 h5), rfl⟩
  · refine yskip ?_
    refine tnorm ?_
    refine yseq ?_
    refine ydraw ?_
    refine ytq (pS rfl) ?_
    refine ytq (pI rfl) ?_
    refine ytq (pI rfl) ?_
    refine ytq (pAddN rfl rfl (by omega)) ?_
    refine ytq (pS rfl) ?_
    refine ytq (pI rfl) ?_
    refine ytq (pI rfl) ?_
    refine ytq (pAddN rfl rfl (by omega)) ?_
    refine ytq (pS rfl) ?_
    refine ytq (pI rfl) ?_
    refine ytq (pI rfl) ?_
    refine ytq (pAddN rfl rfl (by omega)) ?_
    refine ytq (pIxN rfl rfl (by omega)) ?_
    refine ytld hl rfl (by omega) hk ?_
    refine ytq (pS rfl) ?_
    refine ytq (pI rfl) ?_
    refine ytq (pI rfl) ?_
    refine ytq (pAddN rfl rfl (by omega)) ?_
    refine ytq (pIxN rfl rfl (by omega)) ?_
    refine ytld hl rfl (by omega) hk ?_
    refine ytq (pIxN rfl rfl (by omega)) ?_
    refine ytalt (ystoreE rfl (by omega) hk (hl.cells _) hz ?_) ytno
    refine ytq (pIxN rfl rfl (by omega)) ?_
    refine ytalt (ystoreE2 rfl (by omega) hk (hl.cells _) hz ?_) ytno
    refine ytdone ?_
    refine tnorm ?_
    refine yregion ?_
    refine yp (pI rfl) ?_
    refine yp (pI rfl) ?_
    refine ynil ?_
    refine bnorm ?_
    refine tnorm ?_
    exact ⟨c, ⟨⟨rfl, rfl, rfl, rfl, rfl, trivial⟩, by omega, by omega, _, hsw.step (by omega) (by omega) (by omega) (by omega) (by omega), hhp.step hc.wk hq hcc hch (by omega) hmax (hzz.1 h3), .of⟩, by omega⟩

theorem pd_heap {f fs : Nat} (hf : FnX P f 60 #[] (xpHeap ld k fs)) (hs : FnX P fs 82 #[] (xpSift ld k)) (hl : Ld ld vl) (hk : Enc.k α = k) (hc : Cm P cf caps Hc vl p lt) {M : List α} (hM : PdM fz ln p M) {a b : Nat} (hab : a + 2 ≤ b) (hb : b ≤ ln) :
    Tri P f #[.slice (some ⟨blk, 0, none⟩) ln cp, .int .i64 (a : Int), .int .i64 (b : Int), .func (.func cf) #[] caps] [sg blk ty fz M, Hc] (fun r S => r = .tuple #[] ∧ ∃ M', Sw a b M M' ∧ So lt a b M' ∧ S = [sg blk ty fz M', Hc]) := by
  obtain ⟨hi, rfl⟩ : ∃ hi, b = a + hi := ⟨b - a, by omega⟩
  refine Tri.forget (ycallee hf (Nat.le_of_ble_eq_true rfl) ?_)
  have hlen := hM.len
  have hbig := hM.big
  unfold xpHeap
  refine yseq ?_
  refine yregion ?_
  refine yp (pI rfl) ?_
  refine yp (pI rfl) ?_
  refine ynil ?_
  refine tnorm ?_
  refine yseq ?_
  refine yregion ?_
  refine yp pC ?_
  refine ynil ?_
  refine tnorm ?_
  refine yseq ?_
  refine yregion ?_
  refine yp (pI rfl) ?_
  refine yp (pI rfl) ?_
  refine yp (pSub rfl rfl (by omega)) ?_
  refine yp (pI rfl) ?_
  refine ynil ?_
  refine tnorm ?_
  refine yseq ?_
  refine yseq ?_
  refine yregion ?_
  refine yp (pI rfl) ?_
  refine yp (pSub rfl rfl (by omega)) ?_
  rw [show ((a + hi : Nat) : Int) - (a : Int) = (hi : Int) from by omega, show (hi : Int) - 1 = ((hi - 1 : Nat) : Int) from by omega]
  skip
  refine yp (pQuoN (j := hi - 1) (k := 2) rfl rfl (by omega) (by omega)) ?_
  refine yp (pI rfl) ?_
  refine ynil ?_
  refine tnorm ?_
  refine yblock ?_
  refine yloop (σ := Nat) (fun i E S => Has E [(0, .slice (some ⟨blk, 0, none⟩) ln cp), (3, .func (.func cf) #[] caps), (8, .int .i64 (a : Int)), (9, .int .i64 0), (10, .int .i64 (hi : Int)), (11, .int .i64 ((i : Int) - 1))] ∧ i ≤ (hi - 1) / 2 + 1 ∧ ∃ N, Sw a (a + hi) M N ∧ Hp lt a i hi N ∧ Junk S [sg blk ty fz N, Hc]) (fun i => i) ((hi - 1) / 2 + 1) ⟨⟨rfl, rfl, rfl, rfl, rfl, ?_, trivial⟩, by omega, M, .refl, fun q c h1 h2 h3 => by omega, .of⟩ fun i E S ⟨hE, hi2, N, hsw, hhp, hJ⟩ => ?_
  · show Value.int .i64 (((hi - 1) / 2 : Nat) : Int) = _
    congr 1; omega
  have hNl := hsw.len
  have hN := hM.sw hsw hb
  obtain ⟨E0, e0⟩ := has_puts hE; subst e0; clear hE
  refine yforget hJ ?_
  refine yseq ?_
  refine yseq ?_
  refine yregion ?_
  refine yp (pI rfl) ?_
  refine yp (pGe rfl rfl) ?_
  refine ynil ?_
  refine tnorm ?_
  refine ycondD rfl (fun h => ?_) (fun h => ?_)
  · obtain ⟨j, rfl⟩ : ∃ j, i = j + 1 := ⟨i - 1, by omega⟩
    rw [show ((j + 1 : Nat) : Int) - 1 = (j : Int) from by omega]
    refine yskip ?_
    refine tnorm ?_
    refine yseq ?_
    refine yblock ?_
    refine yregion ?_
    refine yp (pS rfl) ?_
    refine yp (pI rfl) ?_
    refine yp (pI rfl) ?_
    refine yp (pI rfl) ?_
    refine yp (pF rfl) ?_
    refine ycons (ycall (pd_sift (blk := blk) (ty := ty) (cp := cp) hs hl hk hc hN (lo := j) (hi := hi) (first := a) (by omega) hb hhp) rfl rfl fun r S' h => ?_)
    obtain ⟨rfl, N2, hs2, hh2, rfl⟩ := h
    refine ynil ?_
    refine bnorm ?_
    refine tnorm ?_
    refine yregion ?_
    refine yp (pI rfl) ?_
    refine yp (pSub rfl rfl (by omega)) ?_
    refine yp (pI rfl) ?_
    refine ynil ?_
    refine tnorm ?_
    exact ⟨j, ⟨⟨rfl, rfl, rfl, rfl, rfl, rfl, trivial⟩, by omega, N2, hsw.trans (hs2.mono (by omega) (by omega) (by omega)), hh2, .of⟩, by omega⟩
  have h0 : i = 0 := by omega
  subst h0
  refine yexit ?_
  refine texit ?_
  refine texit ?_
  refine bexit ?_
  refine tnorm ?_
  refine yseq ?_
  refine yregion ?_
  refine yp (pI rfl) ?_
  refine yp (pDec rfl rfl (by omega)) ?_
  refine yp (pI rfl) ?_
  refine ynil ?_
  refine tnorm ?_
  refine yblock ?_
  refine yloop (σ := Nat) (fun i E S => Has E [(0, .slice (some ⟨blk, 0, none⟩) ln cp), (3, .func (.func cf) #[] caps), (8, .int .i64 (a : Int)), (9, .int .i64 0), (10, .int .i64 (hi : Int)), (12, .int .i64 ((i : Int) - 1))] ∧ i ≤ hi ∧ ∃ N, Sw a (a + hi) M N ∧ Pops lt a hi i N ∧ Junk S [sg blk ty fz N, Hc]) (fun i => i) hi ⟨⟨rfl, rfl, rfl, rfl, rfl, ?_, trivial⟩, by omega, N, hsw, ⟨hhp, fun k l h1 h2 h3 => by omega⟩, .of⟩ fun i E S ⟨hE, hi2, N, hsw, hpo, hJ⟩ => ?_
  · show Value.int .i64 ((hi - 1 : Nat) : Int) = _
    congr 1; omega
  have hNl := hsw.len
  have hN := hM.sw hsw hb
  have hz := hN.hz
  obtain ⟨E0, e0⟩ := has_puts hE; subst e0; clear hE
  refine yforget hJ ?_
  refine yseq ?_
  refine yseq ?_
  refine yregion ?_
  refine yp (pI rfl) ?_
  refine yp (pGe rfl rfl) ?_
  refine ynil ?_
  refine tnorm ?_
  refine ycondD rfl (fun h => ?_) (fun h => ?_)
  · obtain ⟨j, rfl⟩ : ∃ j, i = j + 1 := ⟨i - 1, by omega⟩
    rw [show ((j + 1 : Nat) : Int) - 1 = (j : Int) from by omega]
    refine yskip ?_
    refine tnorm ?_
    refine yseq ?_
    refine yblock ?_
    refine yseq ?_
    refine ydraw ?_
    refine ytq (pS rfl) ?_
    refine ytq (pI rfl) ?_
    refine ytq (pS rfl) ?_
    refine ytq (pI rfl) ?_
    refine ytq (pI rfl) ?_
    refine ytq (pAddN rfl rfl (by omega)) ?_
    refine ytq (pS rfl) ?_
    refine ytq (pI rfl) ?_
    refine ytq (pI rfl) ?_
    refine ytq (pAddN rfl rfl (by omega)) ?_
    refine ytq (pIxN rfl rfl (by omega)) ?_
    refine ytld hl rfl (by omega) hk ?_
    refine ytq (pS rfl) ?_
    refine ytq (pI rfl) ?_
    refine ytq (pIxN rfl rfl (by omega)) ?_
    refine ytld hl rfl (by omega) hk ?_
    refine ytq (pIxN rfl rfl (by omega)) ?_
    refine ytalt (ystoreE rfl (by omega) hk (hl.cells _) hz ?_) ytno
    refine ytq (pIxN rfl rfl (by omega)) ?_
    refine ytalt (ystoreE2 rfl (by omega) hk (hl.cells _) hz ?_) ytno
    refine ytdone ?_
    refine tnorm ?_
    refine yregion ?_
    refine yp (pS rfl) ?_
    refine yp (pI rfl) ?_
    refine yp (pI rfl) ?_
    refine yp (pI rfl) ?_
    refine yp (pF rfl) ?_
    have hsw2 : Sw a (a + hi) M (swp N a (a + j)) := hsw.step (by omega) (by omega) (by omega) (by omega) (by omega)
    have hup : Hp lt a 1 j (swp N a (a + j)) := fun q c h1 h2 h3 => by
      rw [gt_swp (by omega) (by omega), gt_swp (by omega) (by omega), if_neg (by omega), if_neg (by omega), if_neg (by omega), if_neg (by omega)]
      exact hpo.heap q c (by omega) h2 (by omega)
    refine ycons (ycall (pd_sift (blk := blk) (ty := ty) (cp := cp) hs hl hk hc (hM.sw hsw2 hb) (lo := 0) (hi := j) (first := a) (by omega) (by omega) hup) rfl rfl fun r S' h => ?_)
    obtain ⟨rfl, N2, hs2, hh2, rfl⟩ := h
    refine ynil ?_
    refine bnorm ?_
    refine tnorm ?_
    refine yregion ?_
    refine yp (pI rfl) ?_
    refine yp (pSub rfl rfl (by omega)) ?_
    refine yp (pI rfl) ?_
    refine ynil ?_
    refine tnorm ?_
    exact ⟨j, ⟨⟨rfl, rfl, rfl, rfl, rfl, rfl, trivial⟩, by omega, N2, hsw2.trans (hs2.mono (by omega) (by omega) (by simp; omega)), hpo.step hc.wk (by omega) (by omega) hs2 hh2, .of⟩, by omega⟩
  · have h0 : i = 0 := by omega
    subst h0
    refine yexit ?_
    refine texit ?_
    refine texit ?_
    refine bexit ?_
    exact yfinN res0 ⟨_, .of, rfl, N, hsw, hpo.done, rfl⟩
/-! partitions -/
set_option maxHeartbeats 1000000 in
theorem pd_prt {f : Nat} (hf : FnX P f 178 #[.tmp 10, .tmp 11] (xpPrt ld k)) (hl : Ld ld vl) (hk : Enc.k α = k) (hc : Cm P cf caps Hc vl p lt) {M : List α} (hM : PdM fz ln p M) {a b pv : Nat} (hab : a ≤ pv) (hpb : pv < b) (hb : b ≤ ln) :
    Tri P f #[.slice (some ⟨blk, 0, none⟩) ln cp, .int .i64 (a : Int), .int .i64 (b : Int), .int .i64 (pv : Int), .func (.func cf) #[] caps] [sg blk ty fz M, Hc] (fun r S => ∃ (mid : Nat) (bl : Bool) (M' : List α), r = .tuple #[.int .i64 (mid : Int), .bool bl] ∧ Sw a b M M' ∧ Parted lt a b mid M' ∧ S = [sg blk ty fz M', Hc]) := by
  refine Tri.forget (ycallee hf (Nat.le_of_ble_eq_true rfl) ?_)
  have hlen := hM.len
  have hbig := hM.big
  have hz := hM.hz
  unfold xpPrt
  refine yseq ?_
  refine yregion ?_
  refine yp pC ?_
  refine yp pC ?_
  refine ynil ?_
  refine tnorm ?_
  refine yseq ?_
  refine ydraw ?_
  refine ytq (pS rfl) ?_
  refine ytq (pI rfl) ?_
  refine ytq (pS rfl) ?_
  refine ytq (pI rfl) ?_
  refine ytq (pS rfl) ?_
  refine ytq (pI rfl) ?_
  refine ytq (pIxN rfl rfl (by omega)) ?_
  refine ytld hl rfl (by omega) hk ?_
  refine ytq (pS rfl) ?_
  refine ytq (pI rfl) ?_
  refine ytq (pIxN rfl rfl (by omega)) ?_
  refine ytld hl rfl (by omega) hk ?_
  refine ytq (pIxN rfl rfl (by omega)) ?_
  refine ytalt (ystoreE rfl (by omega) hk (hl.cells _) hz ?_) ytno
  refine ytq (pIxN rfl rfl (by omega)) ?_
  refine ytalt (ystoreE2 rfl (by omega) hk (hl.cells _) hz ?_) ytno
  refine ytdone ?_
  refine tnorm ?_
  refine yseq ?_
  refine yregion ?_
  refine yp (pI rfl) ?_
  refine yp (pInc rfl rfl (by omega)) ?_
  refine yp (pI rfl) ?_
  refine yp (pDec rfl rfl (by omega)) ?_
  refine yp (pI rfl) ?_
  refine yp (pI rfl) ?_
  refine ynil ?_
  refine tnorm ?_
  have hsw : Sw a b M (swp M a pv) := Sw.refl.step (by omega) (by omega) (by omega) (by omega) (by omega)
  have hN := hM.sw hsw hb
  have hNl := hsw.len
  have hpi : PI lt a b (a + 1) (b - 1) (swp M a pv) := PI.start (by omega)
  obtain ⟨N, hN1⟩ : ∃ N, N = swp M a pv := ⟨_, rfl⟩
  have eN : (M.set a (gt M pv)).set pv (gt M a) = N := hN1.symm
  rw [← hN1] at hsw hN hNl hpi
  rw [eN]
  clear eN hN1
  generalize a + 1 = i at hpi ⊢
  generalize b - 1 = j at hpi ⊢
  have hz := hN.hz
  obtain ⟨m, hm⟩ : ∃ m, j + 1 - i ≤ m := ⟨_, Nat.le_refl _⟩
  refine ycut (fun E S => ∃ i : Nat, Has E [(0, .slice (some ⟨blk, 0, none⟩) ln cp), (1, .int .i64 (a : Int)), (4, .func (.func cf) #[] caps), (12, .int .i64 (i : Int)), (13, .int .i64 (j : Int))] ∧ PI lt a b i j N ∧ j + 1 - i ≤ m ∧ (i ≤ j → ¬ lt (gt N i) (gt N a)) ∧ Junk S [sg blk ty fz N, Hc]) ?_ fun E S ⟨i, hE, hpi, hm, h1, hJ⟩ => ?_
  · refine yblock ?_
    refine yloop (σ := Nat) (fun i E S => Has E [(0, .slice (some ⟨blk, 0, none⟩) ln cp), (1, .int .i64 (a : Int)), (4, .func (.func cf) #[] caps), (12, .int .i64 (i : Int)), (13, .int .i64 (j : Int))] ∧ PI lt a b i j N ∧ j + 1 - i ≤ m ∧ Junk S [sg blk ty fz N, Hc]) (fun i => j + 1 - i) i ⟨⟨rfl, rfl, rfl, rfl, rfl, trivial⟩, hpi, hm, .of⟩ fun i E S ⟨hE, hpi, hm, hJ⟩ => ?_
    have hjb := hpi.jb; have hij := hpi.ij; have hai := hpi.ai
    obtain ⟨E0, e0⟩ := has_puts hE; subst e0; clear hE
    refine yforget hJ ?_
    refine yseq ?_
    refine yseq ?_
    refine ydraw ?_
    refine ytq (pI rfl) ?_
    refine ytq (pI rfl) ?_
    refine ytq (pLe rfl rfl) ?_
    refine ytq (pB rfl) ?_
    by_cases h0 : i ≤ j
    · rw [decide_eq_true (show (i : Int) ≤ (j : Int) from by omega)]
      refine ytgT rfl ?_
      refine ytq (pF rfl) ?_
      refine ytgT rfl ?_
      refine ytq (pS rfl) ?_
      refine ytgT rfl ?_
      refine ytq (pI rfl) ?_
      refine ytgT rfl ?_
      refine ytq (pIxN rfl rfl (by omega)) ?_
      refine ytgT rfl ?_
      refine ytld hl rfl (by omega) hk ?_
      refine ytgT rfl ?_
      refine ytq (pS rfl) ?_
      refine ytgT rfl ?_
      refine ytq (pI rfl) ?_
      refine ytgT rfl ?_
      refine ytq (pIxN rfl rfl (by omega)) ?_
      refine ytgT rfl ?_
      refine ytld hl rfl (by omega) hk ?_
      refine ytaltT rfl ?_ ytno
      refine ytalt (ycall (hc.call _ _ (hN.all i (Nat.zero_le _) (by omega)) (hN.all a (Nat.zero_le _) (by omega))) rfl rfl fun r S' h => ?_) ytno
      obtain ⟨⟨z, rfl, hzz⟩, rfl⟩ := h
      refine ytgT rfl ?_
      refine ytq (pLt rfl rfl) ?_
      refine ytq (pPickT rfl rfl) ?_
      refine ytdone ?_
      refine tnorm ?_
      refine ycondD rfl (fun h2 => ?_) (fun h2 => ?_)
      · refine yskip ?_
        refine tnorm ?_
        refine yblock ?_
        refine yregion ?_
        refine yp (pI rfl) ?_
        refine yp (pInc rfl rfl (by omega)) ?_
        refine yp (pI rfl) ?_
        refine ynil ?_
        refine bnorm ?_
        refine tnorm ?_
        exact ⟨i + 1, ⟨⟨rfl, rfl, rfl, rfl, rfl, trivial⟩, hpi.up h0 (hzz.1 h2), by omega, .of⟩, by omega⟩
      · refine yexit ?_
        refine texit ?_
        refine texit ?_
        refine bexit ?_
        refine tnorm ?_
        exact ⟨i, ⟨rfl, rfl, rfl, rfl, rfl, trivial⟩, hpi, hm, fun _ => fun h => h2 (hzz.2 h), .of⟩
    · rw [decide_eq_false (show ¬ (i : Int) ≤ (j : Int) from by omega)]
      refine ytgF rfl ?_
      refine ytgF rfl ?_
      refine ytgF rfl ?_
      refine ytgF rfl ?_
      refine ytgF rfl ?_
      refine ytgF rfl ?_
      refine ytgF rfl ?_
      refine ytgF rfl ?_
      refine ytgF rfl ?_
      refine ytaltF rfl ?_ ytno
      refine ytgF rfl ?_
      refine ytq (pPickF rfl rfl) ?_
      refine ytdone ?_
      refine tnorm ?_
      refine ycondF rfl ?_
      refine yexit ?_
      refine texit ?_
      refine texit ?_
      refine bexit ?_
      refine tnorm ?_
      exact ⟨i, ⟨rfl, rfl, rfl, rfl, rfl, trivial⟩, hpi, hm, fun h => absurd h h0, .of⟩
  obtain ⟨E0, e0⟩ := has_puts hE; subst e0; clear hE
  refine yforget hJ ?_
  refine ycut (fun E S => ∃ j : Nat, Has E [(0, .slice (some ⟨blk, 0, none⟩) ln cp), (1, .int .i64 (a : Int)), (4, .func (.func cf) #[] caps), (12, .int .i64 (i : Int)), (13, .int .i64 (j : Int))] ∧ PI lt a b i j N ∧ j + 1 - i ≤ m ∧ (i ≤ j → ¬ lt (gt N i) (gt N a)) ∧ (i ≤ j → lt (gt N j) (gt N a)) ∧ Junk S [sg blk ty fz N, Hc]) ?_ fun E S ⟨j, hE, hpi, hm, h1, h2, hJ⟩ => ?_
  · refine yblock ?_
    refine yloop (σ := Nat) (fun j E S => Has E [(0, .slice (some ⟨blk, 0, none⟩) ln cp), (1, .int .i64 (a : Int)), (4, .func (.func cf) #[] caps), (12, .int .i64 (i : Int)), (13, .int .i64 (j : Int))] ∧ PI lt a b i j N ∧ j + 1 - i ≤ m ∧ (i ≤ j → ¬ lt (gt N i) (gt N a)) ∧ Junk S [sg blk ty fz N, Hc]) (fun j => j) j ⟨⟨rfl, rfl, rfl, rfl, rfl, trivial⟩, hpi, hm, h1, .of⟩ fun j E S ⟨hE, hpi, hm, h1, hJ⟩ => ?_
    have hjb := hpi.jb; have hij := hpi.ij; have hai := hpi.ai
    obtain ⟨E0, e0⟩ := has_puts hE; subst e0; clear hE
    refine yforget hJ ?_
    refine yseq ?_
    refine yseq ?_
    refine ydraw ?_
    refine ytq (pI rfl) ?_
    refine ytq (pI rfl) ?_
    refine ytq (pLe rfl rfl) ?_
    refine ytq (pB rfl) ?_
    by_cases h0 : i ≤ j
    · rw [decide_eq_true (show (i : Int) ≤ (j : Int) from by omega)]
      refine ytgT rfl ?_
      refine ytq (pF rfl) ?_
      refine ytgT rfl ?_
      refine ytq (pS rfl) ?_
      refine ytgT rfl ?_
      refine ytq (pI rfl) ?_
      refine ytgT rfl ?_
      refine ytq (pIxN rfl rfl (by omega)) ?_
      refine ytgT rfl ?_
      refine ytld hl rfl (by omega) hk ?_
      refine ytgT rfl ?_
      refine ytq (pS rfl) ?_
      refine ytgT rfl ?_
      refine ytq (pI rfl) ?_
      refine ytgT rfl ?_
      refine ytq (pIxN rfl rfl (by omega)) ?_
      refine ytgT rfl ?_
      refine ytld hl rfl (by omega) hk ?_
      refine ytaltT rfl ?_ ytno
      refine ytalt (ycall (hc.call _ _ (hN.all j (Nat.zero_le _) (by omega)) (hN.all a (Nat.zero_le _) (by omega))) rfl rfl fun r S' h => ?_) ytno
      obtain ⟨⟨z, rfl, hzz⟩, rfl⟩ := h
      refine ytgT rfl ?_
      refine ytq (pLt rfl rfl) ?_
      refine ytgT rfl ?_
      refine ytq (pNot rfl) ?_
      refine ytq (pPickT rfl rfl) ?_
      refine ytdone ?_
      refine tnorm ?_
      refine ycondN rfl (fun h2 => ?_) (fun h2 => ?_)
      · refine yskip ?_
        refine tnorm ?_
        refine yblock ?_
        refine yregion ?_
        refine yp (pI rfl) ?_
        refine yp (pDec rfl rfl (by omega)) ?_
        refine yp (pI rfl) ?_
        refine ynil ?_
        refine bnorm ?_
        refine tnorm ?_
        exact ⟨j - 1, ⟨⟨rfl, rfl, rfl, rfl, rfl, trivial⟩, hpi.dn h0 (fun h => h2 (hzz.2 h)), by omega, fun _ => h1 h0, .of⟩, by omega⟩
      · refine yexit ?_
        refine texit ?_
        refine texit ?_
        refine bexit ?_
        refine tnorm ?_
        exact ⟨j, ⟨rfl, rfl, rfl, rfl, rfl, trivial⟩, hpi, hm, h1, fun _ => hzz.1 h2, .of⟩
    · rw [decide_eq_false (show ¬ (i : Int) ≤ (j : Int) from by omega)]
      refine ytgF rfl ?_
      refine ytgF rfl ?_
      refine ytgF rfl ?_
      refine ytgF rfl ?_
      refine ytgF rfl ?_
      refine ytgF rfl ?_
      refine ytgF rfl ?_
      refine ytgF rfl ?_
      refine ytgF rfl ?_
      refine ytaltF rfl ?_ ytno
      refine ytgF rfl ?_
      refine ytgF rfl ?_
      refine ytq (pPickF rfl rfl) ?_
      refine ytdone ?_
      refine tnorm ?_
      refine ycondF rfl ?_
      refine yexit ?_
      refine texit ?_
      refine texit ?_
      refine bexit ?_
      refine tnorm ?_
      exact ⟨j, ⟨rfl, rfl, rfl, rfl, rfl, trivial⟩, hpi, hm, h1, fun h => absurd h h0, .of⟩
  have hjb := hpi.jb; have hij := hpi.ij; have hai := hpi.ai
  obtain ⟨E0, e0⟩ := has_puts hE; subst e0; clear hE
  refine yforget hJ ?_
  refine yseq ?_
  refine yseq ?_
  refine yregion ?_
  refine yp (pI rfl) ?_
  refine yp (pI rfl) ?_
  refine yp (pGt rfl rfl) ?_
  refine ynil ?_
  refine tnorm ?_
  by_cases hcc : ¬ i ≤ j
  · rw [decide_eq_true (show (j : Int) < (i : Int) from by omega)]
    refine ycondT rfl ?_
    refine yseq ?_
    refine ydraw ?_
    refine ytq (pS rfl) ?_
    refine ytq (pI rfl) ?_
    refine ytq (pS rfl) ?_
    refine ytq (pI rfl) ?_
    refine ytq (pS rfl) ?_
    refine ytq (pI rfl) ?_
    refine ytq (pIxN rfl rfl (by omega)) ?_
    refine ytld hl rfl (by omega) hk ?_
    refine ytq (pS rfl) ?_
    refine ytq (pI rfl) ?_
    refine ytq (pIxN rfl rfl (by omega)) ?_
    refine ytld hl rfl (by omega) hk ?_
    refine ytq (pIxN rfl rfl (by omega)) ?_
    refine ytalt (ystoreE rfl (by omega) hk (hl.cells _) hz ?_) ytno
    refine ytq (pIxN rfl rfl (by omega)) ?_
    refine ytalt (ystoreE2 rfl (by omega) hk (hl.cells _) hz ?_) ytno
    refine ytdone ?_
    refine tnorm ?_
    refine yseq ?_
    refine yregion ?_
    refine yp (pI rfl) ?_
    refine yp (pI rfl) ?_
    refine yp pC ?_
    refine ynil ?_
    refine tnorm ?_
    refine yret ?_
    refine tret ?_
    exact yfin (rIB rfl rfl) ⟨_, .of, j, true, _, rfl, hsw.step (by omega) (by omega) (by omega) (by omega) (by omega), hpi.done hcc (by omega), rfl⟩
  have hcc := Decidable.of_not_not hcc
  rw [decide_eq_false (show ¬ (j : Int) < (i : Int) from by omega)]
  refine ycondF rfl ?_
  refine yskip ?_
  refine tnorm ?_
  refine yseq ?_
  refine ydraw ?_
  refine ytq (pS rfl) ?_
  refine ytq (pI rfl) ?_
  refine ytq (pS rfl) ?_
  refine ytq (pI rfl) ?_
  refine ytq (pS rfl) ?_
  refine ytq (pI rfl) ?_
  refine ytq (pIxN rfl rfl (by omega)) ?_
  refine ytld hl rfl (by omega) hk ?_
  refine ytq (pS rfl) ?_
  refine ytq (pI rfl) ?_
  refine ytq (pIxN rfl rfl (by omega)) ?_
  refine ytld hl rfl (by omega) hk ?_
  refine ytq (pIxN rfl rfl (by omega)) ?_
  refine ytalt (ystoreE rfl (by omega) hk (hl.cells _) hz ?_) ytno
  refine ytq (pIxN rfl rfl (by omega)) ?_
  refine ytalt (ystoreE2 rfl (by omega) hk (hl.cells _) hz ?_) ytno
  refine ytdone ?_
  refine tnorm ?_
  refine yseq ?_
  refine yregion ?_
  refine yp (pI rfl) ?_
  refine yp (pInc rfl rfl (by omega)) ?_
  refine yp (pI rfl) ?_
  refine ynil ?_
  refine tnorm ?_
  refine yseq ?_
  refine yregion ?_
  refine yp (pI rfl) ?_
  refine yp (pDec rfl rfl (by omega)) ?_
  refine yp (pI rfl) ?_
  refine ynil ?_
  refine tnorm ?_
  obtain ⟨hlt, hpi⟩ := hpi.swap hcc (by omega) (h1 hcc) (h2 hcc)
  have hsw := hsw.step (i := i) (j := j) (by omega) (by omega) (by omega) (by omega) (by omega)
  clear h1 h2 hjb hij hai hcc hm
  have hN := hM.sw hsw hb
  have hNl := hsw.len
  generalize i + 1 = i1 at hpi ⊢
  generalize j - 1 = j1 at hpi ⊢
  obtain ⟨N2, hN2⟩ : ∃ N2, N2 = swp N i j := ⟨_, rfl⟩
  have eN : (N.set i (gt N j)).set j (gt N i) = N2 := hN2.symm
  rw [← hN2] at hsw hpi hN hNl
  rw [eN]
  clear eN hN2
  refine ycut (fun E S => ∃ (i j : Nat) (N : List α), Has E [(0, .slice (some ⟨blk, 0, none⟩) ln cp), (1, .int .i64 (a : Int)), (4, .func (.func cf) #[] caps), (12, .int .i64 (i : Int)), (13, .int .i64 (j : Int))] ∧ Sw a b M N ∧ PI lt a b i j N ∧ ¬ i ≤ j ∧ Junk S [sg blk ty fz N, Hc]) ?_ fun E S ⟨i, j, N, hE, hsw, hpi, hcc, hJ⟩ => ?_
  · refine yblock ?_
    refine yloop (σ := Nat × Nat) (fun s E S => ∃ N, Sw a b M N ∧ PI lt a b s.1 s.2 N ∧ Has E [(0, .slice (some ⟨blk, 0, none⟩) ln cp), (1, .int .i64 (a : Int)), (4, .func (.func cf) #[] caps), (12, .int .i64 (s.1 : Int)), (13, .int .i64 (s.2 : Int))] ∧ Junk S [sg blk ty fz N, Hc]) (fun s => s.2 + 1 - s.1) (i1, j1) ⟨N2, hsw, hpi, ⟨rfl, rfl, rfl, rfl, rfl, trivial⟩, .of⟩ fun s E S ⟨N, hsw, hpi, hE, hJ⟩ => ?_
    obtain ⟨i, j⟩ := s
    have hN := hM.sw hsw hb
    have hNl := hsw.len
    have hz := hN.hz
    dsimp only at hpi hE ⊢
    obtain ⟨m, hm0⟩ : ∃ m, m = j + 1 - i := ⟨_, rfl⟩
    rw [← hm0]
    have hm : j + 1 - i ≤ m := by omega
    clear hm0
    obtain ⟨E0, e0⟩ := has_puts hE; subst e0; clear hE
    refine yforget hJ ?_
    refine yblock ?_
    refine ycut (fun E S => ∃ i : Nat, Has E [(0, .slice (some ⟨blk, 0, none⟩) ln cp), (1, .int .i64 (a : Int)), (4, .func (.func cf) #[] caps), (12, .int .i64 (i : Int)), (13, .int .i64 (j : Int))] ∧ PI lt a b i j N ∧ j + 1 - i ≤ m ∧ (i ≤ j → ¬ lt (gt N i) (gt N a)) ∧ Junk S [sg blk ty fz N, Hc]) ?_ fun E S ⟨i, hE, hpi, hm, h1, hJ⟩ => ?_
    · refine yblock ?_
      refine yloop (σ := Nat) (fun i E S => Has E [(0, .slice (some ⟨blk, 0, none⟩) ln cp), (1, .int .i64 (a : Int)), (4, .func (.func cf) #[] caps), (12, .int .i64 (i : Int)), (13, .int .i64 (j : Int))] ∧ PI lt a b i j N ∧ j + 1 - i ≤ m ∧ Junk S [sg blk ty fz N, Hc]) (fun i => j + 1 - i) i ⟨⟨rfl, rfl, rfl, rfl, rfl, trivial⟩, hpi, hm, .of⟩ fun i E S ⟨hE, hpi, hm, hJ⟩ => ?_
      have hjb := hpi.jb; have hij := hpi.ij; have hai := hpi.ai
      obtain ⟨E0, e0⟩ := has_puts hE; subst e0; clear hE
      refine yforget hJ ?_
      refine yseq ?_
      refine yseq ?_
      refine ydraw ?_
      refine ytq (pI rfl) ?_
      refine ytq (pI rfl) ?_
      refine ytq (pLe rfl rfl) ?_
      refine ytq (pB rfl) ?_
      by_cases h0 : i ≤ j
      · rw [decide_eq_true (show (i : Int) ≤ (j : Int) from by omega)]
        refine ytgT rfl ?_
        refine ytq (pF rfl) ?_
        refine ytgT rfl ?_
        refine ytq (pS rfl) ?_
        refine ytgT rfl ?_
        refine ytq (pI rfl) ?_
        refine ytgT rfl ?_
        refine ytq (pIxN rfl rfl (by omega)) ?_
        refine ytgT rfl ?_
        refine ytld hl rfl (by omega) hk ?_
        refine ytgT rfl ?_
        refine ytq (pS rfl) ?_
        refine ytgT rfl ?_
        refine ytq (pI rfl) ?_
        refine ytgT rfl ?_
        refine ytq (pIxN rfl rfl (by omega)) ?_
        refine ytgT rfl ?_
        refine ytld hl rfl (by omega) hk ?_
        refine ytaltT rfl ?_ ytno
        refine ytalt (ycall (hc.call _ _ (hN.all i (Nat.zero_le _) (by omega)) (hN.all a (Nat.zero_le _) (by omega))) rfl rfl fun r S' h => ?_) ytno
        obtain ⟨⟨z, rfl, hzz⟩, rfl⟩ := h
        refine ytgT rfl ?_
        refine ytq (pLt rfl rfl) ?_
        refine ytq (pPickT rfl rfl) ?_
        refine ytdone ?_
        refine tnorm ?_
        refine ycondD rfl (fun h2 => ?_) (fun h2 => ?_)
        · refine yskip ?_
          refine tnorm ?_
          refine yblock ?_
          refine yregion ?_
          refine yp (pI rfl) ?_
          refine yp (pInc rfl rfl (by omega)) ?_
          refine yp (pI rfl) ?_
          refine ynil ?_
          refine bnorm ?_
          refine tnorm ?_
          exact ⟨i + 1, ⟨⟨rfl, rfl, rfl, rfl, rfl, trivial⟩, hpi.up h0 (hzz.1 h2), by omega, .of⟩, by omega⟩
        · refine yexit ?_
          refine texit ?_
          refine texit ?_
          refine bexit ?_
          refine tnorm ?_
          exact ⟨i, ⟨rfl, rfl, rfl, rfl, rfl, trivial⟩, hpi, hm, fun _ => fun h => h2 (hzz.2 h), .of⟩
      · rw [decide_eq_false (show ¬ (i : Int) ≤ (j : Int) from by omega)]
        refine ytgF rfl ?_
        refine ytgF rfl ?_
        refine ytgF rfl ?_
        refine ytgF rfl ?_
        refine ytgF rfl ?_
        refine ytgF rfl ?_
        refine ytgF rfl ?_
        refine ytgF rfl ?_
        refine ytgF rfl ?_
        refine ytaltF rfl ?_ ytno
        refine ytgF rfl ?_
        refine ytq (pPickF rfl rfl) ?_
        refine ytdone ?_
        refine tnorm ?_
        refine ycondF rfl ?_
        refine yexit ?_
        refine texit ?_
        refine texit ?_
        refine bexit ?_
        refine tnorm ?_
        exact ⟨i, ⟨rfl, rfl, rfl, rfl, rfl, trivial⟩, hpi, hm, fun h => absurd h h0, .of⟩
    obtain ⟨E0, e0⟩ := has_puts hE; subst e0; clear hE
    refine yforget hJ ?_
    refine ycut (fun E S => ∃ j : Nat, Has E [(0, .slice (some ⟨blk, 0, none⟩) ln cp), (1, .int .i64 (a : Int)), (4, .func (.func cf) #[] caps), (12, .int .i64 (i : Int)), (13, .int .i64 (j : Int))] ∧ PI lt a b i j N ∧ j + 1 - i ≤ m ∧ (i ≤ j → ¬ lt (gt N i) (gt N a)) ∧ (i ≤ j → lt (gt N j) (gt N a)) ∧ Junk S [sg blk ty fz N, Hc]) ?_ fun E S ⟨j, hE, hpi, hm, h1, h2, hJ⟩ => ?_
    · refine yblock ?_
      refine yloop (σ := Nat) (fun j E S => Has E [(0, .slice (some ⟨blk, 0, none⟩) ln cp), (1, .int .i64 (a : Int)), (4, .func (.func cf) #[] caps), (12, .int .i64 (i : Int)), (13, .int .i64 (j : Int))] ∧ PI lt a b i j N ∧ j + 1 - i ≤ m ∧ (i ≤ j → ¬ lt (gt N i) (gt N a)) ∧ Junk S [sg blk ty fz N, Hc]) (fun j => j) j ⟨⟨rfl, rfl, rfl, rfl, rfl, trivial⟩, hpi, hm, h1, .of⟩ fun j E S ⟨hE, hpi, hm, h1, hJ⟩ => ?_
      have hjb := hpi.jb; have hij := hpi.ij; have hai := hpi.ai
      obtain ⟨E0, e0⟩ := has_puts hE; subst e0; clear hE
      refine yforget hJ ?_
      refine yseq ?_
      refine yseq ?_
      refine ydraw ?_
      refine ytq (pI rfl) ?_
      refine ytq (pI rfl) ?_
      refine ytq (pLe rfl rfl) ?_
      refine ytq (pB rfl) ?_
      by_cases h0 : i ≤ j
      · rw [decide_eq_true (show (i : Int) ≤ (j : Int) from by omega)]
        refine ytgT rfl ?_
        refine ytq (pF rfl) ?_
        refine ytgT rfl ?_
        refine ytq (pS rfl) ?_
        refine ytgT rfl ?_
        refine ytq (pI rfl) ?_
        refine ytgT rfl ?_
        refine ytq (pIxN rfl rfl (by omega)) ?_
        refine ytgT rfl ?_
        refine ytld hl rfl (by omega) hk ?_
        refine ytgT rfl ?_
        refine ytq (pS rfl) ?_
        refine ytgT rfl ?_
        refine ytq (pI rfl) ?_
        refine ytgT rfl ?_
        refine ytq (pIxN rfl rfl (by omega)) ?_
        refine ytgT rfl ?_
        refine ytld hl rfl (by omega) hk ?_
        refine ytaltT rfl ?_ ytno
        refine ytalt (ycall (hc.call _ _ (hN.all j (Nat.zero_le _) (by omega)) (hN.all a (Nat.zero_le _) (by omega))) rfl rfl fun r S' h => ?_) ytno
        obtain ⟨⟨z, rfl, hzz⟩, rfl⟩ := h
        refine ytgT rfl ?_
        refine ytq (pLt rfl rfl) ?_
        refine ytgT rfl ?_
        refine ytq (pNot rfl) ?_
        refine ytq (pPickT rfl rfl) ?_
        refine ytdone ?_
        refine tnorm ?_
        refine ycondN rfl (fun h2 => ?_) (fun h2 => ?_)
        · refine yskip ?_
          refine tnorm ?_
          refine yblock ?_
          refine yregion ?_
          refine yp (pI rfl) ?_
          refine yp (pDec rfl rfl (by omega)) ?_
          refine yp (pI rfl) ?_
          refine ynil ?_
          refine bnorm ?_
          refine tnorm ?_
          exact ⟨j - 1, ⟨⟨rfl, rfl, rfl, rfl, rfl, trivial⟩, hpi.dn h0 (fun h => h2 (hzz.2 h)), by omega, fun _ => h1 h0, .of⟩, by omega⟩
        · refine yexit ?_
          refine texit ?_
          refine texit ?_
          refine bexit ?_
          refine tnorm ?_
          exact ⟨j, ⟨rfl, rfl, rfl, rfl, rfl, trivial⟩, hpi, hm, h1, fun _ => hzz.1 h2, .of⟩
      · rw [decide_eq_false (show ¬ (i : Int) ≤ (j : Int) from by omega)]
        refine ytgF rfl ?_
        refine ytgF rfl ?_
        refine ytgF rfl ?_
        refine ytgF rfl ?_
        refine ytgF rfl ?_
        refine ytgF rfl ?_
        refine ytgF rfl ?_
        refine ytgF rfl ?_
        refine ytgF rfl ?_
        refine ytaltF rfl ?_ ytno
        refine ytgF rfl ?_
        refine ytgF rfl ?_
        refine ytq (pPickF rfl rfl) ?_
        refine ytdone ?_
        refine tnorm ?_
        refine ycondF rfl ?_
        refine yexit ?_
        refine texit ?_
        refine texit ?_
        refine bexit ?_
        refine tnorm ?_
        exact ⟨j, ⟨rfl, rfl, rfl, rfl, rfl, trivial⟩, hpi, hm, h1, fun h => absurd h h0, .of⟩
    have hjb := hpi.jb; have hij := hpi.ij; have hai := hpi.ai
    obtain ⟨E0, e0⟩ := has_puts hE; subst e0; clear hE
    refine yforget hJ ?_
    refine yseq ?_
    refine yseq ?_
    refine yregion ?_
    refine yp (pI rfl) ?_
    refine yp (pI rfl) ?_
    refine yp (pGt rfl rfl) ?_
    refine ynil ?_
    refine tnorm ?_
    by_cases hcc : i ≤ j
    · rw [decide_eq_false (show ¬ (j : Int) < (i : Int) from by omega)]
      refine ycondF rfl ?_
      refine yskip ?_
      refine tnorm ?_
      refine yseq ?_
      refine ydraw ?_
      refine ytq (pS rfl) ?_
      refine ytq (pI rfl) ?_
      refine ytq (pS rfl) ?_
      refine ytq (pI rfl) ?_
      refine ytq (pS rfl) ?_
      refine ytq (pI rfl) ?_
      refine ytq (pIxN rfl rfl (by omega)) ?_
      refine ytld hl rfl (by omega) hk ?_
      refine ytq (pS rfl) ?_
      refine ytq (pI rfl) ?_
      refine ytq (pIxN rfl rfl (by omega)) ?_
      refine ytld hl rfl (by omega) hk ?_
      refine ytq (pIxN rfl rfl (by omega)) ?_
      refine ytalt (ystoreE rfl (by omega) hk (hl.cells _) hz ?_) ytno
      refine ytq (pIxN rfl rfl (by omega)) ?_
      refine ytalt (ystoreE2 rfl (by omega) hk (hl.cells _) hz ?_) ytno
      refine ytdone ?_
      refine tnorm ?_
      refine yseq ?_
      refine yregion ?_
      refine yp (pI rfl) ?_
      refine yp (pInc rfl rfl (by omega)) ?_
      refine yp (pI rfl) ?_
      refine ynil ?_
      refine tnorm ?_
      refine yregion ?_
      refine yp (pI rfl) ?_
      refine yp (pDec rfl rfl (by omega)) ?_
      refine yp (pI rfl) ?_
      refine ynil ?_
      refine bnorm ?_
      refine tnorm ?_
      obtain ⟨hlt, hpi⟩ := hpi.swap hcc (by omega) (h1 hcc) (h2 hcc)
      exact ⟨(i + 1, j - 1), ⟨_, hsw.step (i := i) (j := j) (by omega) (by omega) (by omega) (by omega) (by omega), hpi, ⟨rfl, rfl, rfl, rfl, rfl, trivial⟩, .of⟩, by show j - 1 + 1 - (i + 1) < m; omega⟩
    · rw [decide_eq_true (show (j : Int) < (i : Int) from by omega)]
      refine ycondT rfl ?_
      refine yexit ?_
      refine texit ?_
      refine bexitN rfl ?_
      refine texit ?_
      refine bexit ?_
      refine tnorm ?_
      exact ⟨i, j, N, ⟨rfl, rfl, rfl, rfl, rfl, trivial⟩, hsw, hpi, hcc, .of⟩
  have hjb := hpi.jb; have hij := hpi.ij; have hai := hpi.ai
  have hN := hM.sw hsw hb
  have hNl := hsw.len
  have hz := hN.hz
  obtain ⟨E0, e0⟩ := has_puts hE; subst e0; clear hE
  refine yforget hJ ?_
  refine yseq ?_
  refine ydraw ?_
  refine ytq (pS rfl) ?_
  refine ytq (pI rfl) ?_
  refine ytq (pS rfl) ?_
  refine ytq (pI rfl) ?_
  refine ytq (pS rfl) ?_
  refine ytq (pI rfl) ?_
  refine ytq (pIxN rfl rfl (by omega)) ?_
  refine ytld hl rfl (by omega) hk ?_
  refine ytq (pS rfl) ?_
  refine ytq (pI rfl) ?_
  refine ytq (pIxN rfl rfl (by omega)) ?_
  refine ytld hl rfl (by omega) hk ?_
  refine ytq (pIxN rfl rfl (by omega)) ?_
  refine ytalt (ystoreE rfl (by omega) hk (hl.cells _) hz ?_) ytno
  refine ytq (pIxN rfl rfl (by omega)) ?_
  refine ytalt (ystoreE2 rfl (by omega) hk (hl.cells _) hz ?_) ytno
  refine ytdone ?_
  refine tnorm ?_
  refine yseq ?_
  refine yregion ?_
  refine yp (pI rfl) ?_
  refine yp (pI rfl) ?_
  refine yp pC ?_
  refine ynil ?_
  refine tnorm ?_
  refine yret ?_
  exact yfin (rIB rfl rfl) ⟨_, .of, j, false, _, rfl, hsw.step (by omega) (by omega) (by omega) (by omega) (by omega), hpi.done hcc (by omega), rfl⟩

set_option maxHeartbeats 1000000 in
theorem pd_peq {f : Nat} (hf : FnX P f 90 #[.tmp 10] (xpPeq ld k)) (hl : Ld ld vl) (hk : Enc.k α = k) (hc : Cm P cf caps Hc vl p lt) {M : List α} (hM : PdM fz ln p M) {a b pv : Nat} (hab : a ≤ pv) (hpb : pv < b) (hb : b ≤ ln) (hle : ∀ q, a ≤ q → q < b → ¬ lt (gt M q) (gt M pv)) :
    Tri P f #[.slice (some ⟨blk, 0, none⟩) ln cp, .int .i64 (a : Int), .int .i64 (b : Int), .int .i64 (pv : Int), .func (.func cf) #[] caps] [sg blk ty fz M, Hc] (fun r S => ∃ (mid : Nat) (M' : List α), r = .int .i64 (mid : Int) ∧ Sw a b M M' ∧ Eqd lt a b mid M' ∧ S = [sg blk ty fz M', Hc]) := by
  refine Tri.forget (ycallee hf (Nat.le_of_ble_eq_true rfl) ?_)
  have hlen := hM.len
  have hbig := hM.big
  have hz := hM.hz
  unfold xpPeq
  refine yseq ?_
  refine yregion ?_
  refine yp pC ?_
  refine ynil ?_
  refine tnorm ?_
  refine yseq ?_
  refine ydraw ?_
  refine ytq (pS rfl) ?_
  refine ytq (pI rfl) ?_
  refine ytq (pS rfl) ?_
  refine ytq (pI rfl) ?_
  refine ytq (pS rfl) ?_
  refine ytq (pI rfl) ?_
  refine ytq (pIxN rfl rfl (by omega)) ?_
  refine ytld hl rfl (by omega) hk ?_
  refine ytq (pS rfl) ?_
  refine ytq (pI rfl) ?_
  refine ytq (pIxN rfl rfl (by omega)) ?_
  refine ytld hl rfl (by omega) hk ?_
  refine ytq (pIxN rfl rfl (by omega)) ?_
  refine ytalt (ystoreE rfl (by omega) hk (hl.cells _) hz ?_) ytno
  refine ytq (pIxN rfl rfl (by omega)) ?_
  refine ytalt (ystoreE2 rfl (by omega) hk (hl.cells _) hz ?_) ytno
  refine ytdone ?_
  refine tnorm ?_
  refine yseq ?_
  refine yregion ?_
  refine yp (pI rfl) ?_
  refine yp (pInc rfl rfl (by omega)) ?_
  refine yp (pI rfl) ?_
  refine yp (pDec rfl rfl (by omega)) ?_
  refine yp (pI rfl) ?_
  refine yp (pI rfl) ?_
  refine ynil ?_
  refine tnorm ?_
  have hsw : Sw a b M (swp M a pv) := Sw.refl.step (by omega) (by omega) (by omega) (by omega) (by omega)
  have hN := hM.sw hsw hb
  have hNl := hsw.len
  have hpi : PE lt a b (a + 1) (b - 1) (swp M a pv) := PE.start hab hpb (by omega) hle
  obtain ⟨N, hN1⟩ : ∃ N, N = swp M a pv := ⟨_, rfl⟩
  have eN : (M.set a (gt M pv)).set pv (gt M a) = N := hN1.symm
  rw [← hN1] at hsw hN hNl hpi
  rw [eN]
  clear eN hN1
  generalize a + 1 = i at hpi ⊢
  generalize b - 1 = j at hpi ⊢
  have hz := hN.hz
  refine ycut (fun E S => ∃ (i j : Nat) (N : List α), Has E [(0, .slice (some ⟨blk, 0, none⟩) ln cp), (1, .int .i64 (a : Int)), (4, .func (.func cf) #[] caps), (11, .int .i64 (i : Int)), (12, .int .i64 (j : Int))] ∧ Sw a b M N ∧ PE lt a b i j N ∧ ¬ i ≤ j ∧ Junk S [sg blk ty fz N, Hc]) ?_ fun E S ⟨i, j, N, hE, hsw, hpi, hcc, hJ⟩ => ?_
  · refine yblock ?_
    refine yloop (σ := Nat × Nat) (fun s E S => ∃ N, Sw a b M N ∧ PE lt a b s.1 s.2 N ∧ Has E [(0, .slice (some ⟨blk, 0, none⟩) ln cp), (1, .int .i64 (a : Int)), (4, .func (.func cf) #[] caps), (11, .int .i64 (s.1 : Int)), (12, .int .i64 (s.2 : Int))] ∧ Junk S [sg blk ty fz N, Hc]) (fun s => s.2 + 1 - s.1) (i, j) ⟨N, hsw, hpi, ⟨rfl, rfl, rfl, rfl, rfl, trivial⟩, .of⟩ fun s E S ⟨N, hsw, hpi, hE, hJ⟩ => ?_
    obtain ⟨i, j⟩ := s
    have hN := hM.sw hsw hb
    have hNl := hsw.len
    have hz := hN.hz
    dsimp only at hpi hE ⊢
    obtain ⟨m, hm0⟩ : ∃ m, m = j + 1 - i := ⟨_, rfl⟩
    rw [← hm0]
    have hm : j + 1 - i ≤ m := by omega
    clear hm0
    obtain ⟨E0, e0⟩ := has_puts hE; subst e0; clear hE
    refine yforget hJ ?_
    refine yblock ?_
    refine ycut (fun E S => ∃ i : Nat, Has E [(0, .slice (some ⟨blk, 0, none⟩) ln cp), (1, .int .i64 (a : Int)), (4, .func (.func cf) #[] caps), (11, .int .i64 (i : Int)), (12, .int .i64 (j : Int))] ∧ PE lt a b i j N ∧ j + 1 - i ≤ m ∧ (i ≤ j → lt (gt N a) (gt N i)) ∧ Junk S [sg blk ty fz N, Hc]) ?_ fun E S ⟨i, hE, hpi, hm, h1, hJ⟩ => ?_
    · refine yblock ?_
      refine yloop (σ := Nat) (fun i E S => Has E [(0, .slice (some ⟨blk, 0, none⟩) ln cp), (1, .int .i64 (a : Int)), (4, .func (.func cf) #[] caps), (11, .int .i64 (i : Int)), (12, .int .i64 (j : Int))] ∧ PE lt a b i j N ∧ j + 1 - i ≤ m ∧ Junk S [sg blk ty fz N, Hc]) (fun i => j + 1 - i) i ⟨⟨rfl, rfl, rfl, rfl, rfl, trivial⟩, hpi, hm, .of⟩ fun i E S ⟨hE, hpi, hm, hJ⟩ => ?_
      have hjb := hpi.jb; have hij := hpi.ij; have hai := hpi.ai
      obtain ⟨E0, e0⟩ := has_puts hE; subst e0; clear hE
      refine yforget hJ ?_
      refine yseq ?_
      refine yseq ?_
      refine ydraw ?_
      refine ytq (pI rfl) ?_
      refine ytq (pI rfl) ?_
      refine ytq (pLe rfl rfl) ?_
      refine ytq (pB rfl) ?_
      by_cases h0 : i ≤ j
      · rw [decide_eq_true (show (i : Int) ≤ (j : Int) from by omega)]
        refine ytgT rfl ?_
        refine ytq (pF rfl) ?_
        refine ytgT rfl ?_
        refine ytq (pS rfl) ?_
        refine ytgT rfl ?_
        refine ytq (pI rfl) ?_
        refine ytgT rfl ?_
        refine ytq (pIxN rfl rfl (by omega)) ?_
        refine ytgT rfl ?_
        refine ytld hl rfl (by omega) hk ?_
        refine ytgT rfl ?_
        refine ytq (pS rfl) ?_
        refine ytgT rfl ?_
        refine ytq (pI rfl) ?_
        refine ytgT rfl ?_
        refine ytq (pIxN rfl rfl (by omega)) ?_
        refine ytgT rfl ?_
        refine ytld hl rfl (by omega) hk ?_
        refine ytaltT rfl ?_ ytno
        refine ytalt (ycall (hc.call _ _ (hN.all a (Nat.zero_le _) (by omega)) (hN.all i (Nat.zero_le _) (by omega))) rfl rfl fun r S' h => ?_) ytno
        obtain ⟨⟨z, rfl, hzz⟩, rfl⟩ := h
        refine ytgT rfl ?_
        refine ytq (pLt rfl rfl) ?_
        refine ytgT rfl ?_
        refine ytq (pNot rfl) ?_
        refine ytq (pPickT rfl rfl) ?_
        refine ytdone ?_
        refine tnorm ?_
        refine ycondN rfl (fun h2 => ?_) (fun h2 => ?_)
        · refine yskip ?_
          refine tnorm ?_
          refine yblock ?_
          refine yregion ?_
          refine yp (pI rfl) ?_
          refine yp (pInc rfl rfl (by omega)) ?_
          refine yp (pI rfl) ?_
          refine ynil ?_
          refine bnorm ?_
          refine tnorm ?_
          exact ⟨i + 1, ⟨⟨rfl, rfl, rfl, rfl, rfl, trivial⟩, hpi.up h0 (fun h => h2 (hzz.2 h)), by omega, .of⟩, by omega⟩
        · refine yexit ?_
          refine texit ?_
          refine texit ?_
          refine bexit ?_
          refine tnorm ?_
          exact ⟨i, ⟨rfl, rfl, rfl, rfl, rfl, trivial⟩, hpi, hm, fun _ => hzz.1 h2, .of⟩
      · rw [decide_eq_false (show ¬ (i : Int) ≤ (j : Int) from by omega)]
        refine ytgF rfl ?_
        refine ytgF rfl ?_
        refine ytgF rfl ?_
        refine ytgF rfl ?_
        refine ytgF rfl ?_
        refine ytgF rfl ?_
        refine ytgF rfl ?_
        refine ytgF rfl ?_
        refine ytgF rfl ?_
        refine ytaltF rfl ?_ ytno
        refine ytgF rfl ?_
        refine ytgF rfl ?_
        refine ytq (pPickF rfl rfl) ?_
        refine ytdone ?_
        refine tnorm ?_
        refine ycondF rfl ?_
        refine yexit ?_
        refine texit ?_
        refine texit ?_
        refine bexit ?_
        refine tnorm ?_
        exact ⟨i, ⟨rfl, rfl, rfl, rfl, rfl, trivial⟩, hpi, hm, fun h => absurd h h0, .of⟩
    obtain ⟨E0, e0⟩ := has_puts hE; subst e0; clear hE
    refine yforget hJ ?_
    refine ycut (fun E S => ∃ j : Nat, Has E [(0, .slice (some ⟨blk, 0, none⟩) ln cp), (1, .int .i64 (a : Int)), (4, .func (.func cf) #[] caps), (11, .int .i64 (i : Int)), (12, .int .i64 (j : Int))] ∧ PE lt a b i j N ∧ j + 1 - i ≤ m ∧ (i ≤ j → lt (gt N a) (gt N i)) ∧ (i ≤ j → ¬ lt (gt N a) (gt N j)) ∧ Junk S [sg blk ty fz N, Hc]) ?_ fun E S ⟨j, hE, hpi, hm, h1, h2, hJ⟩ => ?_
    · refine yblock ?_
      refine yloop (σ := Nat) (fun j E S => Has E [(0, .slice (some ⟨blk, 0, none⟩) ln cp), (1, .int .i64 (a : Int)), (4, .func (.func cf) #[] caps), (11, .int .i64 (i : Int)), (12, .int .i64 (j : Int))] ∧ PE lt a b i j N ∧ j + 1 - i ≤ m ∧ (i ≤ j → lt (gt N a) (gt N i)) ∧ Junk S [sg blk ty fz N, Hc]) (fun j => j) j ⟨⟨rfl, rfl, rfl, rfl, rfl, trivial⟩, hpi, hm, h1, .of⟩ fun j E S ⟨hE, hpi, hm, h1, hJ⟩ => ?_
      have hjb := hpi.jb; have hij := hpi.ij; have hai := hpi.ai
      obtain ⟨E0, e0⟩ := has_puts hE; subst e0; clear hE
      refine yforget hJ ?_
      refine yseq ?_
      refine yseq ?_
      refine ydraw ?_
      refine ytq (pI rfl) ?_
      refine ytq (pI rfl) ?_
      refine ytq (pLe rfl rfl) ?_
      refine ytq (pB rfl) ?_
      by_cases h0 : i ≤ j
      · rw [decide_eq_true (show (i : Int) ≤ (j : Int) from by omega)]
        refine ytgT rfl ?_
        refine ytq (pF rfl) ?_
        refine ytgT rfl ?_
        refine ytq (pS rfl) ?_
        refine ytgT rfl ?_
        refine ytq (pI rfl) ?_
        refine ytgT rfl ?_
        refine ytq (pIxN rfl rfl (by omega)) ?_
        refine ytgT rfl ?_
        refine ytld hl rfl (by omega) hk ?_
        refine ytgT rfl ?_
        refine ytq (pS rfl) ?_
        refine ytgT rfl ?_
        refine ytq (pI rfl) ?_
        refine ytgT rfl ?_
        refine ytq (pIxN rfl rfl (by omega)) ?_
        refine ytgT rfl ?_
        refine ytld hl rfl (by omega) hk ?_
        refine ytaltT rfl ?_ ytno
        refine ytalt (ycall (hc.call _ _ (hN.all a (Nat.zero_le _) (by omega)) (hN.all j (Nat.zero_le _) (by omega))) rfl rfl fun r S' h => ?_) ytno
        obtain ⟨⟨z, rfl, hzz⟩, rfl⟩ := h
        refine ytgT rfl ?_
        refine ytq (pLt rfl rfl) ?_
        refine ytq (pPickT rfl rfl) ?_
        refine ytdone ?_
        refine tnorm ?_
        refine ycondD rfl (fun h2 => ?_) (fun h2 => ?_)
        · refine yskip ?_
          refine tnorm ?_
          refine yblock ?_
          refine yregion ?_
          refine yp (pI rfl) ?_
          refine yp (pDec rfl rfl (by omega)) ?_
          refine yp (pI rfl) ?_
          refine ynil ?_
          refine bnorm ?_
          refine tnorm ?_
          exact ⟨j - 1, ⟨⟨rfl, rfl, rfl, rfl, rfl, trivial⟩, hpi.dn h0 (hzz.1 h2), by omega, fun _ => h1 h0, .of⟩, by omega⟩
        · refine yexit ?_
          refine texit ?_
          refine texit ?_
          refine bexit ?_
          refine tnorm ?_
          exact ⟨j, ⟨rfl, rfl, rfl, rfl, rfl, trivial⟩, hpi, hm, h1, fun _ => fun h => h2 (hzz.2 h), .of⟩
      · rw [decide_eq_false (show ¬ (i : Int) ≤ (j : Int) from by omega)]
        refine ytgF rfl ?_
        refine ytgF rfl ?_
        refine ytgF rfl ?_
        refine ytgF rfl ?_
        refine ytgF rfl ?_
        refine ytgF rfl ?_
        refine ytgF rfl ?_
        refine ytgF rfl ?_
        refine ytgF rfl ?_
        refine ytaltF rfl ?_ ytno
        refine ytgF rfl ?_
        refine ytq (pPickF rfl rfl) ?_
        refine ytdone ?_
        refine tnorm ?_
        refine ycondF rfl ?_
        refine yexit ?_
        refine texit ?_
        refine texit ?_
        refine bexit ?_
        refine tnorm ?_
        exact ⟨j, ⟨rfl, rfl, rfl, rfl, rfl, trivial⟩, hpi, hm, h1, fun h => absurd h h0, .of⟩
    have hjb := hpi.jb; have hij := hpi.ij; have hai := hpi.ai
    obtain ⟨E0, e0⟩ := has_puts hE; subst e0; clear hE
    refine yforget hJ ?_
    refine yseq ?_
    refine yseq ?_
    refine yregion ?_
    refine yp (pI rfl) ?_
    refine yp (pI rfl) ?_
    refine yp (pGt rfl rfl) ?_
    refine ynil ?_
    refine tnorm ?_
    by_cases hcc : i ≤ j
    · rw [decide_eq_false (show ¬ (j : Int) < (i : Int) from by omega)]
      refine ycondF rfl ?_
      refine yskip ?_
      refine tnorm ?_
      refine yseq ?_
      refine ydraw ?_
      refine ytq (pS rfl) ?_
      refine ytq (pI rfl) ?_
      refine ytq (pS rfl) ?_
      refine ytq (pI rfl) ?_
      refine ytq (pS rfl) ?_
      refine ytq (pI rfl) ?_
      refine ytq (pIxN rfl rfl (by omega)) ?_
      refine ytld hl rfl (by omega) hk ?_
      refine ytq (pS rfl) ?_
      refine ytq (pI rfl) ?_
      refine ytq (pIxN rfl rfl (by omega)) ?_
      refine ytld hl rfl (by omega) hk ?_
      refine ytq (pIxN rfl rfl (by omega)) ?_
      refine ytalt (ystoreE rfl (by omega) hk (hl.cells _) hz ?_) ytno
      refine ytq (pIxN rfl rfl (by omega)) ?_
      refine ytalt (ystoreE2 rfl (by omega) hk (hl.cells _) hz ?_) ytno
      refine ytdone ?_
      refine tnorm ?_
      refine yseq ?_
      refine yregion ?_
      refine yp (pI rfl) ?_
      refine yp (pInc rfl rfl (by omega)) ?_
      refine yp (pI rfl) ?_
      refine ynil ?_
      refine tnorm ?_
      refine yregion ?_
      refine yp (pI rfl) ?_
      refine yp (pDec rfl rfl (by omega)) ?_
      refine yp (pI rfl) ?_
      refine ynil ?_
      refine bnorm ?_
      refine tnorm ?_
      obtain ⟨hlt, hpi⟩ := hpi.swap hcc (by omega) (h1 hcc) (h2 hcc)
      exact ⟨(i + 1, j - 1), ⟨_, hsw.step (i := i) (j := j) (by omega) (by omega) (by omega) (by omega) (by omega), hpi, ⟨rfl, rfl, rfl, rfl, rfl, trivial⟩, .of⟩, by show j - 1 + 1 - (i + 1) < m; omega⟩
    · rw [decide_eq_true (show (j : Int) < (i : Int) from by omega)]
      refine ycondT rfl ?_
      refine yexit ?_
      refine texit ?_
      refine bexitN rfl ?_
      refine texit ?_
      refine bexit ?_
      refine tnorm ?_
      exact ⟨i, j, N, ⟨rfl, rfl, rfl, rfl, rfl, trivial⟩, hsw, hpi, hcc, .of⟩
  obtain ⟨E0, e0⟩ := has_puts hE; subst e0; clear hE
  refine yforget hJ ?_
  refine yseq ?_
  refine yregion ?_
  refine yp (pI rfl) ?_
  refine yp (pI rfl) ?_
  refine ynil ?_
  refine tnorm ?_
  refine yret ?_
  exact yfin (rI rfl) ⟨_, .of, i, N, rfl, hsw, hpi.done hc.wk hcc, rfl⟩
end
end Go.Xs
