/- slices.SortFunc: the choice of a pivot, patterns that are broken, ranges that are nearly in order. -/
import Derived.Test.YtkdbajfaaifkaaaPdq2
namespace Go.Xs
open Enc (enc)
section
variable {P : Program} {α : Type} [Enc α] [Inhabited α] {ld : Operand → XOp} {k : Nat} {vl : α → Value} {cf : Nat} {caps : Array Value} {Hc : List Chunk} {p : α → Prop} {lt : α → α → Prop}
  {blk ty ln cp : Nat} {fz : Nat × Nat}
abbrev swc (sb ti z : Nat) : List Chunk := [(sb, .cells #[.int .i64 (z : Int)] ti)]
theorem pd_ord2 {f : Nat} (hf : FnX P f 32 #[.tmp 10, .tmp 11] (xpOrd2 ld k)) (hl : Ld ld vl) (hk : Enc.k α = k) (hc : Cm P cf caps Hc vl p lt) {M : List α} (hM : PdM fz ln p M) {a b : Nat} (ha : a < ln) (hb : b < ln) {sb ti z : Nat} (hz : z < 1000) :
    Tri P f #[.slice (some ⟨blk, 0, none⟩) ln cp, .int .i64 (a : Int), .int .i64 (b : Int), .pointer (some ⟨sb, 0, none⟩), .func (.func cf) #[] caps] [sg blk ty fz M, Hc, swc sb ti z]
      (fun r S => ∃ x y z' : Nat, r = .tuple #[.int .i64 (x : Int), .int .i64 (y : Int)] ∧ (x = a ∧ y = b ∨ x = b ∧ y = a) ∧ z' ≤ z + 1 ∧ S = [sg blk ty fz M, Hc, swc sb ti z']) := by
  refine Tri.forget (ycallee hf (Nat.le_of_ble_eq_true rfl) ?_)
  have hlen := hM.len
  have hbig := hM.big
  unfold xpOrd2
  refine yseq ?_
  refine yregion ?_
  refine yp pC ?_
  refine yp pC ?_
  refine ynil ?_
  refine tnorm ?_
  refine yseq ?_
  refine yseq ?_
  refine ydraw ?_
  refine ytq (pF rfl) ?_
  refine ytq (pS rfl) ?_
  refine ytq (pI rfl) ?_
  refine ytq (pIxN rfl rfl (by omega)) ?_
  refine ytld hl rfl (by omega) hk ?_
  refine ytq (pS rfl) ?_
  refine ytq (pI rfl) ?_
  refine ytq (pIxN rfl rfl (by omega)) ?_
  refine ytld hl rfl (by omega) hk ?_
  refine ytalt (ycall (hc.call _ _ (hM.all b (Nat.zero_le _) hb) (hM.all a (Nat.zero_le _) ha)) rfl rfl fun r S' h => ?_) ytno
  obtain ⟨⟨w, rfl, hzz⟩, rfl⟩ := h
  refine ytq (pLt rfl rfl) ?_
  refine ytdone ?_
  refine tnorm ?_
  refine ycondD rfl (fun h2 => ?_) (fun h2 => ?_)
  · refine yseq ?_
    refine yregion ?_
    refine yp (pP rfl) ?_
    refine yp (pNilc rfl) ?_
    refine ycons (yload1 rfl rfl ?_)
    refine yp (pInc rfl rfl (by omega)) ?_
    refine yp (pNilc rfl) ?_
    refine ycons (yst1_0 rfl rfl (scI rfl) ?_)
    refine ynil ?_
    refine tnorm ?_
    refine yseq ?_
    refine yregion ?_
    refine yp (pI rfl) ?_
    refine yp (pI rfl) ?_
    refine yp (pI rfl) ?_
    refine yp (pI rfl) ?_
    refine ynil ?_
    refine tnorm ?_
    refine yret ?_
    refine tret ?_
    exact yfin (rII rfl rfl) ⟨_, .of, b, a, z + 1, rfl, .inr ⟨rfl, rfl⟩, by omega, rfl⟩
  · refine yskip ?_
    refine tnorm ?_
    refine yseq ?_
    refine yregion ?_
    refine yp (pI rfl) ?_
    refine yp (pI rfl) ?_
    refine yp (pI rfl) ?_
    refine yp (pI rfl) ?_
    refine ynil ?_
    refine tnorm ?_
    refine yret ?_
    exact yfin (rII rfl rfl) ⟨_, .of, a, b, z, rfl, .inl ⟨rfl, rfl⟩, by omega, rfl⟩
theorem pd_med {f fo : Nat} (hf : FnX P f 41 #[.tmp 12] (xpMed fo)) (ho : FnX P fo 32 #[.tmp 10, .tmp 11] (xpOrd2 ld k)) (hl : Ld ld vl) (hk : Enc.k α = k) (hc : Cm P cf caps Hc vl p lt) {M : List α} (hM : PdM fz ln p M) {a b c : Nat} (ha : a < ln) (hb : b < ln) (hcc : c < ln) {sb ti z : Nat} (hz : z < 900) :
    Tri P f #[.slice (some ⟨blk, 0, none⟩) ln cp, .int .i64 (a : Int), .int .i64 (b : Int), .int .i64 (c : Int), .pointer (some ⟨sb, 0, none⟩), .func (.func cf) #[] caps] [sg blk ty fz M, Hc, swc sb ti z]
      (fun r S => ∃ x z' : Nat, r = .int .i64 (x : Int) ∧ (x = a ∨ x = b ∨ x = c) ∧ z' ≤ z + 3 ∧ S = [sg blk ty fz M, Hc, swc sb ti z']) := by
  refine Tri.forget (ycallee hf (Nat.le_of_ble_eq_true rfl) ?_)
  unfold xpMed
  refine yseq ?_
  refine yregion ?_
  refine yp pC ?_
  refine ynil ?_
  refine tnorm ?_
  refine yseq ?_
  refine yregion ?_
  refine yp (pS rfl) ?_
  refine yp (pI rfl) ?_
  refine yp (pI rfl) ?_
  refine yp (pP rfl) ?_
  refine yp (pF rfl) ?_
  refine ycons (ycall (pd_ord2 (blk := blk) (ty := ty) (cp := cp) (sb := sb) (ti := ti) (z := z) ho hl hk hc hM ha hb (by omega)) rfl rfl fun r S' h => ?_)
  obtain ⟨x1, y1, z1, rfl, h1, hz1, rfl⟩ := h
  refine yp (pU rfl) ?_
  refine yp (pExt rfl rfl) ?_
  refine yp (pExt rfl rfl) ?_
  refine yp (pI rfl) ?_
  refine yp (pI rfl) ?_
  refine ynil ?_
  refine tnorm ?_
  refine yseq ?_
  refine yregion ?_
  refine yp (pS rfl) ?_
  refine yp (pI rfl) ?_
  refine yp (pI rfl) ?_
  refine yp (pP rfl) ?_
  refine yp (pF rfl) ?_
  refine ycons (ycall (pd_ord2 (blk := blk) (ty := ty) (cp := cp) (sb := sb) (ti := ti) (z := z1) ho hl hk hc hM (a := y1) (b := c) (by omega) hcc (by omega)) rfl rfl fun r S' h => ?_)
  obtain ⟨x2, y2, z2, rfl, h2, hz2, rfl⟩ := h
  refine yp (pU rfl) ?_
  refine yp (pExt rfl rfl) ?_
  refine yp (pExt rfl rfl) ?_
  refine yp (pI rfl) ?_
  refine yp (pI rfl) ?_
  refine ynil ?_
  refine tnorm ?_
  refine yseq ?_
  refine yregion ?_
  refine yp (pS rfl) ?_
  refine yp (pI rfl) ?_
  refine yp (pI rfl) ?_
  refine yp (pP rfl) ?_
  refine yp (pF rfl) ?_
  refine ycons (ycall (pd_ord2 (blk := blk) (ty := ty) (cp := cp) (sb := sb) (ti := ti) (z := z2) ho hl hk hc hM (a := x1) (b := x2) (by omega) (by omega) (by omega)) rfl rfl fun r S' h => ?_)
  obtain ⟨x3, y3, z3, rfl, h3, hz3, rfl⟩ := h
  refine yp (pU rfl) ?_
  refine yp (pExt rfl rfl) ?_
  refine yp (pExt rfl rfl) ?_
  refine yp (pI rfl) ?_
  refine yp (pI rfl) ?_
  refine ynil ?_
  refine tnorm ?_
  refine yseq ?_
  refine yregion ?_
  refine yp (pI rfl) ?_
  refine yp (pI rfl) ?_
  refine ynil ?_
  refine tnorm ?_
  refine yret ?_
  exact yfin (rI rfl) ⟨_, .of, y3, z3, rfl, by omega, by omega, rfl⟩
theorem pd_mad {f fm fo : Nat} (hf : FnX P f 18 #[.tmp 8] (xpMad fm)) (hm : FnX P fm 41 #[.tmp 12] (xpMed fo)) (ho : FnX P fo 32 #[.tmp 10, .tmp 11] (xpOrd2 ld k)) (hl : Ld ld vl) (hk : Enc.k α = k) (hc : Cm P cf caps Hc vl p lt) {M : List α} (hM : PdM fz ln p M) {a : Nat} (ha : 1 ≤ a) (ha2 : a + 1 < ln) {sb ti z : Nat} (hz : z < 900) :
    Tri P f #[.slice (some ⟨blk, 0, none⟩) ln cp, .int .i64 (a : Int), .pointer (some ⟨sb, 0, none⟩), .func (.func cf) #[] caps] [sg blk ty fz M, Hc, swc sb ti z]
      (fun r S => ∃ x z' : Nat, r = .int .i64 (x : Int) ∧ a ≤ x + 1 ∧ x ≤ a + 1 ∧ z' ≤ z + 3 ∧ S = [sg blk ty fz M, Hc, swc sb ti z']) := by
  refine Tri.forget (ycallee hf (Nat.le_of_ble_eq_true rfl) ?_)
  have hlen := hM.len
  have hbig := hM.big
  unfold xpMad
  refine yseq ?_
  refine yregion ?_
  refine yp pC ?_
  refine ynil ?_
  refine tnorm ?_
  refine yseq ?_
  refine yregion ?_
  refine yp (pS rfl) ?_
  refine yp (pI rfl) ?_
  refine yp (pDec rfl rfl (by omega)) ?_
  refine yp (pI rfl) ?_
  refine yp (pI rfl) ?_
  refine yp (pInc rfl rfl (by omega)) ?_
  refine yp (pP rfl) ?_
  refine yp (pF rfl) ?_
  refine ycons (ycall (pd_med (blk := blk) (ty := ty) (cp := cp) (sb := sb) (ti := ti) (z := z) hm ho hl hk hc hM (a := a - 1) (b := a) (c := a + 1) (by omega) (by omega) (by omega) hz) rfl rfl fun r S' h => ?_)
  obtain ⟨x, z1, rfl, h1, hz1, rfl⟩ := h
  refine yp (pI rfl) ?_
  refine ynil ?_
  refine tnorm ?_
  refine yret ?_
  exact yfin (rI rfl) ⟨_, .of, x, z1, rfl, by omega, by omega, by omega, rfl⟩
theorem pd_chp {f fa fm fo ti : Nat} (hf : FnX P f 63 #[.tmp 8, .tmp 9] (xpChp fa fm ti)) (hma : FnX P fa 18 #[.tmp 8] (xpMad fm)) (hm : FnX P fm 41 #[.tmp 12] (xpMed fo)) (ho : FnX P fo 32 #[.tmp 10, .tmp 11] (xpOrd2 ld k)) (hl : Ld ld vl) (hk : Enc.k α = k) (hc : Cm P cf caps Hc vl p lt) {M : List α} (hM : PdM fz ln p M) {a b : Nat} (ha : a + 8 ≤ b) (hb : b ≤ ln) :
    Tri P f #[.slice (some ⟨blk, 0, none⟩) ln cp, .int .i64 (a : Int), .int .i64 (b : Int), .func (.func cf) #[] caps] [sg blk ty fz M, Hc]
      (fun r S => ∃ (j : Nat) (h : Int), r = .tuple #[.int .i64 (j : Int), .int .i64 h] ∧ a ≤ j ∧ j < b ∧ S = [sg blk ty fz M, Hc]) := by
  obtain ⟨l, rfl⟩ : ∃ l, b = a + l := ⟨b - a, by omega⟩
  refine Tri.forget (ycallee hf (Nat.le_of_ble_eq_true rfl) ?_)
  have hlen := hM.len
  have hbig := hM.big
  unfold xpChp
  refine yseq ?_
  refine yregion ?_
  refine yp pC ?_
  refine yp pC ?_
  refine ynil ?_
  refine tnorm ?_
  refine yseq ?_
  refine yregion ?_
  refine yp (pI rfl) ?_
  refine yp (pI rfl) ?_
  refine yp (pSub rfl rfl (by omega)) ?_
  refine yp (pI rfl) ?_
  refine ynil ?_
  refine tnorm ?_
  refine yseq ?_
  refine yregion ?_
  refine ycons (yalloc fun p11 => ?_)
  refine ynil ?_
  refine tnorm ?_
  refine yseq ?_
  refine yregion ?_
  refine yp (pI rfl) ?_
  refine yp (pI rfl) ?_
  rw [show ((a + l : Nat) : Int) - (a : Int) = (l : Int) from by omega]
  skip
  refine yp (pQuoN (j := l) (k := 4) rfl rfl (by omega) (by omega)) ?_
  refine yp (pMulN (j := l / 4) (k := 1) rfl rfl (by omega)) ?_
  refine yp (pAddN rfl rfl (by omega)) ?_
  refine yp (pI rfl) ?_
  refine ynil ?_
  refine tnorm ?_
  refine yseq ?_
  refine yregion ?_
  refine yp (pI rfl) ?_
  refine yp (pI rfl) ?_
  refine yp (pQuoN (j := l) (k := 4) rfl rfl (by omega) (by omega)) ?_
  refine yp (pMulN (j := l / 4) (k := 2) rfl rfl (by omega)) ?_
  refine yp (pAddN rfl rfl (by omega)) ?_
  refine yp (pI rfl) ?_
  refine ynil ?_
  refine tnorm ?_
  refine yseq ?_
  refine yregion ?_
  refine yp (pI rfl) ?_
  refine yp (pI rfl) ?_
  refine yp (pQuoN (j := l) (k := 4) rfl rfl (by omega) (by omega)) ?_
  refine yp (pMulN (j := l / 4) (k := 3) rfl rfl (by omega)) ?_
  refine yp (pAddN rfl rfl (by omega)) ?_
  refine yp (pI rfl) ?_
  refine ynil ?_
  refine tnorm ?_
  refine ycut (fun E S => ∃ j z : Nat, Has E [(11, .pointer (some ⟨p11, 0, none⟩)), (13, .int .i64 (j : Int))] ∧ a ≤ j ∧ j < a + l ∧ Junk S [sg blk ty fz M, Hc, swc p11 ti z]) ?_ fun E S ⟨j, z, hE, hj, hj2, hJ⟩ => ?_
  · refine yseq ?_
    refine yregion ?_
    refine yp (pI rfl) ?_
    refine yp (pGe rfl rfl) ?_
    refine ynil ?_
    refine tnorm ?_
    skip
    rw [decide_eq_true (show (8 : Int) ≤ (l : Int) from by omega)]
    refine ycondT rfl ?_
    refine ycut (fun E S => ∃ i j q z : Nat, Has E [(0, .slice (some ⟨blk, 0, none⟩) ln cp), (3, .func (.func cf) #[] caps), (11, .pointer (some ⟨p11, 0, none⟩)), (12, .int .i64 (i : Int)), (13, .int .i64 (j : Int)), (14, .int .i64 (q : Int))] ∧ (a ≤ i ∧ i < a + l) ∧ (a ≤ j ∧ j < a + l) ∧ (a ≤ q ∧ q < a + l) ∧ z ≤ 9 ∧ Junk S [sg blk ty fz M, Hc, swc p11 ti z]) ?_ fun E S ⟨i, j, q, z, hE, hi, hj, hq, hz, hJ⟩ => ?_
    · refine yseq ?_
      refine yregion ?_
      refine yp (pI rfl) ?_
      refine yp (pGe rfl rfl) ?_
      refine ynil ?_
      refine tnorm ?_
      refine ycondD rfl (fun h => ?_) (fun h => ?_)
      · refine yseq ?_
        refine yregion ?_
        refine yp (pS rfl) ?_
        refine yp (pI rfl) ?_
        refine yp (pF rfl) ?_
        refine ycons (ycall (pd_mad (blk := blk) (ty := ty) (cp := cp) (sb := p11) (ti := ti) (z := 0) hma hm ho hl hk hc hM (a := a + l / 4 * 1) (by omega) (by omega) (by omega)) rfl rfl fun r S' h => ?_)
        obtain ⟨i, z1, rfl, h1, h2, hz1, rfl⟩ := h
        refine yp (pI rfl) ?_
        refine ynil ?_
        refine tnorm ?_
        refine yseq ?_
        refine yregion ?_
        refine yp (pS rfl) ?_
        refine yp (pI rfl) ?_
        refine yp (pF rfl) ?_
        refine ycons (ycall (pd_mad (blk := blk) (ty := ty) (cp := cp) (sb := p11) (ti := ti) (z := z1) hma hm ho hl hk hc hM (a := a + l / 4 * 2) (by omega) (by omega) (by omega)) rfl rfl fun r S' h => ?_)
        obtain ⟨j, z2, rfl, h3, h4, hz2, rfl⟩ := h
        refine yp (pI rfl) ?_
        refine ynil ?_
        refine tnorm ?_
        refine yregion ?_
        refine yp (pS rfl) ?_
        refine yp (pI rfl) ?_
        refine yp (pF rfl) ?_
        refine ycons (ycall (pd_mad (blk := blk) (ty := ty) (cp := cp) (sb := p11) (ti := ti) (z := z2) hma hm ho hl hk hc hM (a := a + l / 4 * 3) (by omega) (by omega) (by omega)) rfl rfl fun r S' h => ?_)
        obtain ⟨q, z3, rfl, h5, h6, hz3, rfl⟩ := h
        refine yp (pI rfl) ?_
        refine ynil ?_
        refine tnorm ?_
        exact ⟨i, j, q, z3, ⟨rfl, rfl, rfl, rfl, rfl, rfl, trivial⟩, by omega, by omega, by omega, by omega, .of⟩
      · refine yskip ?_
        refine tnorm ?_
        exact ⟨_, _, _, 0, ⟨rfl, rfl, rfl, rfl, rfl, rfl, trivial⟩, by omega, by omega, by omega, by omega, .of⟩
    obtain ⟨E0, e0⟩ := has_puts hE; subst e0; clear hE
    refine yforget hJ ?_
    refine yregion ?_
    refine yp (pS rfl) ?_
    refine yp (pI rfl) ?_
    refine yp (pI rfl) ?_
    refine yp (pI rfl) ?_
    refine yp (pF rfl) ?_
    refine ycons (ycall (pd_med (blk := blk) (ty := ty) (cp := cp) (sb := p11) (ti := ti) (z := z) hm ho hl hk hc hM (a := i) (b := j) (c := q) (by omega) (by omega) (by omega) (by omega)) rfl rfl fun r S' h => ?_)
    obtain ⟨x, z1, rfl, h1, hz1, rfl⟩ := h
    refine yp (pI rfl) ?_
    refine ynil ?_
    refine tnorm ?_
    exact ⟨x, z1, ⟨rfl, rfl, trivial⟩, by omega, by omega, .of⟩
  obtain ⟨E0, e0⟩ := has_puts hE; subst e0; clear hE
  refine yforget hJ ?_
  refine yseq ?_
  refine yregion ?_
  refine ycons (yload1 rfl rfl ?_)
  refine ynil ?_
  refine tnorm ?_
  refine yblock ?_
  refine yseq ?_
  refine yregion ?_
  refine yp (pEq rfl rfl) ?_
  refine yp (pB rfl) ?_
  refine ynil ?_
  refine tnorm ?_
  refine ycondD rfl (fun h => ?_) (fun h => ?_)
  · refine yseq ?_
    refine yregion ?_
    refine yp (pI rfl) ?_
    refine yp (pI rfl) ?_
    refine yp pC ?_
    refine ynil ?_
    refine tnorm ?_
    refine yret ?_
    refine bret ?_
    exact yfin (rII rfl rfl) ⟨_, .of, j, 1, rfl, hj, hj2, rfl⟩
  · refine yseq ?_
    refine yregion ?_
    refine yp (pEq rfl rfl) ?_
    refine yp (pB rfl) ?_
    refine ynil ?_
    refine tnorm ?_
    refine ycondD rfl (fun h => ?_) (fun h => ?_)
    · refine yseq ?_
      refine yregion ?_
      refine yp (pI rfl) ?_
      refine yp (pI rfl) ?_
      refine yp pC ?_
      refine ynil ?_
      refine tnorm ?_
      refine yret ?_
      refine bret ?_
      exact yfin (rII rfl rfl) ⟨_, .of, j, 2, rfl, hj, hj2, rfl⟩
    · refine yseq ?_
      refine yregion ?_
      refine yp (pI rfl) ?_
      refine yp (pI rfl) ?_
      refine yp pC ?_
      refine ynil ?_
      refine tnorm ?_
      refine yret ?_
      refine bret ?_
      exact yfin (rII rfl rfl) ⟨_, .of, j, 0, rfl, hj, hj2, rfl⟩
theorem pd_rev {f : Nat} (hf : FnX P f 34 #[] (xpRev ld k)) (hl : Ld ld vl) (hk : Enc.k α = k) {cv : Value} {M : List α} (hM : PdM fz ln p M) {a b : Nat} (ha : a < b) (hb : b ≤ ln) :
    Tri P f #[.slice (some ⟨blk, 0, none⟩) ln cp, .int .i64 (a : Int), .int .i64 (b : Int), cv] [sg blk ty fz M] (fun r S => ∃ M', r = .tuple #[] ∧ Sw a b M M' ∧ S = [sg blk ty fz M']) := by
  refine Tri.forget (ycallee hf (Nat.le_of_ble_eq_true rfl) ?_)
  have hlen := hM.len
  have hbig := hM.big
  unfold xpRev
  refine yseq ?_
  refine yregion ?_
  refine yp (pI rfl) ?_
  refine yp (pI rfl) ?_
  refine ynil ?_
  refine tnorm ?_
  refine yseq ?_
  refine yregion ?_
  refine yp (pI rfl) ?_
  refine yp (pDec rfl rfl (by omega)) ?_
  refine yp (pI rfl) ?_
  refine ynil ?_
  refine tnorm ?_
  refine yblock ?_
  refine yloop (σ := Nat) (fun j E S => ∃ i : Nat, Has E [(0, .slice (some ⟨blk, 0, none⟩) ln cp), (8, .int .i64 (i : Int)), (9, .int .i64 (j : Int))] ∧ a ≤ i ∧ i ≤ b ∧ j < b ∧ ∃ N, Sw a b M N ∧ Junk S [sg blk ty fz N]) (fun j => j) (b - 1) ⟨a, ⟨rfl, rfl, rfl, trivial⟩, by omega, by omega, by omega, M, .refl, .of⟩ fun j E S ⟨i, hE, hi, hib, hj, N, hsw, hJ⟩ => ?_
  have hN := hM.sw hsw hb
  have hNl := hsw.len
  have hz := hN.hz
  obtain ⟨E0, e0⟩ := has_puts hE; subst e0; clear hE
  refine yforget hJ ?_
  refine yseq ?_
  refine yseq ?_
  refine yregion ?_
  refine yp (pI rfl) ?_
  refine yp (pI rfl) ?_
  refine yp (pLt rfl rfl) ?_
  refine ynil ?_
  refine tnorm ?_
  refine ycondD rfl (fun h => ?_) (fun h => ?_)
  · refine yskip ?_
    refine tnorm ?_
    refine yblock ?_
    refine yseq ?_
    refine ydraw ?_
    refine ytq (pS rfl) ?_
    refine ytq (pI rfl) ?_
    refine ytq (pS rfl) ?_
    refine ytq (pI rfl) ?_
    refine ytq (pS rfl) ?_
    refine ytq (pI rfl) ?_
    refine ytq (pIxN rfl rfl (by omega)) ?_
    refine ytld hl rfl (by omega) hk ?_
    refine ytq (pS rfl) ?_
    refine ytq (pI rfl) ?_
    refine ytq (pIxN rfl rfl (by omega)) ?_
    refine ytld hl rfl (by omega) hk ?_
    refine ytq (pIxN rfl rfl (by omega)) ?_
    refine ytalt (ystoreE rfl (by omega) hk (hl.cells _) hz ?_) ytno
    refine ytq (pIxN rfl rfl (by omega)) ?_
    refine ytalt (ystoreE2 rfl (by omega) hk (hl.cells _) hz ?_) ytno
    refine ytdone ?_
    refine tnorm ?_
    refine yseq ?_
    refine yregion ?_
    refine yp (pI rfl) ?_
    refine yp (pInc rfl rfl (by omega)) ?_
    refine yp (pI rfl) ?_
    refine ynil ?_
    refine tnorm ?_
    refine yregion ?_
    refine yp (pI rfl) ?_
    refine yp (pDec rfl rfl (by omega)) ?_
    refine yp (pI rfl) ?_
    refine ynil ?_
    refine bnorm ?_
    refine tnorm ?_
    exact ⟨j - 1, ⟨i + 1, ⟨rfl, rfl, rfl, trivial⟩, by omega, by omega, by omega, _, hsw.step (i := i) (j := j) (by omega) (by omega) (by omega) (by omega) (by omega), .of⟩, by omega⟩
  · refine yexit ?_
    refine texit ?_
    refine texit ?_
    refine bexit ?_
    exact yfinN res0 ⟨_, .of, N, rfl, hsw, rfl⟩
theorem pd_brk {f fn fx fl fO f2 tx : Nat} (hf : FnX P f 67 #[] (xpBrk ld k fn fx tx)) (hn : FnX P fn 7 #[.tmp 2] (xpNpt fl)) (h1 : FnX P fl 8 #[.tmp 2] (xpLen fO f2)) (h2 : FnX P f2 25 #[.tmp 2] xpLen64) (hx : FnX P fx 33 #[.tmp 2] xpNxt)
    (hl : Ld ld vl) (hk : Enc.k α = k) {cv : Value} {M : List α} (hM : PdM fz ln p M) {a b : Nat} (ha : a + 8 ≤ b) (hb : b ≤ ln) :
    Tri P f #[.slice (some ⟨blk, 0, none⟩) ln cp, .int .i64 (a : Int), .int .i64 (b : Int), cv] [sg blk ty fz M] (fun r S => ∃ M', r = .tuple #[] ∧ Sw a b M M' ∧ S = [sg blk ty fz M']) := by
  obtain ⟨l, rfl⟩ : ∃ l, b = a + l := ⟨b - a, by omega⟩
  refine Tri.forget (ycallee hf (Nat.le_of_ble_eq_true rfl) ?_)
  have hlen := hM.len
  have hbig := hM.big
  unfold xpBrk
  refine yseq ?_
  refine yregion ?_
  refine yp (pI rfl) ?_
  refine yp (pI rfl) ?_
  refine yp (pSub rfl rfl (by omega)) ?_
  refine yp (pI rfl) ?_
  refine ynil ?_
  refine tnorm ?_
  refine yseq ?_
  refine yregion ?_
  refine yp (pI rfl) ?_
  refine yp (pGe rfl rfl) ?_
  refine ynil ?_
  refine tnorm ?_
  rw [show ((a + l : Nat) : Int) - (a : Int) = (l : Int) from by omega]
  skip
  rw [decide_eq_true (show (8 : Int) ≤ (l : Int) from by omega)]
  refine ycondT rfl ?_
  refine yseq ?_
  refine yregion ?_
  refine yp (pI rfl) ?_
  refine yp (pCvU rfl (by omega)) ?_
  refine ycons (yalloc fun p9 => ?_)
  refine ycons (yst1_0 rfl rfl (scI rfl) ?_)
  refine ynil ?_
  refine tnorm ?_
  refine yseq ?_
  refine yregion ?_
  refine yp (pI rfl) ?_
  refine ycons (ycall (pd_npt hn h1 h2 (m := l) (by omega) (by omega)) rfl rfl fun r S' h => ?_)
  obtain ⟨q, rfl, hq1, hq2, rfl⟩ := h
  refine yp (pI rfl) ?_
  refine ynil ?_
  refine tnorm ?_
  refine yseq ?_
  refine yregion ?_
  refine yp (pI rfl) ?_
  refine yp (pI rfl) ?_
  refine yp (pQuoN (j := l) (k := 4) rfl rfl (by omega) (by omega)) ?_
  refine yp (pMulN (j := l / 4) (k := 2) rfl rfl (by omega)) ?_
  refine yp (pAddN rfl rfl (by omega)) ?_
  refine yp (pDec rfl rfl (by omega)) ?_
  refine yp (pI rfl) ?_
  refine ynil ?_
  refine tnorm ?_
  refine yblock ?_
  refine yloop (σ := Nat) (fun i E S => Has E [(0, .slice (some ⟨blk, 0, none⟩) ln cp), (1, .int .i64 (a : Int)), (8, .int .i64 (l : Int)), (9, .pointer (some ⟨p9, 0, none⟩)), (10, .int .u64 (q : Int)), (11, .int .i64 (i : Int))] ∧ a ≤ i ∧ i ≤ a + l / 4 * 2 + 2 ∧ ∃ N v, Sw a (a + l) M N ∧ Junk S [sg blk ty fz N, [(p9, .cells #[.int .u64 v] tx)]]) (fun i => a + l / 4 * 2 + 2 - i) (a + l / 4 * 2 - 1) ⟨⟨rfl, rfl, rfl, rfl, rfl, rfl, trivial⟩, by omega, by omega, M, (l : Int), .refl, .of⟩ fun i E S ⟨hE, hi, hib, N, v, hsw, hJ⟩ => ?_
  have hN := hM.sw hsw hb
  have hNl := hsw.len
  have hz := hN.hz
  obtain ⟨E0, e0⟩ := has_puts hE; subst e0; clear hE
  refine yforget hJ ?_
  refine yseq ?_
  refine yseq ?_
  refine yregion ?_
  refine yp (pI rfl) ?_
  refine yp (pI rfl) ?_
  refine yp (pI rfl) ?_
  refine yp (pQuoN (j := l) (k := 4) rfl rfl (by omega) (by omega)) ?_
  refine yp (pMulN (j := l / 4) (k := 2) rfl rfl (by omega)) ?_
  refine yp (pAddN rfl rfl (by omega)) ?_
  refine yp (pInc rfl rfl (by omega)) ?_
  refine yp (pLe rfl rfl) ?_
  refine ynil ?_
  refine tnorm ?_
  refine ycondD rfl (fun h => ?_) (fun h => ?_)
  · refine yskip ?_
    refine tnorm ?_
    refine yseq ?_
    refine yblock ?_
    refine yseq ?_
    refine yregion ?_
    refine ycons (ycall (pd_nxt hx (xb := p9) (tx := tx) v) rfl rfl fun r S' h => ?_)
    obtain ⟨v1, rfl, rfl⟩ := h
    refine yp (pI rfl) ?_
    refine yp (pSubU (a := q) (b := 1) rfl rfl (by omega) (by omega)) ?_
    refine ycons (yandN rfl rfl (by omega) fun c hc => ?_)
    refine yp (pCvI rfl (by omega)) ?_
    refine yp (pI rfl) ?_
    refine ynil ?_
    refine tnorm ?_
    refine ycut (fun E S => ∃ o : Nat, Has E [(0, .slice (some ⟨blk, 0, none⟩) ln cp), (1, .int .i64 (a : Int)), (8, .int .i64 (l : Int)), (9, .pointer (some ⟨p9, 0, none⟩)), (10, .int .u64 (q : Int)), (11, .int .i64 (i : Int)), (12, .int .i64 (o : Int))] ∧ o < l ∧ Junk S [sg blk ty fz N, [(p9, .cells #[.int .u64 v1] tx)]]) ?_ fun E S ⟨o, hE, ho, hJ⟩ => ?_
    · refine yseq ?_
      refine yregion ?_
      refine yp (pI rfl) ?_
      refine yp (pI rfl) ?_
      refine yp (pGe rfl rfl) ?_
      refine ynil ?_
      refine tnorm ?_
      refine ycondD rfl (fun h => ?_) (fun h => ?_)
      · refine yregion ?_
        refine yp (pI rfl) ?_
        refine yp (pI rfl) ?_
        refine yp (pSub rfl rfl (by omega)) ?_
        refine yp (pI rfl) ?_
        refine ynil ?_
        refine tnorm ?_
        exact ⟨c - l, ⟨rfl, rfl, rfl, rfl, rfl, rfl, congrArg (Value.int .i64) (by omega), trivial⟩, by omega, .of⟩
      · refine yskip ?_
        refine tnorm ?_
        exact ⟨c, ⟨rfl, rfl, rfl, rfl, rfl, rfl, rfl, trivial⟩, by omega, .of⟩
    obtain ⟨E0, e0⟩ := has_puts hE; subst e0; clear hE
    refine yforget hJ ?_
    refine ydraw ?_
    refine ytq (pS rfl) ?_
    refine ytq (pI rfl) ?_
    refine ytq (pS rfl) ?_
    refine ytq (pI rfl) ?_
    refine ytq (pI rfl) ?_
    refine ytq (pAddN rfl rfl (by omega)) ?_
    refine ytq (pS rfl) ?_
    refine ytq (pI rfl) ?_
    refine ytq (pI rfl) ?_
    refine ytq (pAddN rfl rfl (by omega)) ?_
    refine ytq (pIxN rfl rfl (by omega)) ?_
    refine ytld hl rfl (by omega) hk ?_
    refine ytq (pS rfl) ?_
    refine ytq (pI rfl) ?_
    refine ytq (pIxN rfl rfl (by omega)) ?_
    refine ytld hl rfl (by omega) hk ?_
    refine ytq (pIxN rfl rfl (by omega)) ?_
    refine ytalt (ystoreE rfl (by omega) hk (hl.cells _) hz ?_) ytno
    refine ytq (pIxN rfl rfl (by omega)) ?_
    refine ytalt (ystoreE2 rfl (by omega) hk (hl.cells _) hz ?_) ytno
    refine ytdone ?_
    refine bnorm ?_
    refine tnorm ?_
    refine yregion ?_
    refine yp (pI rfl) ?_
    refine yp (pInc rfl rfl (by omega)) ?_
    refine yp (pI rfl) ?_
    refine ynil ?_
    refine tnorm ?_
    exact ⟨i + 1, ⟨⟨rfl, rfl, rfl, rfl, rfl, rfl, trivial⟩, by omega, by omega, _, v1, hsw.step (i := i) (j := a + o) (by omega) (by omega) (by omega) (by omega) (by omega), .of⟩, by omega⟩
  · refine yexit ?_
    refine texit ?_
    refine texit ?_
    refine bexit ?_
    exact yfinN res0 ⟨_, .of, N, rfl, hsw, rfl⟩
end
end Go.Xs
