/- The arena (chapter 6): what a handle is, Free, Size, part, Read, Write, Handles. -/
import Derived.Test.YtkdbajfaaifkaaaArenaT
import Derived.Test.YtkdbajfaaifkaaaPdq4
namespace Go.Proofs.Ytkdbajfaaifkaaa
open Go.Xs
open Enc (enc)

/-! ### the blocks, plainly -/
def hnd : List (Option Bt) → Nat
  | some _ :: l => hnd l + 1
  | _ => 1
theorem hnd_pos : ∀ D, 1 ≤ hnd D
  | [] => Nat.le_refl _
  | none :: _ => Nat.le_refl _
  | some _ :: l => by unfold hnd; omega
theorem hnd_le : ∀ D : List (Option Bt), hnd D ≤ D.length + 1
  | [] => Nat.le_refl _
  | none :: _ => by simp [hnd]
  | some _ :: l => by have := hnd_le l; simp [hnd]; omega
theorem hnd_some : ∀ (D : List (Option Bt)) (i : Nat), i + 1 < hnd D → ∃ b, D[i]? = some (some b)
  | [], i, h => by simp [hnd] at h
  | none :: _, i, h => by simp [hnd] at h
  | some b :: l, 0, _ => ⟨b, rfl⟩
  | some b :: l, i + 1, h => by
    obtain ⟨c, hc⟩ := hnd_some l i (by simp [hnd] at h; omega)
    exact ⟨c, by simpa using hc⟩
theorem hnd_none : ∀ (D : List (Option Bt)), (D[hnd D - 1]?).join = none
  | [] => rfl
  | none :: _ => rfl
  | some b :: l => by
    have := hnd_none l
    have hp := hnd_pos l
    have e : hnd (some b :: l) - 1 = (hnd l - 1) + 1 := by simp [hnd]; omega
    rw [e, List.getElem?_cons_succ]
    exact this
theorem hnd_uniq {D : List (Option Bt)} {h : Nat} (h1 : 1 ≤ h) (h2 : ∀ i, i + 1 < h → ∃ b, D[i]? = some (some b)) (h3 : (D[h - 1]?).join = none) : h = hnd D := by
  have hp := hnd_pos D
  rcases Nat.lt_trichotomy h (hnd D) with hl | hl | hl
  · obtain ⟨b, hb⟩ := hnd_some D (h - 1) (by omega)
    rw [hb] at h3; cases h3
  · exact hl
  · obtain ⟨b, hb⟩ := h2 (hnd D - 1) (by omega)
    have := hnd_none D
    rw [hb] at this; cases this
theorem usedD_cons (o : Option Bt) (D : List (Option Bt)) : usedD (o :: D) = wgt o + usedD D := by simp [usedD]
theorem usedD_append (D E : List (Option Bt)) : usedD (D ++ E) = usedD D + usedD E := by simp [usedD]
theorem usedD_set : ∀ {D : List (Option Bt)} {i : Nat} {x y : Option Bt}, D[i]? = some x → usedD (D.set i y) + wgt x = usedD D + wgt y
  | [], i, x, y, h => by simp at h
  | o :: D, 0, x, y, h => by
    simp at h; subst h
    rw [List.set_cons_zero, usedD_cons, usedD_cons]; omega
  | o :: D, i + 1, x, y, h => by
    have := usedD_set (D := D) (i := i) (x := x) (y := y) (by simpa using h)
    rw [List.set_cons_succ, usedD_cons, usedD_cons]; omega
theorem usedD_mem {D : List (Option Bt)} {i : Nat} {x : Option Bt} (h : D[i]? = some x) : wgt x ≤ usedD D := by
  have := usedD_set (y := none) h
  simp only [wgt] at this ⊢; omega
theorem dof_get {T : Tab} {i p : Nat} {b : Bt} (h : T[i]? = some (some (p, b))) : (dof T)[i]? = some (some b) := by
  unfold dof; rw [List.getElem?_map, h]; rfl
theorem dof_set (T : Tab) (i : Nat) (x : Option (Nat × Bt)) : dof (T.set i x) = (dof T).set i (x.map Prod.snd) := by unfold dof; rw [List.map_set]
theorem kof_set (T : Tab) (i : Nat) (x : Option (Nat × Bt)) : kof (T.set i x) = (kof T).set i (ent x) := by unfold kof; rw [List.map_set]
theorem set_get {T : Tab} {i j : Nat} {x y : Option (Nat × Bt)} (h : (T.set i x)[j]? = some y) : (j = i ∧ y = x) ∨ (j ≠ i ∧ T[j]? = some y) := by
  rw [List.getElem?_set] at h
  by_cases hij : i = j
  · rw [if_pos hij] at h
    split at h
    · exact .inl ⟨hij.symm, by simpa using h.symm⟩
    · cases h
  · rw [if_neg hij] at h
    exact .inr ⟨fun e => hij e.symm, h⟩
theorem Inv.free {N : Nat} {T : Tab} {B : Bt} {used top i p : Nat} {b : Bt} (h : Inv N T B used top) (hi : T[i]? = some (some (p, b))) : Inv N (T.set i none) B (used - costN b.length) top ∧ costN b.length ≤ used := by
  have hu := usedD_set (y := none) (dof_get hi)
  have hm := usedD_mem (dof_get hi)
  simp only [wgt] at hu hm
  have hs := h.sum
  refine ⟨⟨h.len, h.big, by rw [List.length_set]; exact h.few, by have := h.ut; omega, h.tn, ?_, fun j q c hj => ?_, fun j k q c q' c' hne hj hk => ?_⟩, by omega⟩
  · rw [dof_set]; simp only [Option.map_none]; omega
  · rcases set_get hj with ⟨_, h1⟩ | ⟨_, h1⟩
    · cases h1
    · exact h.inn j q c h1
  · rcases set_get hj with ⟨_, h1⟩ | ⟨_, h1⟩
    · cases h1
    rcases set_get hk with ⟨_, h2⟩ | ⟨_, h2⟩
    · cases h2
    exact h.apart j k q c q' c' hne h1 h2
/-- a block's bytes change -/
theorem Inv.bytes {N : Nat} {T : Tab} {B B' : Bt} {used top i p : Nat} {b b' : Bt} (h : Inv N T B used top) (hi : T[i]? = some (some (p, b))) (hl : b'.length = b.length) (hB : B'.length = B.length)
    (hout : ∀ x, (x < p + 8 ∨ p + 8 + b.length ≤ x) → B'[x]? = B[x]?) (hin : ∀ x, x < b.length → B'[p + 8 + x]? = b'[x]?) : Inv N (T.set i (some (p, b'))) B' used top := by
  have hu := usedD_set (y := some b') (dof_get hi)
  simp only [wgt, hl] at hu
  obtain ⟨h4, hpt, _⟩ := h.inn i p b hi
  have hc := (costN_is b.length h4).2.1
  refine ⟨by rw [hB]; exact h.len, h.big, by rw [List.length_set]; exact h.few, h.ut, h.tn, ?_, fun j q c hj => ?_, fun j k q c q' c' hne hj hk => ?_⟩
  · rw [dof_set, h.sum]; simp only [Option.map_some]; omega
  · rcases set_get hj with ⟨_, h1⟩ | ⟨hne, h1⟩
    · obtain ⟨rfl, rfl⟩ : q = p ∧ c = b' := by simpa using h1
      rw [hl]
      exact ⟨h4, hpt, hin⟩
    · obtain ⟨h5, h6, h7⟩ := h.inn j q c h1
      have hc2 := (costN_is c.length h5).2.1
      have := h.apart i j p b q c (fun e => hne e.symm) hi h1
      exact ⟨h5, h6, fun x hx => by rw [hout _ (by omega)]; exact h7 x hx⟩
  · rcases set_get hj with ⟨hji, h1⟩ | ⟨hji, h1⟩ <;> rcases set_get hk with ⟨hki, h2⟩ | ⟨hki, h2⟩
    · omega
    · obtain ⟨rfl, rfl⟩ : q = p ∧ c = b' := by simpa using h1
      rw [hl]; exact h.apart i k q b q' c' (fun e => hki e.symm) hi h2
    · obtain ⟨rfl, rfl⟩ : q' = p ∧ c' = b' := by simpa using h2
      rw [hl]; exact h.apart j i q c q' b hji h1 hi
    · exact h.apart j k q c q' c' hne h1 h2

/-! ### the whole arena, as one piece of memory -/
def Ar (ab : Nat) (N : Nat) (D : List (Option Bt)) (H : List Chunk) : Prop :=
  ∃ (bb : Nat) (kv : Value) (HK : List Chunk) (T : Tab) (B : Bt) (used top : Nat), Inv N T B used top ∧ dof T = D ∧ Slc 89 kv (kof T) HK ∧
    H = aseg ab (.slice (some ⟨bb, 0, none⟩) N N) kv (used : Int) (top : Int) ++ bch bb B ++ HK

theorem Inv.tlen {N : Nat} {T : Tab} {B : Bt} {used top : Nat} (h : Inv N T B used top) : (kof T).length < 2 ^ 40 := by
  have := h.few; have := h.big; rw [kof_len]; omega

theorem Ar.used_le {ab N : Nat} {D : List (Option Bt)} {H : List Chunk} (h : Ar ab N D H) : usedD D ≤ N ∧ 1024 ≤ N ∧ N ≤ 1048576 ∧ D.length * 16 ≤ N := by
  obtain ⟨bb, kv, HK, T, B, used, top, hI, rfl, hK, rfl⟩ := h
  have := hI.sum; have := hI.ut; have := hI.tn; have := hI.big; have := hI.few
  refine ⟨by omega, by omega, by omega, by rw [dof_len]; omega⟩

theorem arNewA {n : Nat} (hn : 1024 ≤ n ∧ n ≤ 1048576) {z : Int} (hz : z = n) : Tri Try.prog 15 #[.int .i64 z] [] (fun r S => ∃ ab H, r = .tuple #[.pointer (some ⟨ab, 0, none⟩), .int .i64 0] ∧ Ar ab n [] H ∧ S = [H]) := by
  refine Tri.forget ((arNew hn hz).mono fun r S h => ?_)
  obtain ⟨ab, bb, rfl, rfl⟩ := h
  refine ⟨[_ ++ _ ++ []], Junk.join3 (c := []), ab, _, rfl, ⟨bb, .slice none 0 0, [], [], List.replicate n 0, 0, 0, ⟨by simp, hn, by simp, Nat.le_refl _, Nat.zero_le _, rfl, fun i p b h => by simp at h, fun i j p b q c _ h => by simp at h⟩, rfl, .nil, rfl⟩, rfl⟩

theorem arUsedA {ab N : Nat} {D : List (Option Bt)} {H : List Chunk} (hA : Ar ab N D H) : Tri Try.prog 31 #[.pointer (some ⟨ab, 0, none⟩)] [H] (fun r S => r = .int .i64 (usedD D : Nat) ∧ S = [H]) := by
  obtain ⟨bb, kv, HK, T, B, used, top, hI, rfl, hK, rfl⟩ := hA
  refine Tri.forget (Tri.split3 ((arUsed.frame [bch bb B, HK]).mono fun r S h => ?_))
  obtain ⟨S', rfl, rfl, rfl⟩ := h
  exact ⟨_, Junk.join3, by rw [hI.sum], rfl⟩
theorem arBudgetA {ab N : Nat} {D : List (Option Bt)} {H : List Chunk} (hA : Ar ab N D H) : Tri Try.prog 63 #[.pointer (some ⟨ab, 0, none⟩)] [H] (fun r S => r = .int .i64 (N : Int) ∧ S = [H]) := by
  obtain ⟨bb, kv, HK, T, B, used, top, hI, rfl, hK, rfl⟩ := hA
  refine Tri.forget (Tri.split3 (((arBudget (B := B) (H := bch bb B) ?_).frame [bch bb B, HK]).mono fun r S h => ?_))
  · rw [← hI.len]; exact Slc.full rfl
  obtain ⟨S', rfl, rfl, rfl⟩ := h
  exact ⟨_, Junk.join3, by rw [hI.len], rfl⟩
theorem arLeftA {ab N : Nat} {D : List (Option Bt)} {H : List Chunk} (hA : Ar ab N D H) : Tri Try.prog 30 #[.pointer (some ⟨ab, 0, none⟩)] [H] (fun r S => r = .int .i64 ((N - usedD D : Nat) : Int) ∧ S = [H]) := by
  have hle := hA.used_le
  refine Tri.forget (ycallee Try.fx30 (Nat.le_of_ble_eq_true rfl) ?_)
  unfold Try.x30
  refine yseq ?_
  refine yregion ?_
  refine yp pC ?_
  refine ynil ?_
  refine tnorm ?_
  refine yseq ?_
  refine yregion ?_
  refine yp (pP rfl) ?_
  refine ycons (ycall (arBudgetA hA) rfl rfl fun r S' h => ?_)
  obtain ⟨rfl, rfl⟩ := h
  refine yp (pP rfl) ?_
  refine ycons (ycall (arUsedA hA) rfl rfl fun r S' h => ?_)
  obtain ⟨rfl, rfl⟩ := h
  refine yp (pSub rfl rfl (by omega)) ?_
  refine yp (pI rfl) ?_
  refine ynil ?_
  refine tnorm ?_
  refine yret ?_
  exact yfin (rI rfl) ⟨_, .of, congrArg (Value.int .i64) (by omega), rfl⟩

theorem arHandle {ab : Nat} {bv kv : Value} {used top : Int} {T : Tab} {HK : List Chunk} (hK : Slc 89 kv (kof T) HK) (hlen : (kof T).length < 2 ^ 40) :
    Tri Try.prog 50 #[.pointer (some ⟨ab, 0, none⟩)] [aseg ab bv kv used top, HK] (fun r S => r = .int .i64 (hnd (dof T) : Nat) ∧ S = [aseg ab bv kv used top, HK]) := by
  refine Tri.forget (ycallee Try.fx50 (Nat.le_of_ble_eq_true rfl) ?_)
  unfold Try.x50
  refine yseq ?_
  refine yregion ?_
  refine yp pC ?_
  refine ynil ?_
  refine tnorm ?_
  refine yseq ?_
  refine yregion ?_
  refine yp pC ?_
  refine ynil ?_
  refine tnorm ?_
  refine yseq ?_
  refine yblock ?_
  refine yloop (σ := Nat) (fun h E S => Has E [(0, .pointer (some ⟨ab, 0, none⟩)), (3, .int .i64 (h : Int))] ∧ 1 ≤ h ∧ h ≤ T.length + 1 ∧ (∀ i, i + 1 < h → ∃ b, (dof T)[i]? = some (some b)) ∧ Junk S [aseg ab bv kv used top, HK]) (fun h => T.length + 1 - h) 1 ⟨⟨rfl, rfl, trivial⟩, Nat.le_refl _, by omega, fun i h => by omega, .self⟩ fun h E S ⟨hE, h1, h2, h3, hJ⟩ => ?_
  rw [kof_len] at hlen
  obtain ⟨E0, e0⟩ := has_puts hE; subst e0; clear hE
  refine yforget hJ ?_
  refine yseq ?_
  refine yseq ?_
  refine yregion ?_
  refine yp (pP rfl) ?_
  refine yp (pI rfl) ?_
  refine ycons (ycall (arThere (ab := ab) (bv := bv) (used := used) (top := top) hK (by rw [kof_len]; exact hlen) (h : Int)) rfl rfl fun r S' h => ?_)
  obtain ⟨rfl, rfl⟩ := h
  rw [thr_kof]
  have hg : getB (dof T) (h : Int) = ((dof T)[h - 1]?).join := by
    unfold getB
    rw [if_pos (by omega), show ((h : Int) - 1).toNat = h - 1 from by omega]
  cases hb : getB (dof T) (h : Int) with
  | none =>
    refine ynil ?_
    refine tnorm ?_
    refine ycondF rfl ?_
    refine yexit ?_
    refine texit ?_
    refine texit ?_
    refine bexit ?_
    refine tnorm ?_
    refine yseq ?_
    refine yregion ?_
    refine yp (pI rfl) ?_
    refine yp (pI rfl) ?_
    refine ynil ?_
    refine tnorm ?_
    refine yret ?_
    refine yfin (rI rfl) ⟨_, .of, ?_, rfl⟩
    rw [hb] at hg
    rw [← hnd_uniq h1 h3 hg.symm]
  | some b =>
    obtain ⟨i, p, hi, ht⟩ := getB_some hb
    have hlt := (List.getElem?_eq_some_iff.1 ht).1
    refine ynil ?_
    refine tnorm ?_
    refine ycondT rfl ?_
    refine yskip ?_
    refine tnorm ?_
    refine yblock ?_
    refine yregion ?_
    refine yp (pI rfl) ?_
    refine yp (pInc rfl rfl (by omega)) ?_
    refine yp (pI rfl) ?_
    refine ynil ?_
    refine bnorm ?_
    refine tnorm ?_
    refine ⟨h + 1, ⟨⟨rfl, rfl, trivial⟩, by omega, by omega, fun j hj => ?_, .of⟩, by omega⟩
    by_cases hjh : j + 1 < h
    · exact h3 j hjh
    · have : j = i := by omega
      rw [this]; exact ⟨b, dof_get ht⟩

def freeR (D : List (Option Bt)) (h : Int) : Int := if (getB D h).isSome then 0 else 5
def freeD (D : List (Option Bt)) (h : Int) : List (Option Bt) := if (getB D h).isSome then D.set (h - 1).toNat none else D
theorem cost_len {b : Bt} (h : b.length ≤ 4096) : cost (b.length : Int) = (costN b.length : Nat) := by
  unfold cost; rw [if_neg (by omega), Int.toNat_natCast]
theorem arFree {ab N : Nat} {D : List (Option Bt)} {H : List Chunk} (hA : Ar ab N D H) (h : Int) :
    Tri Try.prog 22 #[.pointer (some ⟨ab, 0, none⟩), .int .i64 h] [H] (fun r S => r = .int .i64 (freeR D h) ∧ ∃ H', Ar ab N (freeD D h) H' ∧ S = [H']) := by
  obtain ⟨bb, kv, HK, T, B, used, top, hI, rfl, hK, rfl⟩ := hA
  refine Tri.split3 (Tri.forget (ycallee Try.fx22 (Nat.le_of_ble_eq_true rfl) ?_))
  unfold Try.x22
  have hl := hI.tlen
  have hbig := hI.big
  have hut := hI.ut
  have htn := hI.tn
  refine yseq ?_
  refine yregion ?_
  refine yp pC ?_
  refine ynil ?_
  refine tnorm ?_
  refine yseq ?_
  refine yseq ?_
  refine yregion ?_
  refine yp (pP rfl) ?_
  refine yp (pI rfl) ?_
  refine ycons (ycall (arThere (ab := ab) (bv := .slice (some ⟨bb, 0, none⟩) N N) (used := (used : Int)) (top := (top : Int)) hK hl h) rfl rfl fun r S' h => ?_)
  obtain ⟨rfl, rfl⟩ := h
  rw [thr_kof]
  unfold freeR freeD
  cases hb : getB (dof T) h with
  | none =>
    refine yp (pNot rfl) ?_
    refine ynil ?_
    refine tnorm ?_
    refine ycondT rfl ?_
    refine yseq ?_
    refine yregion ?_
    refine yp pC ?_
    refine ynil ?_
    refine tnorm ?_
    refine yret ?_
    refine tret ?_
    exact yfin (rI rfl) ⟨_, Junk.join3, rfl, _, ⟨bb, kv, HK, T, B, used, top, hI, rfl, hK, rfl⟩, rfl⟩
  | some b =>
    obtain ⟨i, p, rfl, ht⟩ := getB_some hb
    obtain ⟨hI2, hcu⟩ := hI.free ht
    obtain ⟨h4, _, _⟩ := hI.inn i p b ht
    have hk := kof_get ht
    obtain ⟨hlt, hge⟩ := List.getElem?_eq_some_iff.1 hk
    obtain ⟨a, c, rfl⟩ := hK.isSlice
    obtain ⟨b2, sp, fz, hz, rfl, _, rfl, rfl⟩ := hK.at' (by intro h; simp [h] at hlt)
    refine yp (pNot rfl) ?_
    refine ynil ?_
    refine tnorm ?_
    refine ycondF rfl ?_
    refine yskip ?_
    refine tnorm ?_
    refine yseq ?_
    refine ydraw ?_
    refine ytq (pP rfl) ?_
    refine ytq (pNilc rfl) ?_
    refine ytq (pFadr rfl) ?_
    refine ytl1 rfl rfl ?_
    refine ytq (pP rfl) ?_
    refine ytq (pNilc rfl) ?_
    refine ytq (pFadr rfl) ?_
    refine ytl1 rfl rfl ?_
    refine ytq (pI rfl) ?_
    refine ytq (pSub rfl rfl (by omega)) ?_
    rw [show ((i : Int) + 1 - 1) = (i : Int) from by omega]
    refine ytq (pIxN rfl rfl (by omega)) ?_
    refine ytq (pFadr rfl) ?_
    refine ytl1 (v := .int .i64 ((b.length : Nat) : Int)) rfl ((row_cell (kk := 2) (j := 1) hlt rfl (by omega)).trans (by rw [hge]; rfl)) ?_
    refine ytaltC (ycall (arCost _) rfl rfl fun r S' h => ?_) ytno
    obtain ⟨rfl, rfl⟩ := h
    refine ⟨by simp, ?_⟩
    rw [cost_len h4]
    refine ytq (pSub rfl rfl (by omega)) ?_
    refine ytq (pNilc rfl) ?_
    refine ytq (pFadr rfl) ?_
    rw [show ((used : Int) - (costN b.length : Nat)) = ((used - costN b.length : Nat) : Int) from by omega]
    refine ytalt (yst4_2 rfl rfl (scI rfl) ?_) ytno
    refine ytdone ?_
    refine tnorm ?_
    refine yseq ?_
    refine yregion ?_
    refine yp (pP rfl) ?_
    refine yp (pNilc rfl) ?_
    refine yp (pFadr rfl) ?_
    refine ycons (yload1 rfl rfl ?_)
    refine yp (pI rfl) ?_
    refine yp (pSub rfl rfl (by omega)) ?_
    refine yp pBuild0 ?_
    rw [show ((i : Int) + 1 - 1) = (i : Int) from by omega]
    refine yp (pIxN rfl rfl (by omega)) ?_
    refine ycons (ystoreE (y := ((0 : Int), (0 : Int))) rfl (by simp; omega) rfl rfl hz ?_)
    have hK2 : Slc 89 (.slice (some ⟨b2, 0, none⟩) (kof T).length ((kof T).length + sp.length)) _ _ := Slc.setRow (ty := 89) (b := b2) (y := ((0 : Int), (0 : Int))) hz hlt rfl
    generalize ([(b2, Obj.cells (cells ((kof T ++ sp).set i ((0 : Int), (0 : Int)))).toArray 89 fz)] : List Chunk) = HK2 at hK2 ⊢
    generalize (Value.slice (some ⟨b2, 0, none⟩) (kof T).length ((kof T).length + sp.length)) = kv at hK2 ⊢
    refine ynil ?_
    refine tnorm ?_
    refine yseq ?_
    refine yregion ?_
    refine yp pC ?_
    refine ynil ?_
    refine tnorm ?_
    refine yret ?_
    exact yfin (rI rfl) ⟨[aseg ab (.slice (some ⟨bb, 0, none⟩) N N) kv ((used - costN b.length : Nat) : Int) (top : Int) ++ bch bb B ++ HK2], Junk.join3, rfl, _, ⟨bb, kv, HK2, T.set i none, B, used - costN b.length, top, hI2, by rw [dof_set]; rfl, by rw [kof_set]; exact hK2, rfl⟩, rfl⟩
def sizeR (D : List (Option Bt)) (h : Int) : Int × Bool := match getB D h with | some b => (b.length, true) | none => (0, false)
theorem arSize {ab N : Nat} {D : List (Option Bt)} {H : List Chunk} (hA : Ar ab N D H) (h : Int) :
    Tri Try.prog 32 #[.pointer (some ⟨ab, 0, none⟩), .int .i64 h] [H] (fun r S => r = .tuple #[.int .i64 (sizeR D h).1, .bool (sizeR D h).2] ∧ S = [H]) := by
  obtain ⟨bb, kv, HK, T, B, used, top, hI, rfl, hK, rfl⟩ := hA
  refine Tri.split3 (Tri.forget (ycallee Try.fx32 (Nat.le_of_ble_eq_true rfl) ?_))
  unfold Try.x32
  refine yseq ?_
  refine yregion ?_
  refine yp pC ?_
  refine yp pC ?_
  refine ynil ?_
  refine tnorm ?_
  refine yseq ?_
  refine yseq ?_
  refine yregion ?_
  refine yp (pP rfl) ?_
  refine yp (pI rfl) ?_
  refine ycons (ycall (arThere (ab := ab) (bv := .slice (some ⟨bb, 0, none⟩) N N) (used := (used : Int)) (top := (top : Int)) hK hI.tlen h) rfl rfl fun r S' h => ?_)
  obtain ⟨rfl, rfl⟩ := h
  rw [thr_kof]
  unfold sizeR
  cases hb : getB (dof T) h with
  | none =>
    refine yp (pNot rfl) ?_
    refine ynil ?_
    refine tnorm ?_
    refine ycondT rfl ?_
    refine yseq ?_
    refine yregion ?_
    refine yp pC ?_
    refine yp pC ?_
    refine ynil ?_
    refine tnorm ?_
    refine yret ?_
    refine tret ?_
    exact yfin (rIB rfl rfl) ⟨_, Junk.join3, rfl, rfl⟩
  | some b =>
    obtain ⟨i, p, rfl, ht⟩ := getB_some hb
    have hl := hI.tlen
    have hk := kof_get ht
    obtain ⟨hlt, hge⟩ := List.getElem?_eq_some_iff.1 hk
    obtain ⟨a, c, rfl⟩ := hK.isSlice
    obtain ⟨b2, sp, fz, hz, rfl, _, rfl, rfl⟩ := hK.at' (by intro h; simp [h] at hlt)
    refine yp (pNot rfl) ?_
    refine ynil ?_
    refine tnorm ?_
    refine ycondF rfl ?_
    refine yskip ?_
    refine tnorm ?_
    refine yseq ?_
    refine yregion ?_
    refine yp (pP rfl) ?_
    refine yp (pNilc rfl) ?_
    refine yp (pFadr rfl) ?_
    refine ycons (yload1 rfl rfl ?_)
    refine yp (pI rfl) ?_
    refine yp (pSub rfl rfl (by omega)) ?_
    rw [show ((i : Int) + 1 - 1) = (i : Int) from by omega]
    refine yp (pIxN rfl rfl (by omega)) ?_
    refine yp (pFadr rfl) ?_
    refine ycons (yload1 (v := .int .i64 ((b.length : Nat) : Int)) rfl ((row_cell (kk := 2) (j := 1) hlt rfl (by omega)).trans (by rw [hge]; rfl)) ?_)
    refine yp (pI rfl) ?_
    refine yp pC ?_
    refine ynil ?_
    refine tnorm ?_
    refine yret ?_
    exact yfin (rIB rfl rfl) ⟨_, Junk.join3, rfl, rfl⟩
end Go.Proofs.Ytkdbajfaaifkaaa
