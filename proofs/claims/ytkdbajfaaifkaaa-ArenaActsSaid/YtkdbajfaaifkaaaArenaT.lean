/- The arena (chapter 6): its memory, and the functions that touch it. -/
import Derived.Test.YtkdbajfaaifkaaaArena
namespace Go.Proofs.Ytkdbajfaaifkaaa
open Go.Xs
open Enc (enc)

abbrev Bt := List UInt8
abbrev Tab := List (Option (Nat × Bt))
def ent : Option (Nat × Bt) → Int × Int
  | none => (0, 0)
  | some (p, b) => ((p : Int) + 8, ((b.length : Nat) : Int))
def kof (T : Tab) : List (Int × Int) := T.map ent
def dof (T : Tab) : List (Option Bt) := T.map (Option.map Prod.snd)
def wgt : Option Bt → Nat
  | none => 0
  | some b => costN b.length
def usedD (D : List (Option Bt)) : Nat := (D.map wgt).sum
structure Inv (N : Nat) (T : Tab) (B : Bt) (used top : Nat) : Prop where
  len : B.length = N
  big : 1024 ≤ N ∧ N ≤ 1048576
  few : T.length * 16 ≤ N
  ut : used ≤ top
  tn : top ≤ N
  sum : used = usedD (dof T)
  inn : ∀ (i p : Nat) (b : Bt), T[i]? = some (some (p, b)) → b.length ≤ 4096 ∧ p + costN b.length ≤ top ∧ ∀ x, x < b.length → B[p + 8 + x]? = b[x]?
  apart : ∀ (i j p : Nat) (b : Bt) (q : Nat) (c : Bt), i ≠ j → T[i]? = some (some (p, b)) → T[j]? = some (some (q, c)) → p + costN b.length ≤ q ∨ q + costN c.length ≤ p
/-- what a handle's block holds -/
def getB (D : List (Option Bt)) (h : Int) : Option Bt := if 1 ≤ h then (D[(h - 1).toNat]?).join else none
theorem thr_kof (T : Tab) (h : Int) : thr (kof T) h = (getB (dof T) h).isSome := by
  unfold thr getB kof dof
  by_cases h1 : 1 ≤ h
  · rw [decide_eq_true h1, if_pos h1, Bool.true_and, List.getElem?_map, List.getElem?_map]
    cases T[(h - 1).toNat]? with
    | none => rfl
    | some e =>
      cases e with
      | none => rfl
      | some x => obtain ⟨p, b⟩ := x; simp [ent]; omega
  · rw [decide_eq_false h1, if_neg h1]; rfl
theorem getB_some {T : Tab} {h : Int} {b : Bt} (hg : getB (dof T) h = some b) : ∃ (i p : Nat), h = (i : Int) + 1 ∧ T[i]? = some (some (p, b)) := by
  unfold getB dof at hg
  split at hg
  · next h1 =>
    refine ⟨(h - 1).toNat, ?_⟩
    rw [List.getElem?_map] at hg
    cases ht : T[(h - 1).toNat]? with
    | none => rw [ht] at hg; simp at hg
    | some e =>
      rw [ht] at hg
      cases e with
      | none => simp at hg
      | some x => obtain ⟨p, c⟩ := x; simp at hg; subst hg; exact ⟨p, by omega, rfl⟩
  · cases hg
theorem getB_at (T : Tab) (i : Nat) : getB (dof T) ((i : Int) + 1) = ((dof T)[i]?).join := by
  unfold getB
  rw [if_pos (by omega), show ((i : Int) + 1 - 1).toNat = i from by omega]
theorem kof_get {T : Tab} {i p : Nat} {b : Bt} (h : T[i]? = some (some (p, b))) : (kof T)[i]? = some ((p : Int) + 8, ((b.length : Nat) : Int)) := by
  unfold kof
  rw [List.getElem?_map, h]; rfl
theorem kof_len (T : Tab) : (kof T).length = T.length := by unfold kof; simp
theorem dof_len (T : Tab) : (dof T).length = T.length := by unfold dof; simp

abbrev bch (bb : Nat) (B : Bt) : List Chunk := [(bb, .cells (cells B).toArray 5)]

theorem u8val (z : Int) : ∃ b : UInt8, IntKind.u8.wrap z = (b.toNat : Int) := by
  refine ⟨UInt8.ofNat (z % 256).toNat, ?_⟩
  have : IntKind.u8.wrap z = z % 256 := by simp [IntKind.wrap, IntKind.signed, IntKind.bits]
  rw [this]
  have h : (UInt8.ofNat (z % 256).toNat).toNat = (z % 256).toNat := by simp; omega
  rw [h]; omega
theorem pShrX {E : Env} {x y : Operand} {k : IntKind} {k' : IntKind} {a b : Int} (h1 : ev E x = .int k a) (h2 : ev E y = .int k' b) (hb : 0 ≤ b) : pstep (ev E) (.bin .shr x y) = some (.int k (a.fdiv (2 ^ (Nat.min b.toNat k.bits)))) := by
  simp [pstep, h1, h2, xbin, xint, show ¬ b < 0 from by omega]
theorem pCv8 {E : Env} {x : Operand} {k : IntKind} {a : Int} (h1 : ev E x = .int k a) : pstep (ev E) (.conv .u8 x) = some (.int .u8 (IntKind.u8.wrap a)) := by
  simp [pstep, h1]

theorem Slc.setRow {α : Type} [Enc α] {ty b c : Nat} {K sp : List α} {fz : Nat × Nat} {i : Nat} {y : α} (hz : FzOk fz (cells (K ++ sp)).length) (hi : i < K.length) (hc : c = K.length + sp.length) :
    Slc ty (.slice (some ⟨b, 0, none⟩) K.length c) (K.set i y) [(b, .cells (cells ((K ++ sp).set i y)).toArray ty fz)] := by
  subst hc
  rw [List.set_append_left _ _ hi]
  have := Slc.row (ty := ty) (b := b) (L := K.set i y) (sp := sp) (fz := fz) (by rw [cells_length] at hz ⊢; simpa using hz)
  simpa using this

/-- the bytes of a block -/
theorem arData {ab bb N : Nat} {kv : Value} {used top : Int} {K : List (Int × Int)} {HK : List Chunk} (hK : Slc 89 kv K HK) {h : Int} {i q n : Nat} (hh : h = (i : Int) + 1) (hi : K[i]? = some ((q : Int), (n : Int))) (hq : q + n ≤ N) (hN : N < 2 ^ 40) (hl : K.length < 2 ^ 40) :
    Tri Try.prog 52 #[.pointer (some ⟨ab, 0, none⟩), .int .i64 h] [aseg ab (.slice (some ⟨bb, 0, none⟩) N N) kv used top, HK]
      (fun r S => r = .slice (some ⟨bb, if n = 0 then 0 else q, none⟩) n n ∧ S = [aseg ab (.slice (some ⟨bb, 0, none⟩) N N) kv used top, HK]) := by
  subst hh
  refine Tri.forget (ycallee Try.fx52 (Nat.le_of_ble_eq_true rfl) ?_)
  unfold Try.x52
  obtain ⟨a, c, rfl⟩ := hK.isSlice
  obtain ⟨hlt, hge⟩ := List.getElem?_eq_some_iff.1 hi
  obtain ⟨b2, sp, fz, hz, rfl, _, rfl, rfl⟩ := hK.at' (by intro h; simp [h] at hlt)
  refine yseq ?_
  refine yregion ?_
  refine yp pC ?_
  refine ynil ?_
  refine tnorm ?_
  refine yseq ?_
  refine yregion ?_
  refine yp (pP rfl) ?_
  refine yp (pNilc rfl) ?_
  refine yp (pFadr rfl) ?_
  refine ycons (yload1 rfl rfl ?_)
  refine yp (pI rfl) ?_
  refine yp (pSub rfl rfl (by omega)) ?_
  rw [show ((i : Int) + 1 - 1) = (i : Int) from by omega]
  refine yp (pIxN rfl rfl (by omega)) ?_
  refine ycons (yloadN (l := enc K[i]) rfl (row_elem hlt rfl) rfl ?_)
  rw [hge]
  refine ycons (yalloc fun p5 => ?_)
  refine ycons (ystAll (c' := [.int .i64 (q : Int), .int .i64 (n : Int)]) rfl rfl rfl rfl rfl ?_)
  refine ynil ?_
  refine tnorm ?_
  refine yseq ?_
  refine ydraw ?_
  refine ytq (pP rfl) ?_
  refine ytq (pNilc rfl) ?_
  refine ytq (pFadr rfl) ?_
  refine ytl1 rfl rfl ?_
  refine ytq (pFadr rfl) ?_
  refine ytl1 rfl rfl ?_
  refine ytq (pFadr rfl) ?_
  refine ytl1 rfl rfl ?_
  refine ytq (pFadr rfl) ?_
  refine ytl1 rfl rfl ?_
  refine ytq (pAddN rfl rfl (by omega)) ?_
  refine ytq (pFadr rfl) ?_
  refine ytl1 rfl rfl ?_
  refine ytq (pFadr rfl) ?_
  refine ytl1 rfl rfl ?_
  refine ytq (pAddN rfl rfl (by omega)) ?_
  refine ytq (pSl3 rfl rfl rfl rfl (by omega)) ?_
  rw [show q + n - q = n from by omega]
  have e : (if q + n = q then 0 else 0 + q * 1) = (if n = 0 then 0 else q) := by
    by_cases h : n = 0
    · subst h; simp
    · rw [if_neg h, if_neg (by omega)]; omega
  rw [e]
  refine ytq (pS rfl) ?_
  refine ytdone ?_
  refine tnorm ?_
  refine yret ?_
  exact yfin (rS rfl) ⟨_, .of, rfl, rfl⟩

/-- a new block behind all others -/
theorem arPut {ab bb N : Nat} {kv : Value} {used top : Nat} {K : List (Int × Int)} {HK : List Chunk} {B : Bt} (hK : Slc 89 kv K HK) {h : Int} {i n : Nat} (hh : h = (i : Int) + 1) (hi : i < K.length) (hn : n ≤ 4096) (ht : top + costN n ≤ N) (hut : used ≤ top) (hB : B.length = N) (hN : N < 2 ^ 40) (hl : K.length < 2 ^ 40) :
    Tri Try.prog 51 #[.pointer (some ⟨ab, 0, none⟩), .int .i64 h, .int .i64 (n : Int)] [aseg ab (.slice (some ⟨bb, 0, none⟩) N N) kv (used : Int) (top : Int), bch bb B, HK]
      (fun r S => r = .tuple #[] ∧ ∃ (B' : Bt) (HK' : List Chunk), B'.length = N ∧ (∀ x, (x < top ∨ top + 8 ≤ x) → B'[x]? = B[x]?) ∧ Slc 89 kv (K.set i ((top : Int) + 8, (n : Int))) HK' ∧
        S = [aseg ab (.slice (some ⟨bb, 0, none⟩) N N) kv ((used + costN n : Nat) : Int) ((top + costN n : Nat) : Int), bch bb B', HK']) := by
  subst hh
  have hcn := costN_is n hn
  refine Tri.forget (ycallee Try.fx51 (Nat.le_of_ble_eq_true rfl) ?_)
  unfold Try.x51
  obtain ⟨a, c, rfl⟩ := hK.isSlice
  obtain ⟨b2, sp, fz, hz, rfl, _, rfl, rfl⟩ := hK.at' (by intro h; simp [h] at hi)
  refine yseq ?_
  refine ydraw ?_
  refine ytq (pP rfl) ?_
  refine ytq (pNilc rfl) ?_
  refine ytq (pFadr rfl) ?_
  refine ytl1 rfl rfl ?_
  refine ytq (pI rfl) ?_
  refine ytq (pSub rfl rfl (by omega)) ?_
  refine ytq (pP rfl) ?_
  refine ytq (pNilc rfl) ?_
  refine ytq (pFadr rfl) ?_
  refine ytl1 rfl rfl ?_
  refine ytq (pAdd rfl rfl (by omega)) ?_
  refine ytq (pI rfl) ?_
  refine ytq (pBuild2 (scI rfl) (scI rfl)) ?_
  rw [show ((i : Int) + 1 - 1) = (i : Int) from by omega]
  refine ytq (pIxN rfl rfl (by omega)) ?_
  refine ytalt (ystoreE (y := ((top : Int) + 8, (n : Int))) rfl (by simp; omega) rfl rfl hz ?_) ytno
  have hK2 : Slc 89 (.slice (some ⟨b2, 0, none⟩) K.length (K.length + sp.length)) _ _ := Slc.setRow (ty := 89) (b := b2) (y := ((top : Int) + 8, (n : Int))) hz hi rfl
  generalize ([(b2, Obj.cells (cells ((K ++ sp).set i ((top : Int) + 8, (n : Int)))).toArray 89 fz)] : List Chunk) = HK2 at hK2 ⊢
  generalize (Value.slice (some ⟨b2, 0, none⟩) K.length (K.length + sp.length)) = kv at hK2 ⊢
  refine ytdone ?_
  refine tnorm ?_
  refine yseq ?_
  refine yseq ?_
  refine yregion ?_
  refine yp pC ?_
  refine ynil ?_
  refine tnorm ?_
  refine yblock ?_
  refine yloop (σ := Nat) (fun j E S => Has E [(0, .pointer (some ⟨ab, 0, none⟩)), (1, .int .i64 ((i : Int) + 1)), (2, .int .i64 n), (21, .int .i64 j)] ∧ j ≤ 4 ∧ ∃ B' : Bt, B'.length = N ∧ (∀ x, (x < top ∨ top + 8 ≤ x) → B'[x]? = B[x]?) ∧
      Junk S [aseg ab (.slice (some ⟨bb, 0, none⟩) N N) kv (used : Int) (top : Int), bch bb B', HK2]) (fun j => 4 - j) 0 ⟨⟨rfl, rfl, rfl, rfl, trivial⟩, Nat.zero_le _, B, hB, fun _ _ => rfl, .of⟩ fun j E S ⟨hE, hj, B1, hB1, hx, hJ⟩ => ?_
  obtain ⟨E0, e0⟩ := has_puts hE; subst e0; clear hE
  refine yforget hJ ?_
  refine yseq ?_
  refine yregion ?_
  refine yp (pLt rfl rfl) ?_
  refine ynil ?_
  refine tnorm ?_
  refine yseq ?_
  refine ycondD rfl (fun h => ?_) (fun h => ?_)
  · refine yskip ?_
    refine tnorm ?_
    refine yseq ?_
    refine yblock ?_
    refine yseq ?_
    refine yregion ?_
    refine yp (pI rfl) ?_
    refine yp (pI rfl) ?_
    refine ynil ?_
    refine tnorm ?_
    refine ydraw ?_
    refine ytq (pP rfl) ?_
    refine ytq (pNilc rfl) ?_
    refine ytq (pFadr rfl) ?_
    refine ytl1 rfl rfl ?_
    refine ytq (pP rfl) ?_
    refine ytq (pNilc rfl) ?_
    refine ytq (pFadr rfl) ?_
    refine ytl1 rfl rfl ?_
    refine ytq (pI rfl) ?_
    refine ytq (pAddN rfl rfl (by omega)) ?_
    refine ytq (pP rfl) ?_
    refine ytq (pNilc rfl) ?_
    refine ytq (pFadr rfl) ?_
    refine ytl1 rfl rfl ?_
    refine ytq (pP rfl) ?_
    refine ytq (pNilc rfl) ?_
    refine ytq (pFadr rfl) ?_
    refine ytl1 rfl rfl ?_
    refine ytq (pAdd rfl rfl (by omega)) ?_
    refine ytq (pI rfl) ?_
    refine ytq (pAdd rfl rfl (by omega)) ?_
    refine ytq (pI rfl) ?_
    refine ytq (pI rfl) ?_
    refine ytq (pMul rfl rfl (by omega)) ?_
    refine ytq (pShrX rfl rfl (by omega)) ?_
    refine ytq (pCv8 rfl) ?_
    refine ytq (pI rfl) ?_
    refine ytq (pI rfl) ?_
    refine ytq (pMul rfl rfl (by omega)) ?_
    refine ytq (pShrX rfl rfl (by omega)) ?_
    refine ytq (pCv8 rfl) ?_
    generalize ((i : Int) + 1).fdiv _ = z1
    generalize (n : Int).fdiv _ = z2
    obtain ⟨y1, e1⟩ := u8val z1
    obtain ⟨y2, e2⟩ := u8val z2
    rw [e1, e2]
    refine ytq (pIxN rfl rfl (by omega)) ?_
    refine ytalt (ystoreE (b := bb) (fz := (0, 0)) (M := B1) (y := y1) (kk := 1) (i := top + j) rfl (by omega) rfl rfl (.inl rfl) ?_) ytno
    skip
    refine ytq (pIx rfl rfl (by omega)) ?_
    refine ytalt (ystoreE (b := bb) (fz := (0, 0)) (M := B1.set (top + j) y1) (y := y2) (kk := 1) (i := ((top : Int) + 4 + j).toNat) rfl (by simp; omega) rfl rfl (.inl rfl) ?_) ytno
    refine ytdone ?_
    refine bnorm ?_
    refine tnorm ?_
    refine yregion ?_
    refine yp (pInc rfl rfl (by omega)) ?_
    refine yp (pI rfl) ?_
    refine ynil ?_
    refine tnorm ?_
    refine ⟨j + 1, ⟨⟨rfl, rfl, rfl, rfl, trivial⟩, by omega, (B1.set (top + j) y1).set ((top : Int) + 4 + j).toNat y2, by simpa using hB1, fun x h => ?_, .of⟩, by omega⟩
    rw [List.getElem?_set_ne (by omega), List.getElem?_set_ne (by omega)]
    exact hx x h
  · have hcz : cost (n : Int) = (costN n : Nat) := by rw [cost, if_neg (by omega), Int.toNat_natCast]
    refine yexit ?_
    refine texit ?_
    refine texit ?_
    refine bexit ?_
    refine tnorm ?_
    refine yseq ?_
    refine ydraw ?_
    refine ytq (pP rfl) ?_
    refine ytq (pNilc rfl) ?_
    refine ytq (pFadr rfl) ?_
    refine ytl1 rfl rfl ?_
    refine ytq (pI rfl) ?_
    refine ytaltC (ycall (arCost (n : Int)) rfl rfl fun r S' h => ?_) ytno
    obtain ⟨rfl, rfl⟩ := h
    refine ⟨by simp, ?_⟩
    rw [hcz]
    have := hcn.2.1
    refine ytq (pAddN rfl rfl (by omega)) ?_
    refine ytq (pNilc rfl) ?_
    refine ytq (pFadr rfl) ?_
    refine ytalt (yst4_3 rfl rfl (scI rfl) ?_) ytno
    refine ytdone ?_
    refine tnorm ?_
    refine ydraw ?_
    refine ytq (pP rfl) ?_
    refine ytq (pNilc rfl) ?_
    refine ytq (pFadr rfl) ?_
    refine ytl1 rfl rfl ?_
    refine ytq (pI rfl) ?_
    refine ytaltC (ycall (arCost (n : Int)) rfl rfl fun r S' h => ?_) ytno
    obtain ⟨rfl, rfl⟩ := h
    refine ⟨by simp, ?_⟩
    rw [hcz]
    refine ytq (pAddN rfl rfl (by omega)) ?_
    refine ytq (pNilc rfl) ?_
    refine ytq (pFadr rfl) ?_
    refine ytalt (yst4_2 rfl rfl (scI rfl) ?_) ytno
    refine ytdone ?_
    exact yfinN res0 ⟨_, .of, rfl, B1, _, hB1, hx, hK2, rfl⟩
end Go.Proofs.Ytkdbajfaaifkaaa
