/- The arena (chapter 6): contracts of its small functions. The arena (chapter 6): its memory, and the functions that touch it. The arena (chapter 6): what a handle is, Free, Size, part, Read, Write, Handles. The arena (chapter 6): part, Read, Write, Handles. The arena (chapter 6): Handles, and the order of its blocks. -/
import Derived.Test.YtejmbmenbailmaaB3
import Derived.Test.YtejmbmenbailmaaFArena
import Derived.Test.YtejmbmenbailmaaFSort
import Derived.Test.YtejmbmenbailmaaB5
namespace Go.Proofs.Ytejmbmenbailmaa
open Go.Xs
open Enc (enc)


/-- what a block takes -/
def costN (n : Nat) : Nat := if n + 8 ≤ 16 then 16 else if n + 8 ≤ 32 then 32 else if n + 8 ≤ 64 then 64 else if n + 8 ≤ 128 then 128 else if n + 8 ≤ 256 then 256 else
  if n + 8 ≤ 512 then 512 else if n + 8 ≤ 1024 then 1024 else if n + 8 ≤ 2048 then 2048 else if n + 8 ≤ 4096 then 4096 else 8192
def cost (n : Int) : Int := if n < 0 ∨ 4096 < n then 0 else costN n.toNat
def Pow (c : Nat) : Prop := c = 16 ∨ c = 32 ∨ c = 64 ∨ c = 128 ∨ c = 256 ∨ c = 512 ∨ c = 1024 ∨ c = 2048 ∨ c = 4096 ∨ c = 8192
theorem costN_is (n : Nat) (hn : n ≤ 4096) : Pow (costN n) ∧ n + 8 ≤ costN n ∧ (costN n = 16 ∨ costN n < 2 * (n + 8)) := by
  unfold costN Pow
  repeat' split
  all_goals omega
theorem costN_eq {n c : Nat} (hn : n ≤ 4096) (hp : Pow c) (h1 : n + 8 ≤ c) (h2 : c = 16 ∨ c < 2 * (n + 8)) : costN n = c := by
  unfold costN
  unfold Pow at hp
  repeat' split
  all_goals omega

theorem arCost (n : Int) : Tri Try.prog 13 #[.int .i64 n] [] (fun r S => r = .int .i64 (cost n) ∧ S = []) := by
  refine Tri.forget (ycallee Try.fx13 (Nat.le_of_ble_eq_true rfl) ?_)
  unfold Try.x13
  refine yseq (yregion (yp pC (ynil (tnorm (yseq (yseq (yregion (yp (pI rfl) (yp (pLt rfl rfl) (yp (pB rfl) ?_))))))))))
  by_cases h1 : n < 0
  · rw [decide_eq_true h1]
    refine ygF rfl (ygF rfl (yp (pPickT rfl rfl) (ynil (tnorm (ycondT rfl (yseq (yregion (yp pC (ynil (tnorm (yret (tret ?_))))))))))))
    exact yfin (rI rfl) ⟨_, .of, by rw [cost, if_pos (.inl h1)], rfl⟩
  rw [decide_eq_false h1]
  refine ygT rfl (yop (pI rfl) (ygT rfl (yop (pGt rfl rfl) (yp (pPickF rfl rfl) (ynil (tnorm ?_))))))
  by_cases h2 : 4096 < n
  · rw [decide_eq_true h2]
    refine ycondT rfl (yseq (yregion (yp pC (ynil (tnorm (yret (tret ?_)))))))
    exact yfin (rI rfl) ⟨_, .of, by rw [cost, if_pos (.inr h2)], rfl⟩
  rw [decide_eq_false h2]
  obtain ⟨m, rfl⟩ := Int.eq_ofNat_of_zero_le (show 0 ≤ n from by omega)
  refine ycondF rfl (yskip (tnorm (yseq (yregion (yp pC (ynil (tnorm (yseq (yblock ?_)))))))))
  refine yloop (σ := Nat) (fun c E S => Has E [(0, .int .i64 m), (3, .int .i64 c)] ∧ Pow c ∧ (c = 16 ∨ c < 2 * (m + 8)) ∧ Junk S []) (fun c => 16384 - c) 16 ⟨⟨rfl, rfl, trivial⟩, .inl rfl, .inl rfl, .self⟩ fun c E S ⟨hE, hp, hc, hJ⟩ => ?_
  have hcb : c ≤ 8192 := by unfold Pow at hp; omega
  obtain ⟨E0, e0⟩ := has_puts hE; subst e0; clear hE
  refine yforget hJ (yseq (yseq (yregion (yp (pI rfl) (yp (pI rfl) (yp (pAdd rfl rfl (by omega)) (yp (pLt rfl rfl) (ynil (tnorm ?_)))))))))
  refine ycondD rfl (fun h => ?_) (fun h => ?_)
  · refine yskip (tnorm (yblock (yregion (yp (pI rfl) ?_))))
    refine yp (v := .int .i64 ((c * 2 : Nat) : Int)) ?_ ?_
    · rw [pMul (m := (c : Int)) (n := 2) rfl rfl (by omega)]
      congr 2
    refine yp (pI rfl) (ynil (bnorm (tnorm ?_)))
    exact ⟨c * 2, ⟨⟨rfl, rfl, trivial⟩, by unfold Pow at hp ⊢; omega, by omega, .of⟩, by unfold Pow at hp; omega⟩
  · refine yexit (texit (texit (bexit (tnorm (yseq (yregion (yp (pI rfl) (yp (pI rfl) (ynil (tnorm (yret ?_)))))))))))
    refine yfin (rI rfl) ⟨_, .of, ?_, rfl⟩
    rw [cost, if_neg (by omega), Int.toNat_natCast, costN_eq (c := c) (by omega) hp (by omega) hc]

abbrev aseg (ab : Nat) (bv kv : Value) (used top : Int) : List Chunk := [(ab, .cells #[bv, kv, .int .i64 used, .int .i64 top] 78)]

/-- is there such a block? -/
def thr (K : List (Int × Int)) (h : Int) : Bool := decide (1 ≤ h) && (match K[(h - 1).toNat]? with | some e => decide (0 < e.1) | none => false)

theorem arThere {ab : Nat} {bv kv : Value} {used top : Int} {K : List (Int × Int)} {H : List Chunk} (hK : Slc 100 kv K H) (hlen : K.length < 2 ^ 40) (h : Int) :
    Tri Try.prog 64 #[.pointer (some ⟨ab, 0, none⟩), .int .i64 h] [aseg ab bv kv used top, H] (fun r S => r = .bool (thr K h) ∧ S = [aseg ab bv kv used top, H]) := by
  refine Tri.forget (ycallee Try.fx64 (Nat.le_of_ble_eq_true rfl) ?_)
  unfold Try.x64
  obtain ⟨a, c, rfl⟩ := hK.isSlice
  refine yseq (yregion (yp pC (ynil (tnorm (yseq (yregion (yp (pP rfl) (yp (pNilPn rfl rfl) (yp (pB rfl) (ygT rfl (yop (pI rfl) (ygT rfl (yop (pGe rfl rfl) (yp (pPickT rfl rfl) (yp (pB rfl) ?_)))))))))))))))
  by_cases h1 : 1 ≤ h
  · rw [decide_eq_true h1]
    refine ygT rfl (yop (pI rfl) (ygT rfl (yop (pP rfl) (ygT rfl (yop (pNilc rfl) (ygT rfl (yop (pFadr rfl) (ygT rfl ?_))))))))
    refine (yload1 rfl rfl ?_)
    refine ygT rfl (yop (pLen rfl) (ygT rfl (yop (pLe rfl rfl) (yp (pPickT rfl rfl) (yp (pB rfl) ?_)))))
    by_cases h2 : h ≤ (K.length : Int)
    · rw [decide_eq_true h2]
      have hlt : (h - 1).toNat < K.length := by omega
      obtain ⟨bb, sp, fz, hz, rfl, _, rfl, rfl⟩ := hK.at' (by intro h; simp [h] at hlt)
      obtain ⟨i, hi⟩ : ∃ i : Nat, h = (i : Int) + 1 := ⟨(h - 1).toNat, by omega⟩
      subst hi
      have hti : ((i : Int) + 1 - 1).toNat = i := by omega
      rw [hti] at hlt
      refine ygT rfl (yop (pP rfl) (ygT rfl (yop (pNilc rfl) (ygT rfl (yop (pFadr rfl) (ygT rfl ?_))))))
      refine (yload1 rfl rfl ?_)
      refine ygT rfl (yop (pI rfl) (ygT rfl (yop (pSub rfl rfl (by omega)) (ygT rfl ?_))))
      rw [show ((i : Int) + 1 - 1) = (i : Int) from by omega]
      refine yop (pIxN rfl rfl (by omega)) (ygT rfl (yop (pFadr rfl) (ygT rfl (yload1 (v := .int .i64 K[i].1) rfl ((row_cell (kk := 2) (j := 0) hlt rfl (by omega)).trans rfl) (ygT rfl (yop (pGt rfl rfl) (yp (pPickT rfl rfl) (yp (pB rfl) (ynil (tnorm (yret ?_)))))))))))
      refine yfin (rB rfl) ⟨_, .of, ?_, rfl⟩
      rw [thr, decide_eq_true h1, hti, List.getElem?_eq_getElem hlt]
      rfl
    · rw [decide_eq_false h2]
      refine ygF rfl (ygF rfl (ygF rfl (ygF rfl (ygF rfl (ygF rfl (ygF rfl (ygF rfl (ygF rfl (ygF rfl (yp (pPickF rfl rfl) (yp (pB rfl) (ynil (tnorm (yret ?_))))))))))))))
      refine yfin (rB rfl) ⟨_, .of, ?_, rfl⟩
      rw [thr, List.getElem?_eq_none (by omega)]
      simp
  · rw [decide_eq_false h1]
    refine ygF rfl (ygF rfl (ygF rfl (ygF rfl (ygF rfl (ygF rfl (ygF rfl (yp (pPickF rfl rfl) (yp (pB rfl) (ygF rfl (ygF rfl (ygF rfl (ygF rfl (ygF rfl (ygF rfl (ygF rfl (ygF rfl (ygF rfl (ygF rfl (yp (pPickF rfl rfl) (yp (pB rfl) (ynil (tnorm (yret ?_)))))))))))))))))))))))
    refine yfin (rB rfl) ⟨_, .of, ?_, rfl⟩
    rw [thr, decide_eq_false h1]; rfl
theorem arUsed {ab : Nat} {bv kv : Value} {used top : Int} : Tri Try.prog 12 #[.pointer (some ⟨ab, 0, none⟩)] [aseg ab bv kv used top] (fun r S => r = .int .i64 used ∧ S = [aseg ab bv kv used top]) := by
  refine Tri.forget (ycallee Try.fx12 (Nat.le_of_ble_eq_true rfl) ?_)
  unfold Try.x12
  refine yseq (yregion (yp pC (ynil (tnorm (yseq (yseq (yregion (yp (pP rfl) (yp (pNilP rfl rfl) (ynil (tnorm (ycondF rfl (yskip (tnorm (yseq (yregion (yp (pP rfl) (yp (pNilc rfl) (yp (pFadr rfl) ?_)))))))))))))))))))
  refine ycons (yload1 rfl rfl ?_)
  refine yp (pI rfl) (ynil (tnorm (yret ?_)))
  exact yfin (rI rfl) ⟨_, .of, rfl, rfl⟩
theorem arBudget {ab : Nat} {bv kv : Value} {used top : Int} {B : List UInt8} {H : List Chunk} (hB : Slc 5 bv B H) : Tri Try.prog 71 #[.pointer (some ⟨ab, 0, none⟩)] [aseg ab bv kv used top] (fun r S => r = .int .i64 B.length ∧ S = [aseg ab bv kv used top]) := by
  refine Tri.forget (ycallee Try.fx71 (Nat.le_of_ble_eq_true rfl) ?_)
  unfold Try.x71
  obtain ⟨a, c, rfl⟩ := hB.isSlice
  refine yseq (yregion (yp pC (ynil (tnorm (yseq (yseq (yregion (yp (pP rfl) (yp (pNilP rfl rfl) (ynil (tnorm (ycondF rfl (yskip (tnorm (yseq (yregion (yp (pP rfl) (yp (pNilc rfl) (yp (pFadr rfl) ?_)))))))))))))))))))
  refine ycons (yload1 rfl rfl ?_)
  refine yp (pLen rfl) (yp (pI rfl) (ynil (tnorm (yret ?_))))
  exact yfin (rI rfl) ⟨_, .of, rfl, rfl⟩
theorem arLeft {ab : Nat} {bv kv : Value} {used top : Int} {B : List UInt8} {H : List Chunk} (hB : Slc 5 bv B H) (hl : B.length < 2 ^ 40) (hu : 0 ≤ used ∧ used < 2 ^ 40) : Tri Try.prog 51 #[.pointer (some ⟨ab, 0, none⟩)] [aseg ab bv kv used top] (fun r S => r = .int .i64 (B.length - used) ∧ S = [aseg ab bv kv used top]) := by
  refine Tri.forget (ycallee Try.fx51 (Nat.le_of_ble_eq_true rfl) ?_)
  unfold Try.x51
  refine yseq (yregion (yp pC (ynil (tnorm (yseq (yregion (yp (pP rfl) ?_)))))))
  refine ycons (ycall (arBudget (ab := ab) (kv := kv) (used := used) (top := top) hB) rfl rfl fun r S' h => ?_)
  obtain ⟨rfl, rfl⟩ := h
  refine yp (pP rfl) ?_
  refine ycons (ycall (arUsed (ab := ab) (bv := bv) (kv := kv) (used := used) (top := top)) rfl rfl fun r S' h => ?_)
  obtain ⟨rfl, rfl⟩ := h
  refine yp (pSub rfl rfl (by omega)) (yp (pI rfl) (ynil (tnorm (yret ?_))))
  exact yfin (rI rfl) ⟨_, .of, rfl, rfl⟩
theorem rPI {E : Env} {S : Segs} {t u : Tmp} {p : Option Addr} {k : IntKind} {a : Int} (hv : E t = .pointer p) (hv' : E u = .int k a) : Res Try.prog #[.tmp t, .tmp u] E S (.tuple #[.pointer p, .int k a]) := res2 hv hv'
/-- New -/
theorem arNew {n : Nat} (hn : 1024 ≤ n ∧ n ≤ 1048576) {z : Int} (hz : z = n) : Tri Try.prog 25 #[.int .i64 z] [] (fun r S => ∃ ab bb, r = .tuple #[.pointer (some ⟨ab, 0, none⟩), .int .i64 0] ∧ S = [aseg ab (.slice (some ⟨bb, 0, none⟩) n n) (.slice none 0 0) 0 0, [(bb, .cells (cells (List.replicate n (0 : UInt8))).toArray 5)]]) := by
  refine Tri.forget (ycallee Try.fx25 (Nat.le_of_ble_eq_true rfl) ?_)
  unfold Try.x25
  refine yseq (yregion (yp pC (yp pC (ynil (tnorm (yseq (yseq (yregion (yp (pI rfl) (yp (pLt rfl rfl) (yp (pB rfl) ?_)))))))))))
  rw [decide_eq_false (show ¬ z < 1024 from by omega)]
  refine ygT rfl (yop (pI rfl) (ygT rfl (yop (pGt rfl rfl) (yp (pPickF rfl rfl) (ynil (tnorm ?_))))))
  rw [decide_eq_false (show ¬ 1048576 < z from by omega)]
  refine ycondF rfl (yskip (tnorm (yseq (yregion (yp (pI rfl) ?_)))))
  subst hz
  refine ycons (ymksl (m := n) (cap := n) rfl rfl (Nat.le_refl _) rfl (by omega) (by omega) fun bb => ?_)
  rw [replicate_cells (z := [.int .u8 0]) n (0 : UInt8) rfl]
  refine yp (v := .agg #[.slice (some ⟨bb, 0, none⟩) n n, .slice none 0 0, .int .i64 0, .int .i64 0]) rfl ?_
  refine ycons (yboxG rfl fun p13 => ?_)
  refine yp (pP rfl) (yp pC (ynil (tnorm (yret ?_))))
  exact yfin (rPI rfl rfl) ⟨_, .of, _, bb, rfl, rfl⟩
end Go.Proofs.Ytejmbmenbailmaa
namespace Go.Proofs.Ytejmbmenbailmaa
open Go.Xs
open Enc (enc)

abbrev Bt := List UInt8
abbrev Tab := List (Option (Nat × Bt))
def ent : Option (Nat × Bt) → Int × Int
  | none => (0, 0)
  | some (p, b) => ((p : Int) + 8, ((b.length : Nat) : Int))
def kof (T : Tab) : List (Int × Int) := T.map ent
def dof (T : Tab) : List (Option Bt) := T.map (Option.map Prod.snd)
def wgt : Option Bt → Nat
  | none => 0
  | some b => costN b.length
def usedD (D : List (Option Bt)) : Nat := (D.map wgt).sum
structure Inv (N : Nat) (T : Tab) (B : Bt) (used top : Nat) : Prop where
  len : B.length = N
  big : 1024 ≤ N ∧ N ≤ 1048576
  few : T.length * 16 ≤ N
  ut : used ≤ top
  tn : top ≤ N
  sum : used = usedD (dof T)
  inn : ∀ (i p : Nat) (b : Bt), T[i]? = some (some (p, b)) → b.length ≤ 4096 ∧ p + costN b.length ≤ top ∧ ∀ x, x < b.length → B[p + 8 + x]? = b[x]?
  apart : ∀ (i j p : Nat) (b : Bt) (q : Nat) (c : Bt), i ≠ j → T[i]? = some (some (p, b)) → T[j]? = some (some (q, c)) → p + costN b.length ≤ q ∨ q + costN c.length ≤ p
/-- what a handle's block holds -/
def getB (D : List (Option Bt)) (h : Int) : Option Bt := if 1 ≤ h then (D[(h - 1).toNat]?).join else none
theorem thr_kof (T : Tab) (h : Int) : thr (kof T) h = (getB (dof T) h).isSome := by
  unfold thr getB kof dof
  by_cases h1 : 1 ≤ h
  · rw [decide_eq_true h1, if_pos h1, Bool.true_and, List.getElem?_map, List.getElem?_map]
    cases T[(h - 1).toNat]? with
    | none => rfl
    | some e =>
      cases e with
      | none => rfl
      | some x => obtain ⟨p, b⟩ := x; simp [ent]; omega
  · rw [decide_eq_false h1, if_neg h1]; rfl
theorem getB_some {T : Tab} {h : Int} {b : Bt} (hg : getB (dof T) h = some b) : ∃ (i p : Nat), h = (i : Int) + 1 ∧ T[i]? = some (some (p, b)) := by
  unfold getB dof at hg
  split at hg
  · next h1 =>
    refine ⟨(h - 1).toNat, ?_⟩
    rw [List.getElem?_map] at hg
    cases ht : T[(h - 1).toNat]? with
    | none => rw [ht] at hg; simp at hg
    | some e =>
      rw [ht] at hg
      cases e with
      | none => simp at hg
      | some x => obtain ⟨p, c⟩ := x; simp at hg; subst hg; exact ⟨p, by omega, rfl⟩
  · cases hg
theorem getB_at (T : Tab) (i : Nat) : getB (dof T) ((i : Int) + 1) = ((dof T)[i]?).join := by
  unfold getB
  rw [if_pos (by omega), show ((i : Int) + 1 - 1).toNat = i from by omega]
theorem kof_get {T : Tab} {i p : Nat} {b : Bt} (h : T[i]? = some (some (p, b))) : (kof T)[i]? = some ((p : Int) + 8, ((b.length : Nat) : Int)) := by
  unfold kof
  rw [List.getElem?_map, h]; rfl
theorem kof_len (T : Tab) : (kof T).length = T.length := by unfold kof; simp
theorem dof_len (T : Tab) : (dof T).length = T.length := by unfold dof; simp

abbrev bch (bb : Nat) (B : Bt) : List Chunk := [(bb, .cells (cells B).toArray 5)]

theorem u8val (z : Int) : ∃ b : UInt8, IntKind.u8.wrap z = (b.toNat : Int) := by
  refine ⟨UInt8.ofNat (z % 256).toNat, ?_⟩
  have : IntKind.u8.wrap z = z % 256 := by simp [IntKind.wrap, IntKind.signed, IntKind.bits]
  rw [this]
  have h : (UInt8.ofNat (z % 256).toNat).toNat = (z % 256).toNat := by simp; omega
  rw [h]; omega
theorem pShrX {E : Env} {x y : Operand} {k : IntKind} {k' : IntKind} {a b : Int} (h1 : ev E x = .int k a) (h2 : ev E y = .int k' b) (hb : 0 ≤ b) : pstep (ev E) (.bin .shr x y) = some (.int k (a.fdiv (2 ^ (Nat.min b.toNat k.bits)))) := by
  simp [pstep, h1, h2, xbin, xint, show ¬ b < 0 from by omega]
theorem pCv8 {E : Env} {x : Operand} {k : IntKind} {a : Int} (h1 : ev E x = .int k a) : pstep (ev E) (.conv .u8 x) = some (.int .u8 (IntKind.u8.wrap a)) := by
  simp [pstep, h1]

theorem Slc.setRow {α : Type} [Enc α] {ty b c : Nat} {K sp : List α} {fz : Nat × Nat} {i : Nat} {y : α} (hz : FzOk fz (cells (K ++ sp)).length) (hi : i < K.length) (hc : c = K.length + sp.length) :
    Slc ty (.slice (some ⟨b, 0, none⟩) K.length c) (K.set i y) [(b, .cells (cells ((K ++ sp).set i y)).toArray ty fz)] := by
  subst hc
  rw [List.set_append_left _ _ hi]
  have := Slc.row (ty := ty) (b := b) (L := K.set i y) (sp := sp) (fz := fz) (by rw [cells_length] at hz ⊢; simpa using hz)
  simpa using this

/-- the bytes of a block -/
theorem arData {ab bb N : Nat} {kv : Value} {used top : Int} {K : List (Int × Int)} {HK : List Chunk} (hK : Slc 100 kv K HK) {h : Int} {i q n : Nat} (hh : h = (i : Int) + 1) (hi : K[i]? = some ((q : Int), (n : Int))) (hq : q + n ≤ N) (hN : N < 2 ^ 40) (hl : K.length < 2 ^ 40) :
    Tri Try.prog 55 #[.pointer (some ⟨ab, 0, none⟩), .int .i64 h] [aseg ab (.slice (some ⟨bb, 0, none⟩) N N) kv used top, HK]
      (fun r S => r = .slice (some ⟨bb, if n = 0 then 0 else q, none⟩) n n ∧ S = [aseg ab (.slice (some ⟨bb, 0, none⟩) N N) kv used top, HK]) := by
  subst hh
  refine Tri.forget (ycallee Try.fx55 (Nat.le_of_ble_eq_true rfl) ?_)
  unfold Try.x55
  obtain ⟨a, c, rfl⟩ := hK.isSlice
  obtain ⟨hlt, hge⟩ := List.getElem?_eq_some_iff.1 hi
  obtain ⟨b2, sp, fz, hz, rfl, _, rfl, rfl⟩ := hK.at' (by intro h; simp [h] at hlt)
  refine yseq (yregion (yp pC (ynil (tnorm (yseq (yregion (yp (pP rfl) (yp (pNilc rfl) (yp (pFadr rfl) ?_)))))))))
  refine ycons (yload1 rfl rfl ?_)
  refine yp (pI rfl) (yp (pSub rfl rfl (by omega)) ?_)
  rw [show ((i : Int) + 1 - 1) = (i : Int) from by omega]
  refine yp (pIxN rfl rfl (by omega)) ?_
  refine ycons (yloadN (l := enc K[i]) rfl (row_elem hlt rfl) rfl ?_)
  rw [hge]
  refine ycons (yalloc fun p5 => ?_)
  refine ycons (ystAll (c' := [.int .i64 (q : Int), .int .i64 (n : Int)]) rfl rfl rfl rfl rfl ?_)
  refine ynil (tnorm (yseq (ydraw (ytq (pP rfl) (ytq (pNilc rfl) (ytq (pFadr rfl) (ytl1 rfl rfl (ytq (pFadr rfl) (ytl1 rfl rfl (ytq (pFadr rfl) (ytl1 rfl rfl (ytq (pFadr rfl) (ytl1 rfl rfl (ytq (pAddN rfl rfl (by omega)) (ytq (pFadr rfl) (ytl1 rfl rfl (ytq (pFadr rfl) (ytl1 rfl rfl (ytq (pAddN rfl rfl (by omega)) (ytq (pSl3 rfl rfl rfl rfl (by omega)) ?_))))))))))))))))))))
  rw [show q + n - q = n from by omega]
  have e : (if q + n = q then 0 else 0 + q * 1) = (if n = 0 then 0 else q) := by
    by_cases h : n = 0
    · subst h; simp
    · rw [if_neg h, if_neg (by omega)]; omega
  rw [e]
  refine ytq (pS rfl) (ytdone (tnorm (yret ?_)))
  exact yfin (rS rfl) ⟨_, .of, rfl, rfl⟩

/-- a new block behind all others -/
theorem arPut {ab bb N : Nat} {kv : Value} {used top : Nat} {K : List (Int × Int)} {HK : List Chunk} {B : Bt} (hK : Slc 100 kv K HK) {h : Int} {i n : Nat} (hh : h = (i : Int) + 1) (hi : i < K.length) (hn : n ≤ 4096) (ht : top + costN n ≤ N) (hut : used ≤ top) (hB : B.length = N) (hN : N < 2 ^ 40) (hl : K.length < 2 ^ 40) :
    Tri Try.prog 54 #[.pointer (some ⟨ab, 0, none⟩), .int .i64 h, .int .i64 (n : Int)] [aseg ab (.slice (some ⟨bb, 0, none⟩) N N) kv (used : Int) (top : Int), bch bb B, HK]
      (fun r S => r = .tuple #[] ∧ ∃ (B' : Bt) (HK' : List Chunk), B'.length = N ∧ (∀ x, (x < top ∨ top + 8 ≤ x) → B'[x]? = B[x]?) ∧ Slc 100 kv (K.set i ((top : Int) + 8, (n : Int))) HK' ∧
        S = [aseg ab (.slice (some ⟨bb, 0, none⟩) N N) kv ((used + costN n : Nat) : Int) ((top + costN n : Nat) : Int), bch bb B', HK']) := by
  subst hh
  have hcn := costN_is n hn
  refine Tri.forget (ycallee Try.fx54 (Nat.le_of_ble_eq_true rfl) ?_)
  unfold Try.x54
  obtain ⟨a, c, rfl⟩ := hK.isSlice
  obtain ⟨b2, sp, fz, hz, rfl, _, rfl, rfl⟩ := hK.at' (by intro h; simp [h] at hi)
  refine yseq (ydraw (ytq (pP rfl) (ytq (pNilc rfl) (ytq (pFadr rfl) (ytl1 rfl rfl (ytq (pI rfl) (ytq (pSub rfl rfl (by omega)) (ytq (pP rfl) (ytq (pNilc rfl) (ytq (pFadr rfl) (ytl1 rfl rfl (ytq (pAdd rfl rfl (by omega)) (ytq (pI rfl) (ytq (pBuild2 (scI rfl) (scI rfl)) ?_))))))))))))))
  rw [show ((i : Int) + 1 - 1) = (i : Int) from by omega]
  refine ytq (pIxN rfl rfl (by omega)) ?_
  refine ytalt (ystoreE (y := ((top : Int) + 8, (n : Int))) rfl (by simp; omega) rfl rfl hz ?_) ytno
  have hK2 : Slc 100 (.slice (some ⟨b2, 0, none⟩) K.length (K.length + sp.length)) _ _ := Slc.setRow (ty := 100) (b := b2) (y := ((top : Int) + 8, (n : Int))) hz hi rfl
  generalize ([(b2, Obj.cells (cells ((K ++ sp).set i ((top : Int) + 8, (n : Int)))).toArray 100 fz)] : List Chunk) = HK2 at hK2 ⊢
  generalize (Value.slice (some ⟨b2, 0, none⟩) K.length (K.length + sp.length)) = kv at hK2 ⊢
  refine ytdone (tnorm (yseq (yseq (yregion (yp pC (ynil (tnorm (yblock ?_))))))))
  refine yloop (σ := Nat) (fun j E S => Has E [(0, .pointer (some ⟨ab, 0, none⟩)), (1, .int .i64 ((i : Int) + 1)), (2, .int .i64 n), (21, .int .i64 j)] ∧ j ≤ 4 ∧ ∃ B' : Bt, B'.length = N ∧ (∀ x, (x < top ∨ top + 8 ≤ x) → B'[x]? = B[x]?) ∧
      Junk S [aseg ab (.slice (some ⟨bb, 0, none⟩) N N) kv (used : Int) (top : Int), bch bb B', HK2]) (fun j => 4 - j) 0 ⟨⟨rfl, rfl, rfl, rfl, trivial⟩, Nat.zero_le _, B, hB, fun _ _ => rfl, .of⟩ fun j E S ⟨hE, hj, B1, hB1, hx, hJ⟩ => ?_
  obtain ⟨E0, e0⟩ := has_puts hE; subst e0; clear hE
  refine yforget hJ (yseq (yregion (yp (pLt rfl rfl) (ynil (tnorm (yseq ?_))))))
  refine ycondD rfl (fun h => ?_) (fun h => ?_)
  · refine yskip (tnorm (yseq (yblock (yseq (yregion (yp (pI rfl) (yp (pI rfl) (ynil (tnorm (ydraw (ytq (pP rfl) (ytq (pNilc rfl) (ytq (pFadr rfl) (ytl1 rfl rfl (ytq (pP rfl) (ytq (pNilc rfl) (ytq (pFadr rfl) (ytl1 rfl rfl (ytq (pI rfl) (ytq (pAddN rfl rfl (by omega)) (ytq (pP rfl) (ytq (pNilc rfl) (ytq (pFadr rfl) (ytl1 rfl rfl (ytq (pP rfl) (ytq (pNilc rfl) (ytq (pFadr rfl) (ytl1 rfl rfl (ytq (pAdd rfl rfl (by omega)) (ytq (pI rfl) (ytq (pAdd rfl rfl (by omega)) (ytq (pI rfl) (ytq (pI rfl) (ytq (pMul rfl rfl (by omega)) (ytq (pShrX rfl rfl (by omega)) (ytq (pCv8 rfl) (ytq (pI rfl) (ytq (pI rfl) (ytq (pMul rfl rfl (by omega)) (ytq (pShrX rfl rfl (by omega)) (ytq (pCv8 rfl) ?_)))))))))))))))))))))))))))))))))))))))))
    generalize ((i : Int) + 1).fdiv _ = z1
    generalize (n : Int).fdiv _ = z2
    obtain ⟨y1, e1⟩ := u8val z1
    obtain ⟨y2, e2⟩ := u8val z2
    rw [e1, e2]
    refine ytq (pIxN rfl rfl (by omega)) ?_
    refine ytalt (ystoreE (b := bb) (fz := (0, 0)) (M := B1) (y := y1) (kk := 1) (i := top + j) rfl (by omega) rfl rfl (.inl rfl) ?_) ytno
    skip
    refine ytq (pIx rfl rfl (by omega)) ?_
    refine ytalt (ystoreE (b := bb) (fz := (0, 0)) (M := B1.set (top + j) y1) (y := y2) (kk := 1) (i := ((top : Int) + 4 + j).toNat) rfl (by simp; omega) rfl rfl (.inl rfl) ?_) ytno
    refine ytdone (bnorm (tnorm (yregion (yp (pInc rfl rfl (by omega)) (yp (pI rfl) (ynil (tnorm ?_)))))))
    refine ⟨j + 1, ⟨⟨rfl, rfl, rfl, rfl, trivial⟩, by omega, (B1.set (top + j) y1).set ((top : Int) + 4 + j).toNat y2, by simpa using hB1, fun x h => ?_, .of⟩, by omega⟩
    rw [List.getElem?_set_ne (by omega), List.getElem?_set_ne (by omega)]
    exact hx x h
  · have hcz : cost (n : Int) = (costN n : Nat) := by rw [cost, if_neg (by omega), Int.toNat_natCast]
    refine yexit (texit (texit (bexit (tnorm (yseq (ydraw (ytq (pP rfl) (ytq (pNilc rfl) (ytq (pFadr rfl) (ytl1 rfl rfl (ytq (pI rfl) ?_)))))))))))
    refine ytaltC (ycall (arCost (n : Int)) rfl rfl fun r S' h => ?_) ytno
    obtain ⟨rfl, rfl⟩ := h
    refine ⟨by simp, ?_⟩
    rw [hcz]
    have := hcn.2.1
    refine ytq (pAddN rfl rfl (by omega)) (ytq (pNilc rfl) (ytq (pFadr rfl) ?_))
    refine ytalt (yst4_3 rfl rfl (scI rfl) ?_) ytno
    refine ytdone (tnorm (ydraw (ytq (pP rfl) (ytq (pNilc rfl) (ytq (pFadr rfl) (ytl1 rfl rfl (ytq (pI rfl) ?_)))))))
    refine ytaltC (ycall (arCost (n : Int)) rfl rfl fun r S' h => ?_) ytno
    obtain ⟨rfl, rfl⟩ := h
    refine ⟨by simp, ?_⟩
    rw [hcz]
    refine ytq (pAddN rfl rfl (by omega)) (ytq (pNilc rfl) (ytq (pFadr rfl) ?_))
    refine ytalt (yst4_2 rfl rfl (scI rfl) ?_) ytno
    refine ytdone ?_
    exact yfinN res0 ⟨_, .of, rfl, B1, _, hB1, hx, hK2, rfl⟩
end Go.Proofs.Ytejmbmenbailmaa
namespace Go.Proofs.Ytejmbmenbailmaa
open Go.Xs
open Enc (enc)

/-! ### the blocks, plainly -/
def hnd : List (Option Bt) → Nat
  | some _ :: l => hnd l + 1
  | _ => 1
theorem hnd_pos : ∀ D, 1 ≤ hnd D
  | [] => Nat.le_refl _
  | none :: _ => Nat.le_refl _
  | some _ :: l => by unfold hnd; omega
theorem hnd_le : ∀ D : List (Option Bt), hnd D ≤ D.length + 1
  | [] => Nat.le_refl _
  | none :: _ => by simp [hnd]
  | some _ :: l => by have := hnd_le l; simp [hnd]; omega
theorem hnd_some : ∀ (D : List (Option Bt)) (i : Nat), i + 1 < hnd D → ∃ b, D[i]? = some (some b)
  | [], i, h => by simp [hnd] at h
  | none :: _, i, h => by simp [hnd] at h
  | some b :: l, 0, _ => ⟨b, rfl⟩
  | some b :: l, i + 1, h => by
    obtain ⟨c, hc⟩ := hnd_some l i (by simp [hnd] at h; omega)
    exact ⟨c, by simpa using hc⟩
theorem hnd_none : ∀ (D : List (Option Bt)), (D[hnd D - 1]?).join = none
  | [] => rfl
  | none :: _ => rfl
  | some b :: l => by
    have := hnd_none l
    have hp := hnd_pos l
    have e : hnd (some b :: l) - 1 = (hnd l - 1) + 1 := by simp [hnd]; omega
    rw [e, List.getElem?_cons_succ]
    exact this
theorem hnd_uniq {D : List (Option Bt)} {h : Nat} (h1 : 1 ≤ h) (h2 : ∀ i, i + 1 < h → ∃ b, D[i]? = some (some b)) (h3 : (D[h - 1]?).join = none) : h = hnd D := by
  have hp := hnd_pos D
  rcases Nat.lt_trichotomy h (hnd D) with hl | hl | hl
  · obtain ⟨b, hb⟩ := hnd_some D (h - 1) (by omega)
    rw [hb] at h3; cases h3
  · exact hl
  · obtain ⟨b, hb⟩ := h2 (hnd D - 1) (by omega)
    have := hnd_none D
    rw [hb] at this; cases this
theorem usedD_cons (o : Option Bt) (D : List (Option Bt)) : usedD (o :: D) = wgt o + usedD D := by simp [usedD]
theorem usedD_append (D E : List (Option Bt)) : usedD (D ++ E) = usedD D + usedD E := by simp [usedD]
theorem usedD_set : ∀ {D : List (Option Bt)} {i : Nat} {x y : Option Bt}, D[i]? = some x → usedD (D.set i y) + wgt x = usedD D + wgt y
  | [], i, x, y, h => by simp at h
  | o :: D, 0, x, y, h => by
    simp at h; subst h
    rw [List.set_cons_zero, usedD_cons, usedD_cons]; omega
  | o :: D, i + 1, x, y, h => by
    have := usedD_set (D := D) (i := i) (x := x) (y := y) (by simpa using h)
    rw [List.set_cons_succ, usedD_cons, usedD_cons]; omega
theorem usedD_mem {D : List (Option Bt)} {i : Nat} {x : Option Bt} (h : D[i]? = some x) : wgt x ≤ usedD D := by
  have := usedD_set (y := none) h
  simp only [wgt] at this ⊢; omega
theorem dof_get {T : Tab} {i p : Nat} {b : Bt} (h : T[i]? = some (some (p, b))) : (dof T)[i]? = some (some b) := by
  unfold dof; rw [List.getElem?_map, h]; rfl
theorem dof_set (T : Tab) (i : Nat) (x : Option (Nat × Bt)) : dof (T.set i x) = (dof T).set i (x.map Prod.snd) := by unfold dof; rw [List.map_set]
theorem kof_set (T : Tab) (i : Nat) (x : Option (Nat × Bt)) : kof (T.set i x) = (kof T).set i (ent x) := by unfold kof; rw [List.map_set]
theorem set_get {T : Tab} {i j : Nat} {x y : Option (Nat × Bt)} (h : (T.set i x)[j]? = some y) : (j = i ∧ y = x) ∨ (j ≠ i ∧ T[j]? = some y) := by
  rw [List.getElem?_set] at h
  by_cases hij : i = j
  · rw [if_pos hij] at h
    split at h
    · exact .inl ⟨hij.symm, by simpa using h.symm⟩
    · cases h
  · rw [if_neg hij] at h
    exact .inr ⟨fun e => hij e.symm, h⟩
theorem Inv.free {N : Nat} {T : Tab} {B : Bt} {used top i p : Nat} {b : Bt} (h : Inv N T B used top) (hi : T[i]? = some (some (p, b))) : Inv N (T.set i none) B (used - costN b.length) top ∧ costN b.length ≤ used := by
  have hu := usedD_set (y := none) (dof_get hi)
  have hm := usedD_mem (dof_get hi)
  simp only [wgt] at hu hm
  have hs := h.sum
  refine ⟨⟨h.len, h.big, by rw [List.length_set]; exact h.few, by have := h.ut; omega, h.tn, ?_, fun j q c hj => ?_, fun j k q c q' c' hne hj hk => ?_⟩, by omega⟩
  · rw [dof_set]; simp only [Option.map_none]; omega
  · rcases set_get hj with ⟨_, h1⟩ | ⟨_, h1⟩
    · cases h1
    · exact h.inn j q c h1
  · rcases set_get hj with ⟨_, h1⟩ | ⟨_, h1⟩
    · cases h1
    rcases set_get hk with ⟨_, h2⟩ | ⟨_, h2⟩
    · cases h2
    exact h.apart j k q c q' c' hne h1 h2
/-- a block's bytes change -/
theorem Inv.bytes {N : Nat} {T : Tab} {B B' : Bt} {used top i p : Nat} {b b' : Bt} (h : Inv N T B used top) (hi : T[i]? = some (some (p, b))) (hl : b'.length = b.length) (hB : B'.length = B.length)
    (hout : ∀ x, (x < p + 8 ∨ p + 8 + b.length ≤ x) → B'[x]? = B[x]?) (hin : ∀ x, x < b.length → B'[p + 8 + x]? = b'[x]?) : Inv N (T.set i (some (p, b'))) B' used top := by
  have hu := usedD_set (y := some b') (dof_get hi)
  simp only [wgt, hl] at hu
  obtain ⟨h4, hpt, _⟩ := h.inn i p b hi
  have hc := (costN_is b.length h4).2.1
  refine ⟨by rw [hB]; exact h.len, h.big, by rw [List.length_set]; exact h.few, h.ut, h.tn, ?_, fun j q c hj => ?_, fun j k q c q' c' hne hj hk => ?_⟩
  · rw [dof_set, h.sum]; simp only [Option.map_some]; omega
  · rcases set_get hj with ⟨_, h1⟩ | ⟨hne, h1⟩
    · obtain ⟨rfl, rfl⟩ : q = p ∧ c = b' := by simpa using h1
      rw [hl]
      exact ⟨h4, hpt, hin⟩
    · obtain ⟨h5, h6, h7⟩ := h.inn j q c h1
      have hc2 := (costN_is c.length h5).2.1
      have := h.apart i j p b q c (fun e => hne e.symm) hi h1
      exact ⟨h5, h6, fun x hx => by rw [hout _ (by omega)]; exact h7 x hx⟩
  · rcases set_get hj with ⟨hji, h1⟩ | ⟨hji, h1⟩ <;> rcases set_get hk with ⟨hki, h2⟩ | ⟨hki, h2⟩
    · omega
    · obtain ⟨rfl, rfl⟩ : q = p ∧ c = b' := by simpa using h1
      rw [hl]; exact h.apart i k q b q' c' (fun e => hki e.symm) hi h2
    · obtain ⟨rfl, rfl⟩ : q' = p ∧ c' = b' := by simpa using h2
      rw [hl]; exact h.apart j i q c q' b hji h1 hi
    · exact h.apart j k q c q' c' hne h1 h2

/-! ### the whole arena, as one piece of memory -/
def Ar (ab : Nat) (N : Nat) (D : List (Option Bt)) (H : List Chunk) : Prop :=
  ∃ (bb : Nat) (kv : Value) (HK : List Chunk) (T : Tab) (B : Bt) (used top : Nat), Inv N T B used top ∧ dof T = D ∧ Slc 100 kv (kof T) HK ∧
    H = aseg ab (.slice (some ⟨bb, 0, none⟩) N N) kv (used : Int) (top : Int) ++ bch bb B ++ HK

theorem Inv.tlen {N : Nat} {T : Tab} {B : Bt} {used top : Nat} (h : Inv N T B used top) : (kof T).length < 2 ^ 40 := by
  have := h.few; have := h.big; rw [kof_len]; omega

theorem Ar.used_le {ab N : Nat} {D : List (Option Bt)} {H : List Chunk} (h : Ar ab N D H) : usedD D ≤ N ∧ 1024 ≤ N ∧ N ≤ 1048576 ∧ D.length * 16 ≤ N := by
  obtain ⟨bb, kv, HK, T, B, used, top, hI, rfl, hK, rfl⟩ := h
  have := hI.sum; have := hI.ut; have := hI.tn; have := hI.big; have := hI.few
  refine ⟨by omega, by omega, by omega, by rw [dof_len]; omega⟩

theorem arNewA {n : Nat} (hn : 1024 ≤ n ∧ n ≤ 1048576) {z : Int} (hz : z = n) : Tri Try.prog 25 #[.int .i64 z] [] (fun r S => ∃ ab H, r = .tuple #[.pointer (some ⟨ab, 0, none⟩), .int .i64 0] ∧ Ar ab n [] H ∧ S = [H]) := by
  refine Tri.forget ((arNew hn hz).mono fun r S h => ?_)
  obtain ⟨ab, bb, rfl, rfl⟩ := h
  refine ⟨[_ ++ _ ++ []], Junk.join3 (c := []), ab, _, rfl, ⟨bb, .slice none 0 0, [], [], List.replicate n 0, 0, 0, ⟨by simp, hn, by simp, Nat.le_refl _, Nat.zero_le _, rfl, fun i p b h => by simp at h, fun i j p b q c _ h => by simp at h⟩, rfl, .nil, rfl⟩, rfl⟩

theorem arUsedA {ab N : Nat} {D : List (Option Bt)} {H : List Chunk} (hA : Ar ab N D H) : Tri Try.prog 12 #[.pointer (some ⟨ab, 0, none⟩)] [H] (fun r S => r = .int .i64 (usedD D : Nat) ∧ S = [H]) := by
  obtain ⟨bb, kv, HK, T, B, used, top, hI, rfl, hK, rfl⟩ := hA
  refine Tri.forget (Tri.split3 ((arUsed.frame [bch bb B, HK]).mono fun r S h => ?_))
  obtain ⟨S', rfl, rfl, rfl⟩ := h
  exact ⟨_, Junk.join3, by rw [hI.sum], rfl⟩
theorem arHandle {ab : Nat} {bv kv : Value} {used top : Int} {T : Tab} {HK : List Chunk} (hK : Slc 100 kv (kof T) HK) (hlen : (kof T).length < 2 ^ 40) :
    Tri Try.prog 53 #[.pointer (some ⟨ab, 0, none⟩)] [aseg ab bv kv used top, HK] (fun r S => r = .int .i64 (hnd (dof T) : Nat) ∧ S = [aseg ab bv kv used top, HK]) := by
  refine Tri.forget (ycallee Try.fx53 (Nat.le_of_ble_eq_true rfl) ?_)
  unfold Try.x53
  refine yseq (yregion (yp pC (ynil (tnorm (yseq (yregion (yp pC (ynil (tnorm (yseq (yblock ?_)))))))))))
  refine yloop (σ := Nat) (fun h E S => Has E [(0, .pointer (some ⟨ab, 0, none⟩)), (3, .int .i64 (h : Int))] ∧ 1 ≤ h ∧ h ≤ T.length + 1 ∧ (∀ i, i + 1 < h → ∃ b, (dof T)[i]? = some (some b)) ∧ Junk S [aseg ab bv kv used top, HK]) (fun h => T.length + 1 - h) 1 ⟨⟨rfl, rfl, trivial⟩, Nat.le_refl _, by omega, fun i h => by omega, .self⟩ fun h E S ⟨hE, h1, h2, h3, hJ⟩ => ?_
  rw [kof_len] at hlen
  obtain ⟨E0, e0⟩ := has_puts hE; subst e0; clear hE
  refine yforget hJ (yseq (yseq (yregion (yp (pP rfl) (yp (pI rfl) ?_)))))
  refine ycons (ycall (arThere (ab := ab) (bv := bv) (used := used) (top := top) hK (by rw [kof_len]; exact hlen) (h : Int)) rfl rfl fun r S' h => ?_)
  obtain ⟨rfl, rfl⟩ := h
  rw [thr_kof]
  have hg : getB (dof T) (h : Int) = ((dof T)[h - 1]?).join := by
    unfold getB
    rw [if_pos (by omega), show ((h : Int) - 1).toNat = h - 1 from by omega]
  cases hb : getB (dof T) (h : Int) with
  | none =>
    refine ynil (tnorm (ycondF rfl (yexit (texit (texit (bexit (tnorm (yseq (yregion (yp (pI rfl) (yp (pI rfl) (ynil (tnorm (yret ?_))))))))))))))
    refine yfin (rI rfl) ⟨_, .of, ?_, rfl⟩
    rw [hb] at hg
    rw [← hnd_uniq h1 h3 hg.symm]
  | some b =>
    obtain ⟨i, p, hi, ht⟩ := getB_some hb
    have hlt := (List.getElem?_eq_some_iff.1 ht).1
    refine ynil (tnorm (ycondT rfl (yskip (tnorm (yblock (yregion (yp (pI rfl) (yp (pInc rfl rfl (by omega)) (yp (pI rfl) (ynil (bnorm (tnorm ?_))))))))))))
    refine ⟨h + 1, ⟨⟨rfl, rfl, trivial⟩, by omega, by omega, fun j hj => ?_, .of⟩, by omega⟩
    by_cases hjh : j + 1 < h
    · exact h3 j hjh
    · have : j = i := by omega
      rw [this]; exact ⟨b, dof_get ht⟩

def freeR (D : List (Option Bt)) (h : Int) : Int := if (getB D h).isSome then 0 else 5
def freeD (D : List (Option Bt)) (h : Int) : List (Option Bt) := if (getB D h).isSome then D.set (h - 1).toNat none else D
theorem cost_len {b : Bt} (h : b.length ≤ 4096) : cost (b.length : Int) = (costN b.length : Nat) := by
  unfold cost; rw [if_neg (by omega), Int.toNat_natCast]
theorem arFree {ab N : Nat} {D : List (Option Bt)} {H : List Chunk} (hA : Ar ab N D H) (h : Int) :
    Tri Try.prog 38 #[.pointer (some ⟨ab, 0, none⟩), .int .i64 h] [H] (fun r S => r = .int .i64 (freeR D h) ∧ ∃ H', Ar ab N (freeD D h) H' ∧ S = [H']) := by
  obtain ⟨bb, kv, HK, T, B, used, top, hI, rfl, hK, rfl⟩ := hA
  refine Tri.split3 (Tri.forget (ycallee Try.fx38 (Nat.le_of_ble_eq_true rfl) ?_))
  unfold Try.x38
  have hl := hI.tlen
  have hbig := hI.big
  have hut := hI.ut
  have htn := hI.tn
  refine yseq (yregion (yp pC (ynil (tnorm (yseq (yseq (yregion (yp (pP rfl) (yp (pI rfl) ?_)))))))))
  refine ycons (ycall (arThere (ab := ab) (bv := .slice (some ⟨bb, 0, none⟩) N N) (used := (used : Int)) (top := (top : Int)) hK hl h) rfl rfl fun r S' h => ?_)
  obtain ⟨rfl, rfl⟩ := h
  rw [thr_kof]
  unfold freeR freeD
  cases hb : getB (dof T) h with
  | none =>
    refine yp (pNot rfl) (ynil (tnorm (ycondT rfl (yseq (yregion (yp pC (ynil (tnorm (yret (tret ?_))))))))))
    exact yfin (rI rfl) ⟨_, Junk.join3, rfl, _, ⟨bb, kv, HK, T, B, used, top, hI, rfl, hK, rfl⟩, rfl⟩
  | some b =>
    obtain ⟨i, p, rfl, ht⟩ := getB_some hb
    obtain ⟨hI2, hcu⟩ := hI.free ht
    obtain ⟨h4, _, _⟩ := hI.inn i p b ht
    have hk := kof_get ht
    obtain ⟨hlt, hge⟩ := List.getElem?_eq_some_iff.1 hk
    obtain ⟨a, c, rfl⟩ := hK.isSlice
    obtain ⟨b2, sp, fz, hz, rfl, _, rfl, rfl⟩ := hK.at' (by intro h; simp [h] at hlt)
    refine yp (pNot rfl) (ynil (tnorm (ycondF rfl (yskip (tnorm (yseq (ydraw (ytq (pP rfl) (ytq (pNilc rfl) (ytq (pFadr rfl) (ytl1 rfl rfl (ytq (pP rfl) (ytq (pNilc rfl) (ytq (pFadr rfl) (ytl1 rfl rfl (ytq (pI rfl) (ytq (pSub rfl rfl (by omega)) ?_)))))))))))))))))
    rw [show ((i : Int) + 1 - 1) = (i : Int) from by omega]
    refine ytq (pIxN rfl rfl (by omega)) (ytq (pFadr rfl) (ytl1 (v := .int .i64 ((b.length : Nat) : Int)) rfl ((row_cell (kk := 2) (j := 1) hlt rfl (by omega)).trans (by rw [hge]; rfl)) ?_))
    refine ytaltC (ycall (arCost _) rfl rfl fun r S' h => ?_) ytno
    obtain ⟨rfl, rfl⟩ := h
    refine ⟨by simp, ?_⟩
    rw [cost_len h4]
    refine ytq (pSub rfl rfl (by omega)) (ytq (pNilc rfl) (ytq (pFadr rfl) ?_))
    rw [show ((used : Int) - (costN b.length : Nat)) = ((used - costN b.length : Nat) : Int) from by omega]
    refine ytalt (yst4_2 rfl rfl (scI rfl) ?_) ytno
    refine ytdone (tnorm (yseq (yregion (yp (pP rfl) (yp (pNilc rfl) (yp (pFadr rfl) ?_))))))
    refine ycons (yload1 rfl rfl ?_)
    refine yp (pI rfl) (yp (pSub rfl rfl (by omega)) (yp pBuild0 ?_))
    rw [show ((i : Int) + 1 - 1) = (i : Int) from by omega]
    refine yp (pIxN rfl rfl (by omega)) ?_
    refine ycons (ystoreE (y := ((0 : Int), (0 : Int))) rfl (by simp; omega) rfl rfl hz ?_)
    have hK2 : Slc 100 (.slice (some ⟨b2, 0, none⟩) (kof T).length ((kof T).length + sp.length)) _ _ := Slc.setRow (ty := 100) (b := b2) (y := ((0 : Int), (0 : Int))) hz hlt rfl
    generalize ([(b2, Obj.cells (cells ((kof T ++ sp).set i ((0 : Int), (0 : Int)))).toArray 100 fz)] : List Chunk) = HK2 at hK2 ⊢
    generalize (Value.slice (some ⟨b2, 0, none⟩) (kof T).length ((kof T).length + sp.length)) = kv at hK2 ⊢
    refine ynil (tnorm (yseq (yregion (yp pC (ynil (tnorm (yret ?_)))))))
    exact yfin (rI rfl) ⟨[aseg ab (.slice (some ⟨bb, 0, none⟩) N N) kv ((used - costN b.length : Nat) : Int) (top : Int) ++ bch bb B ++ HK2], Junk.join3, rfl, _, ⟨bb, kv, HK2, T.set i none, B, used - costN b.length, top, hI2, by rw [dof_set]; rfl, by rw [kof_set]; exact hK2, rfl⟩, rfl⟩
def sizeR (D : List (Option Bt)) (h : Int) : Int × Bool := match getB D h with | some b => (b.length, true) | none => (0, false)
theorem arSize {ab N : Nat} {D : List (Option Bt)} {H : List Chunk} (hA : Ar ab N D H) (h : Int) :
    Tri Try.prog 60 #[.pointer (some ⟨ab, 0, none⟩), .int .i64 h] [H] (fun r S => r = .tuple #[.int .i64 (sizeR D h).1, .bool (sizeR D h).2] ∧ S = [H]) := by
  obtain ⟨bb, kv, HK, T, B, used, top, hI, rfl, hK, rfl⟩ := hA
  refine Tri.split3 (Tri.forget (ycallee Try.fx60 (Nat.le_of_ble_eq_true rfl) ?_))
  unfold Try.x60
  refine yseq (yregion (yp pC (yp pC (ynil (tnorm (yseq (yseq (yregion (yp (pP rfl) (yp (pI rfl) ?_))))))))))
  refine ycons (ycall (arThere (ab := ab) (bv := .slice (some ⟨bb, 0, none⟩) N N) (used := (used : Int)) (top := (top : Int)) hK hI.tlen h) rfl rfl fun r S' h => ?_)
  obtain ⟨rfl, rfl⟩ := h
  rw [thr_kof]
  unfold sizeR
  cases hb : getB (dof T) h with
  | none =>
    refine yp (pNot rfl) (ynil (tnorm (ycondT rfl (yseq (yregion (yp pC (yp pC (ynil (tnorm (yret (tret ?_)))))))))))
    exact yfin (rIB rfl rfl) ⟨_, Junk.join3, rfl, rfl⟩
  | some b =>
    obtain ⟨i, p, rfl, ht⟩ := getB_some hb
    have hl := hI.tlen
    have hk := kof_get ht
    obtain ⟨hlt, hge⟩ := List.getElem?_eq_some_iff.1 hk
    obtain ⟨a, c, rfl⟩ := hK.isSlice
    obtain ⟨b2, sp, fz, hz, rfl, _, rfl, rfl⟩ := hK.at' (by intro h; simp [h] at hlt)
    refine yp (pNot rfl) (ynil (tnorm (ycondF rfl (yskip (tnorm (yseq (yregion (yp (pP rfl) (yp (pNilc rfl) (yp (pFadr rfl) ?_))))))))))
    refine ycons (yload1 rfl rfl ?_)
    refine yp (pI rfl) (yp (pSub rfl rfl (by omega)) ?_)
    rw [show ((i : Int) + 1 - 1) = (i : Int) from by omega]
    refine yp (pIxN rfl rfl (by omega)) (yp (pFadr rfl) ?_)
    refine ycons (yload1 (v := .int .i64 ((b.length : Nat) : Int)) rfl ((row_cell (kk := 2) (j := 1) hlt rfl (by omega)).trans (by rw [hge]; rfl)) ?_)
    refine yp (pI rfl) (yp pC (ynil (tnorm (yret ?_))))
    exact yfin (rIB rfl rfl) ⟨_, Junk.join3, rfl, rfl⟩
end Go.Proofs.Ytejmbmenbailmaa
namespace Go.Proofs.Ytejmbmenbailmaa
open Go.Xs
open Enc (enc)

theorem rSI {E : Env} {S : Segs} {t u : Tmp} {p : Option Addr} {n m : Nat} {k : IntKind} {a : Int} (hv : E t = .slice p n m) (hv' : E u = .int k a) : Res Try.prog #[.tmp t, .tmp u] E S (.tuple #[.slice p n m, .int k a]) := res2 hv hv'

/-- what is wrong with so many bytes of a block from there on -/
def partE (D : List (Option Bt)) (h at_ n : Int) : Int := match getB D h with
  | none => 5
  | some b => if at_ < 0 ∨ n < 0 ∨ (b.length : Int) < n ∨ (b.length : Int) - n < at_ then 1 else 0
theorem arPart {ab bb N : Nat} {kv : Value} {used top : Nat} {T : Tab} {HK : List Chunk} {B : Bt} (hI : Inv N T B used top) (hK : Slc 100 kv (kof T) HK) (h at_ n : Int) :
    Tri Try.prog 57 #[.pointer (some ⟨ab, 0, none⟩), .int .i64 h, .int .i64 at_, .int .i64 n] [aseg ab (.slice (some ⟨bb, 0, none⟩) N N) kv (used : Int) (top : Int), HK]
      (fun r S => ((partE (dof T) h at_ n ≠ 0 ∧ r = .tuple #[.slice none 0 0, .int .i64 (partE (dof T) h at_ n)]) ∨ (partE (dof T) h at_ n = 0 ∧ ∃ (i p : Nat) (b : Bt) (x y o c : Nat), h = (i : Int) + 1 ∧ T[i]? = some (some (p, b)) ∧ at_ = x ∧ n = y ∧ x + y ≤ b.length ∧ (0 < y → o = p + 8 + x) ∧ o + y ≤ N ∧ r = .tuple #[.slice (some ⟨bb, o, none⟩) y c, .int .i64 0])) ∧
        S = [aseg ab (.slice (some ⟨bb, 0, none⟩) N N) kv (used : Int) (top : Int), HK]) := by
  refine Tri.forget (ycallee Try.fx57 (Nat.le_of_ble_eq_true rfl) ?_)
  unfold Try.x57
  have hl := hI.tlen
  have hbig := hI.big
  refine yseq (yregion (yp pC (yp pC (ynil (tnorm (yseq (yseq (yregion (yp (pP rfl) (yp (pI rfl) ?_))))))))))
  refine ycons (ycall (arThere (ab := ab) (bv := .slice (some ⟨bb, 0, none⟩) N N) (used := (used : Int)) (top := (top : Int)) hK hl h) rfl rfl fun r S' h => ?_)
  obtain ⟨rfl, rfl⟩ := h
  rw [thr_kof]
  cases hb : getB (dof T) h with
  | none =>
    refine yp (pNot rfl) (ynil (tnorm (ycondT rfl (yseq (yregion (yp pC (yp pC (ynil (tnorm (yret (tret ?_)))))))))))
    have hp : partE (dof T) h at_ n = 5 := by unfold partE; rw [hb]
    exact yfin (rSI rfl rfl) ⟨_, .of, .inl ⟨by rw [hp]; decide, by rw [hp]⟩, rfl⟩
  | some b =>
    obtain ⟨i, p, rfl, ht⟩ := getB_some hb
    obtain ⟨h4, hpt, _⟩ := hI.inn i p b ht
    have htn := hI.tn
    have hc := (costN_is b.length h4).2.1
    refine yp (pNot rfl) (ynil (tnorm (ycondF rfl (yskip (tnorm (yseq (yregion (yp (pP rfl) (yp (pI rfl) ?_)))))))))
    refine ycons (ycall (arData (ab := ab) (bb := bb) (N := N) (used := (used : Int)) (top := (top : Int)) hK (h := (i : Int) + 1) (i := i) (q := p + 8) (n := b.length) rfl ((kof_get ht).trans (by simp)) (by omega) (by omega) hl) rfl rfl fun r S' h => ?_)
    obtain ⟨rfl, rfl⟩ := h
    refine yp (pS rfl) (ynil (tnorm (yseq (yseq (yregion (yp (pI rfl) (yp (pLt rfl rfl) (yp (pB rfl) ?_))))))))
    have bad : (at_ < 0 ∨ n < 0 ∨ (b.length : Int) < n ∨ (b.length : Int) - n < at_) → partE (dof T) ((i : Int) + 1) at_ n = 1 := fun h => by unfold partE; rw [hb]; exact if_pos h
    by_cases c1 : at_ < 0
    · rw [decide_eq_true c1]
      refine ygF rfl (ygF rfl (yp (pPickT rfl rfl) (yp (pB rfl) (ygF rfl (ygF rfl (ygF rfl (ygF rfl (yp (pPickT rfl rfl) (yp (pB rfl) (ygF rfl (ygF rfl (ygF rfl (ygF rfl (ygF rfl (ygF rfl (yp (pPickT rfl rfl) (ynil (tnorm (ycondT rfl (yseq (yregion (yp pC (yp pC (ynil (tnorm (yret (tret ?_)))))))))))))))))))))))))))
      exact yfin (rSI rfl rfl) ⟨_, .of, .inl ⟨by rw [bad (.inl c1)]; decide, by rw [bad (.inl c1)]⟩, rfl⟩
    rw [decide_eq_false c1]
    refine ygT rfl (yop (pI rfl) (ygT rfl (yop (pLt rfl rfl) (yp (pPickF rfl rfl) (yp (pB rfl) ?_)))))
    by_cases c2 : n < 0
    · rw [decide_eq_true c2]
      refine ygF rfl (ygF rfl (ygF rfl (ygF rfl (yp (pPickT rfl rfl) (yp (pB rfl) (ygF rfl (ygF rfl (ygF rfl (ygF rfl (ygF rfl (ygF rfl (yp (pPickT rfl rfl) (ynil (tnorm (ycondT rfl (yseq (yregion (yp pC (yp pC (ynil (tnorm (yret (tret ?_)))))))))))))))))))))))
      exact yfin (rSI rfl rfl) ⟨_, .of, .inl ⟨by rw [bad (.inr (.inl c2))]; decide, by rw [bad (.inr (.inl c2))]⟩, rfl⟩
    rw [decide_eq_false c2]
    refine ygT rfl (yop (pI rfl) (ygT rfl (yop (pS rfl) (ygT rfl (yop (pLen rfl) (ygT rfl (yop (pGt rfl rfl) (yp (pPickF rfl rfl) (yp (pB rfl) ?_)))))))))
    by_cases c3 : (b.length : Int) < n
    · rw [decide_eq_true c3]
      refine ygF rfl (ygF rfl (ygF rfl (ygF rfl (ygF rfl (ygF rfl (yp (pPickT rfl rfl) (ynil (tnorm (ycondT rfl (yseq (yregion (yp pC (yp pC (ynil (tnorm (yret (tret ?_)))))))))))))))))
      exact yfin (rSI rfl rfl) ⟨_, .of, .inl ⟨by rw [bad (.inr (.inr (.inl c3)))]; decide, by rw [bad (.inr (.inr (.inl c3)))]⟩, rfl⟩
    rw [decide_eq_false c3]
    refine ygT rfl (yop (pI rfl) (ygT rfl (yop (pS rfl) (ygT rfl (yop (pLen rfl) (ygT rfl (yop (pI rfl) (ygT rfl (yop (pSub rfl rfl (by omega)) (ygT rfl (yop (pGt rfl rfl) (yp (pPickF rfl rfl) (ynil (tnorm ?_))))))))))))))
    by_cases c4 : (b.length : Int) - n < at_
    · rw [decide_eq_true c4]
      refine ycondT rfl (yseq (yregion (yp pC (yp pC (ynil (tnorm (yret (tret ?_))))))))
      exact yfin (rSI rfl rfl) ⟨_, .of, .inl ⟨by rw [bad (.inr (.inr (.inr c4)))]; decide, by rw [bad (.inr (.inr (.inr c4)))]⟩, rfl⟩
    rw [decide_eq_false c4]
    obtain ⟨x, rfl⟩ := Int.eq_ofNat_of_zero_le (show 0 ≤ at_ from by omega)
    obtain ⟨y, rfl⟩ := Int.eq_ofNat_of_zero_le (show 0 ≤ n from by omega)
    refine ycondF rfl (yskip (tnorm (yseq (yregion (yp (pS rfl) (yp (pI rfl) (yp (pI rfl) (yp (pI rfl) (yp (pAddN rfl rfl (by omega)) (yp (pSlFT (j := x) (k := x + y) rfl rfl rfl (by omega)) ?_))))))))))
    obtain ⟨o, ho⟩ : ∃ o, o = (if b.length = x then (if b.length = 0 then 0 else p + 8) else (if b.length = 0 then 0 else p + 8) + x * 1) := ⟨_, rfl⟩
    rw [← ho, show x + y - x = y from by omega]
    refine yp (pS rfl) (yp pC (ynil (tnorm (yret ?_))))
    have hp : partE (dof T) ((i : Int) + 1) (x : Int) (y : Int) = 0 := by
      unfold partE; rw [hb]; exact if_neg (by omega)
    refine yfin (rSI rfl rfl) ⟨_, .of, .inr ⟨hp, i, p, b, x, y, o, b.length - x, rfl, ht, rfl, rfl, by omega, fun hy => ?_, ?_, rfl⟩, rfl⟩
    · rw [ho, if_neg (by omega), if_neg (by omega)]; omega
    · rw [ho]
      split
      · split <;> omega
      · split <;> omega

/-- the bytes that are read -/
def readB (D : List (Option Bt)) (h at_ n : Int) : Bt := if partE D h at_ n = 0 then (((getB D h).getD []).drop at_.toNat).take n.toNat else []
theorem src_part {bb o y c ty : Nat} {B Y : Bt} {S : Segs} (hm : [(bb, Obj.cells (cells B).toArray ty)] ∈ S) (hy : Y.length = y) (h : ∀ k, k < y → B[o + k]? = Y[k]?) : Src S (.slice (some ⟨bb, o, none⟩) y c) Y := by
  rcases Nat.eq_zero_or_pos y with h0 | h0
  · subst h0
    obtain rfl := List.length_eq_zero_iff.1 hy
    exact .nil
  · subst hy
    refine .part hm ?_
    have e : (B.drop o).take Y.length = Y := by
      apply List.ext_getElem?
      intro k
      by_cases hk : k < Y.length
      · rw [List.getElem?_take_of_lt hk, List.getElem?_drop, h k hk]
      · rw [List.getElem?_eq_none (by rw [List.length_take]; omega), List.getElem?_eq_none (by omega)]
    show ((cells B).drop o).take (Y.length * 1) = _
    have h1 := cells_drop B o
    have h2 := cells_take (B.drop o) Y.length
    rw [show Enc.k UInt8 = 1 from rfl] at h1 h2
    rw [Nat.mul_one] at h1
    rw [h1, h2, e]
theorem cl_bytes {v : Value} {L : Bt} {S : Segs} (hS : Src S v L) (hnil : v = .slice none 0 0 ∨ ∃ a c, v = .slice (some a) L.length c) (hlen : L.length < 2 ^ 40) :
    Tri Try.prog 65 #[v] S (fun r S' => ∃ H', Slc 5 r L H' ∧ S' = H' :: S) :=
  clone_all (ty := 5) (k := 1) (bytes := 1) Try.fx65 rfl 0 rfl hS hnil hlen (by omega)
theorem arRead {ab N : Nat} {D : List (Option Bt)} {H : List Chunk} (hA : Ar ab N D H) (h at_ n : Int) :
    Tri Try.prog 40 #[.pointer (some ⟨ab, 0, none⟩), .int .i64 h, .int .i64 at_, .int .i64 n] [H]
      (fun r S => ∃ v Ho, r = .tuple #[v, .int .i64 (partE D h at_ n)] ∧ Slc 5 v (readB D h at_ n) Ho ∧ S = [Ho, H]) := by
  obtain ⟨bb, kv, HK, T, B, used, top, hI, rfl, hK, rfl⟩ := hA
  refine Tri.split3 (Tri.forget (ycallee Try.fx40 (Nat.le_of_ble_eq_true rfl) ?_))
  unfold Try.x40
  refine yseq (yregion (yp pC (yp pC (ynil (tnorm (yseq (yregion (yp (pP rfl) (yp (pI rfl) (yp (pI rfl) (yp (pI rfl) ?_)))))))))))
  refine ycons (ycall (arPart (ab := ab) (bb := bb) hI hK h at_ n) rfl rfl fun r S' h => ?_)
  obtain ⟨hr, rfl⟩ := h
  rcases hr with ⟨hne, rfl⟩ | ⟨heq, i, p, b, x, y, o, c, rfl, ht, rfl, rfl, hxy, ho, hoN, rfl⟩
  · refine yp (pU rfl) (yp (pExt rfl rfl) (yp (pExt rfl rfl) (yp (pS rfl) (yp (pI rfl) (ynil (tnorm (yseq (yregion (yp (pS rfl) ?_)))))))))
    refine ycons (ycall (cl_bytes (L := []) (S := []) .nil (.inl rfl) (by simp)) rfl rfl fun r S' h => ?_)
    obtain ⟨Ho, hLo, rfl⟩ := h
    obtain ⟨a, c, rfl⟩ := hLo.isSlice
    refine yp (pI rfl) (yp (pS rfl) (yp (pI rfl) (ynil (tnorm (yret ?_)))))
    refine yfin (rSI rfl rfl) ⟨[Ho, aseg ab (.slice (some ⟨bb, 0, none⟩) N N) kv (used : Int) (top : Int) ++ bch bb B ++ HK], .trans (.of (S0 := [Ho, aseg ab (.slice (some ⟨bb, 0, none⟩) N N) kv (used : Int) (top : Int), bch bb B, HK])) ⟨[], by simp⟩, _, Ho, rfl, ?_, rfl⟩
    unfold readB; rw [if_neg hne]; exact hLo
  · obtain ⟨_, _, hin⟩ := hI.inn i p b ht
    have h4 := (hI.inn i p b ht).1
    have hY : ((b.drop x).take y).length = y := by rw [List.length_take, List.length_drop]; omega
    refine yp (pU rfl) (yp (pExt rfl rfl) (yp (pExt rfl rfl) (yp (pS rfl) (yp (pI rfl) (ynil (tnorm (yseq (yregion (yp (pS rfl) ?_)))))))))
    refine ycons (ycall (cl_bytes (L := (b.drop x).take y) (S := [bch bb B]) (src_part (bb := bb) (o := o) (B := B) (ty := 5) (by simp) hY fun k hk => ?_) (.inr ⟨⟨bb, o, none⟩, c, by rw [hY]⟩) (by omega)) rfl rfl fun r S' h => ?_)
    · rw [ho (by omega), List.getElem?_take_of_lt hk, List.getElem?_drop, show p + 8 + x + k = p + 8 + (x + k) from by omega]
      exact hin _ (by omega)
    obtain ⟨Ho, hLo, rfl⟩ := h
    obtain ⟨a, c2, rfl⟩ := hLo.isSlice
    refine yp (pI rfl) (yp (pS rfl) (yp (pI rfl) (ynil (tnorm (yret ?_)))))
    refine yfin (rSI rfl rfl) ⟨[Ho, aseg ab (.slice (some ⟨bb, 0, none⟩) N N) kv (used : Int) (top : Int) ++ bch bb B ++ HK], .trans (.of (S0 := [Ho, aseg ab (.slice (some ⟨bb, 0, none⟩) N N) kv (used : Int) (top : Int), bch bb B, HK])) ⟨[], by simp⟩, _, Ho, by rw [heq], ?_, rfl⟩
    unfold readB
    rw [if_pos heq, getB_at, dof_get ht]
    exact hLo
/-- what is written -/
def spl (b : Bt) (x : Nat) (Y : Bt) : Bt := b.take x ++ Y ++ b.drop (x + Y.length)
theorem spl_len {b Y : Bt} {x : Nat} (h : x + Y.length ≤ b.length) : (spl b x Y).length = b.length := by
  unfold spl; simp; omega
theorem spl_get {b Y : Bt} {x : Nat} (h : x + Y.length ≤ b.length) (k : Nat) : (spl b x Y)[k]? = if k < x then b[k]? else if k < x + Y.length then Y[k - x]? else b[k]? := by
  have h1 : (b.take x).length = x := by rw [List.length_take]; omega
  unfold spl
  split
  · next h2 => rw [List.append_assoc, List.getElem?_append_left (by omega), List.getElem?_take_of_lt h2]
  · split
    · next h3 => rw [List.append_assoc, List.getElem?_append_right (by omega), List.getElem?_append_left (by omega), h1]
    · next h3 =>
      rw [List.getElem?_append_right (by simp; omega), List.getElem?_drop]
      congr 1
      simp; omega
def writeD (D : List (Option Bt)) (h at_ : Int) (Y : Bt) : List (Option Bt) := if partE D h at_ Y.length = 0 then D.set (h - 1).toNat (some (spl ((getB D h).getD []) at_.toNat Y)) else D
theorem set_bytes {B Y : Bt} {o : Nat} (h : o + Y.length ≤ B.length) : setAll (cells B).toArray.toList o (cells (Y.take Y.length)) = cells (spl B o Y) := by
  have := setAll_cells B o Y h
  rw [show Enc.k UInt8 = 1 from rfl, Nat.mul_one] at this
  rw [List.take_length]
  exact this
theorem arWrite {ab N : Nat} {D : List (Option Bt)} {H : List Chunk} {S0 : Segs} (hA : Ar ab N D H) (h at_ : Int) {v : Value} {Y : Bt} (hY : Src S0 v Y) (_hl : Y.length ≤ maxLen) :
    Tri Try.prog 33 #[.pointer (some ⟨ab, 0, none⟩), .int .i64 h, .int .i64 at_, v] (H :: S0)
      (fun r S => r = .int .i64 (partE D h at_ Y.length) ∧ ∃ H', Ar ab N (writeD D h at_ Y) H' ∧ S = H' :: S0) := by
  obtain ⟨bb, kv, HK, T, B, used, top, hI, rfl, hK, rfl⟩ := hA
  refine Tri.split3 (Tri.forget (ycallee Try.fx33 (Nat.le_of_ble_eq_true rfl) ?_))
  unfold Try.x33
  obtain ⟨va, vc, rfl⟩ := hY.isSlice
  refine yseq (yregion (yp pC (ynil (tnorm (yseq (yregion (yp (pP rfl) (yp (pI rfl) (yp (pI rfl) (yp (pS rfl) (yp (pLen rfl) ?_)))))))))))
  refine ycons (ycall (arPart (ab := ab) (bb := bb) hI hK h at_ (Y.length : Nat)) rfl rfl fun r S' h => ?_)
  obtain ⟨hr, rfl⟩ := h
  rcases hr with ⟨hne, rfl⟩ | ⟨heq, i, p, b, x, y, o, c, rfl, ht, rfl, hyl, hxy, ho, hoN, rfl⟩
  · refine yp (pU rfl) (yp (pExt rfl rfl) (yp (pExt rfl rfl) (yp (pS rfl) (yp (pI rfl) (ynil (tnorm (yseq (yregion (yp (pS rfl) (yp (pS rfl) ?_))))))))))
    refine ycons (ycopy0 rfl rfl (hY.more fun s hs => by simp [hs]) rfl ?_)
    refine ynil (tnorm (yseq (yregion (yp (pI rfl) (yp (pI rfl) (ynil (tnorm (yret ?_))))))))
    refine yfin (rI rfl) ⟨(aseg ab (.slice (some ⟨bb, 0, none⟩) N N) kv (used : Int) (top : Int) ++ bch bb B ++ HK) :: S0, .trans (.of (S0 := aseg ab (.slice (some ⟨bb, 0, none⟩) N N) kv (used : Int) (top : Int) :: bch bb B :: HK :: S0)) ⟨[], by simp⟩, rfl, _, ⟨bb, kv, HK, T, B, used, top, hI, ?_, hK, rfl⟩, rfl⟩
    unfold writeD; rw [if_neg hne]
  · obtain rfl : Y.length = y := by omega
    obtain ⟨h4, hpt, hin⟩ := hI.inn i p b ht
    have hBl := hI.len
    refine yp (pU rfl) (yp (pExt rfl rfl) (yp (pExt rfl rfl) (yp (pS rfl) (yp (pI rfl) (ynil (tnorm (yseq (yregion (yp (pS rfl) (yp (pS rfl) ?_))))))))))
    refine ycons (ycopy (b := bb) (o := o) (fz := (0, 0)) rfl rfl (hY.more fun s hs => by simp [hs]) rfl (by simp [cells_length, show Enc.k UInt8 = 1 from rfl]; omega) (.inl rfl) ?_)
    rw [set_bytes (by omega)]
    refine ynil (tnorm (yseq (yregion (yp (pI rfl) (yp (pI rfl) (ynil (tnorm (yret ?_))))))))
    have hsp := spl_get (b := B) (Y := Y) (x := o) (by omega)
    have hI2 := hI.bytes (b' := spl b x Y) (B' := spl B o Y) ht (spl_len hxy) (spl_len (by omega)) (fun z hz => ?_) (fun z hz => ?_)
    rotate_left
    · rw [hsp]
      rcases Nat.eq_zero_or_pos Y.length with h0 | h0
      · split
        · rfl
        · rw [if_neg (by omega)]
      · have := ho h0
        split
        · rfl
        · rw [if_neg (by omega)]
    · rw [hsp, spl_get hxy]
      rcases Nat.eq_zero_or_pos Y.length with h0 | h0
      · have e1 : (if p + 8 + z < o then B[p + 8 + z]? else if p + 8 + z < o + Y.length then Y[p + 8 + z - o]? else B[p + 8 + z]?) = B[p + 8 + z]? := by
          split
          · rfl
          · rw [if_neg (by omega)]
        have e2 : (if z < x then b[z]? else if z < x + Y.length then Y[z - x]? else b[z]?) = b[z]? := by
          split
          · rfl
          · rw [if_neg (by omega)]
        rw [e1, e2]; exact hin z hz
      · have := ho h0
        by_cases c1 : z < x
        · rw [if_pos c1, if_pos (by omega)]; exact hin z hz
        · rw [if_neg c1, if_neg (by omega)]
          by_cases c2 : z < x + Y.length
          · rw [if_pos c2, if_pos (by omega)]; congr 1; omega
          · rw [if_neg c2, if_neg (by omega)]; exact hin z hz
    have hks : kof (T.set i (some (p, spl b x Y))) = kof T := by
      rw [kof_set]
      refine List.ext_getElem? fun j => ?_
      rw [List.getElem?_set]
      split
      · next hij =>
        subst hij
        rw [kof_get ht]
        split
        · simp [ent, spl_len hxy]
        · next hh => rw [kof_len] at hh; exact absurd (List.getElem?_eq_some_iff.1 ht).1 hh
      · rfl
    refine yfin (rI rfl) ⟨(aseg ab (.slice (some ⟨bb, 0, none⟩) N N) kv (used : Int) (top : Int) ++ bch bb (spl B o Y) ++ HK) :: S0, .trans (.of (S0 := aseg ab (.slice (some ⟨bb, 0, none⟩) N N) kv (used : Int) (top : Int) :: bch bb (spl B o Y) :: HK :: S0)) ⟨[], by simp⟩, by rw [heq], _, ⟨bb, kv, HK, T.set i (some (p, spl b x Y)), spl B o Y, used, top, hI2, ?_, by rw [hks]; exact hK, rfl⟩, rfl⟩
    unfold writeD
    rw [if_pos heq, getB_at, dof_get ht, dof_set, show ((i : Int) + 1 - 1).toNat = i from by omega]
    rfl
end Go.Proofs.Ytejmbmenbailmaa
namespace Go.Proofs.Ytejmbmenbailmaa
open Go.Xs
open Enc (enc)

theorem Junk.re {S S1 S2 G : Segs} (h : S1.flatten = S2.flatten) [k : Sub S S1 G] : Junk S S2 := Junk.trans (Junk.of (h := k)) ⟨[], by rw [h]; simp⟩

/-- all blocks: their handles and sizes -/
def hlist (i : Nat) : List (Option Bt) → List (Int × Int)
  | [] => []
  | none :: l => hlist (i + 1) l
  | some b :: l => ((i : Int) + 1, (b.length : Int)) :: hlist (i + 1) l
theorem hlist_append : ∀ (A B : List (Option Bt)) (i : Nat), hlist i (A ++ B) = hlist i A ++ hlist (i + A.length) B
  | [], B, i => rfl
  | none :: A, B, i => by
    have := hlist_append A B (i + 1)
    simp only [List.cons_append, hlist, this, List.length_cons]
    rw [show i + 1 + A.length = i + (A.length + 1) from by omega]
  | some b :: A, B, i => by
    have := hlist_append A B (i + 1)
    simp only [List.cons_append, hlist, this, List.length_cons]
    rw [show i + 1 + A.length = i + (A.length + 1) from by omega]
theorem hlist_at {D : List (Option Bt)} {j : Nat} {o : Option Bt} (h : D[j]? = some o) : hlist 0 D = hlist 0 (D.take j) ++ hlist j (o :: D.drop (j + 1)) ∧ hlist 0 (D.take (j + 1)) = hlist 0 (D.take j) ++ hlist j [o] := by
  obtain ⟨hj, rfl⟩ := List.getElem?_eq_some_iff.1 h
  have hl : (D.take j).length = j := by rw [List.length_take]; omega
  constructor
  · have := hlist_append (D.take j) (D.drop j) 0
    rw [List.take_append_drop, hl, Nat.zero_add, List.drop_eq_getElem_cons hj] at this
    exact this
  · have := hlist_append (D.take j) [D[j]] 0
    rw [hl, Nat.zero_add] at this
    rw [← this, List.take_add_one, h]
    rfl
theorem hlist_len : ∀ (D : List (Option Bt)) (i : Nat), (hlist i D).length ≤ D.length
  | [], _ => Nat.le_refl _
  | none :: l, i => by have := hlist_len l (i + 1); simp [hlist]; omega
  | some b :: l, i => by have := hlist_len l (i + 1); simp [hlist]; omega
theorem hlist_mem : ∀ (D : List (Option Bt)) (i : Nat) (e : Int × Int), e ∈ hlist i D ↔ ∃ j b, D[j]? = some (some b) ∧ e = (((i + j : Nat) : Int) + 1, (b.length : Int))
  | [], i, e => by simp [hlist]
  | none :: l, i, e => by
    rw [hlist, hlist_mem l (i + 1) e]
    constructor
    · rintro ⟨j, b, h, rfl⟩
      exact ⟨j + 1, b, by simpa using h, by rw [show i + (j + 1) = i + 1 + j from by omega]⟩
    · rintro ⟨j, b, h, rfl⟩
      cases j with
      | zero => simp at h
      | succ j => exact ⟨j, b, by simpa using h, by rw [show i + (j + 1) = i + 1 + j from by omega]⟩
  | some c :: l, i, e => by
    rw [hlist, List.mem_cons, hlist_mem l (i + 1) e]
    constructor
    · rintro (rfl | ⟨j, b, h, rfl⟩)
      · exact ⟨0, c, rfl, rfl⟩
      · exact ⟨j + 1, b, by simpa using h, by rw [show i + (j + 1) = i + 1 + j from by omega]⟩
    · rintro ⟨j, b, h, rfl⟩
      cases j with
      | zero => simp at h; subst h; exact .inl rfl
      | succ j => exact .inr ⟨j, b, by simpa using h, by rw [show i + (j + 1) = i + 1 + j from by omega]⟩
def hv (e : Int × Int) : Array Value := #[.int .i64 e.1, .int .i64 e.2]

theorem arHandles {p : Option Addr} : Tri Try.prog 72 #[.pointer p] [] (fun r S => ∃ bx, r = .func (.func 78) #[] #[.pointer (some ⟨bx, 0, none⟩)] ∧ S = [[(bx, .cells #[.pointer p] 24)]]) := by
  refine Tri.forget (ycallee Try.fx72 (Nat.le_of_ble_eq_true rfl) ?_)
  unfold Try.x72
  refine yseq (yregion ?_)
  refine ycons (ybx (scP rfl) fun p1 => ?_)
  refine yp pC (ynil (tnorm (yseq (yregion (yp (pFn1 (scP rfl)) (yp (pF rfl) (ynil (tnorm (yret ?_)))))))))
  exact yfin (rF rfl) ⟨_, .of, _, rfl, rfl⟩
theorem clBlocks {v : Value} {L : List (Int × Int)} {H : List Chunk} (hS : Slc 100 v L H) (hlen : L.length < 2 ^ 40) :
    Tri Try.prog 79 #[v] [H] (fun r S' => ∃ H', Slc 100 r L H' ∧ S' = [H', H]) :=
  clone_all (ty := 100) (k := 2) (bytes := 16) Try.fx79 rfl (0, 0) rfl (hS.src (by simp)) hS.nilOr hlen (by omega)
theorem itHandles {ab N bx : Nat} {D : List (Option Bt)} {H : List Chunk} {S0 : Segs} (hA : Ar ab N D H) :
    IterOk Try.prog 78 #[] #[.pointer (some ⟨bx, 0, none⟩)] [[(bx, .cells #[.pointer (some ⟨ab, 0, none⟩)] 24)]] (H :: S0)
      (fun pre x => pre ++ [x] <+: (hlist 0 D).map hv) (fun xs => xs = (hlist 0 D).map hv) := by
  obtain ⟨bb, kv, HK, T, B, used, top, hI, rfl, hK, rfl⟩ := hA
  have hl := hI.tlen
  intro l c J Jx hJ0 hround
  have e0 : (#[] ++ #[.func (.yield l) #[] #[]] ++ #[.pointer (some ⟨bx, 0, none⟩)] : Array Value) = #[.func (.yield l) #[] #[], .pointer (some ⟨bx, 0, none⟩)] := rfl
  rw [e0]
  refine Tri.perm (S := [[c], [(bx, .cells #[.pointer (some ⟨ab, 0, none⟩)] 24)], aseg ab (.slice (some ⟨bb, 0, none⟩) N N) kv (used : Int) (top : Int), bch bb B, HK] ++ S0) (by simp) ?_
  refine Tri.forget (ycallee Try.fx78 (Nat.le_of_ble_eq_true rfl) ?_)
  unfold Try.x78
  obtain ⟨a0, c0, rfl⟩ := hK.isSlice
  refine yseq (yseq (yregion ?_))
  refine ycons (yload1 rfl rfl ?_)
  refine yp (pNilP rfl rfl) (ynil (tnorm (ycondF rfl (yskip (tnorm (yseq (yregion ?_)))))))
  refine ycons (yload1 rfl rfl ?_)
  refine yp (pNilc rfl) (yp (pFadr rfl) ?_)
  refine ycons (yload1 rfl rfl ?_)
  refine ycons (ycall (clBlocks hK hl) rfl rfl fun v S' h => ?_)
  obtain ⟨H1, hK1, rfl⟩ := h
  obtain ⟨a1, c1, rfl⟩ := hK1.isSlice
  refine yp (pLen rfl) (yp pC (ynil (tnorm (yblock ?_))))
  refine yloop (σ := Nat) (fun i E S => Has E [(0, .func (.yield l) #[] #[]), (11, .slice a1 (kof T).length c1), (12, .int .i64 ((kof T).length : Int)), (13, .int .i64 i)] ∧ i ≤ T.length ∧ ∃ T', J ((hlist 0 ((dof T).take i)).map hv) T' ∧ Junk S (H1 :: T')) (fun i => T.length - i) 0
    ⟨⟨rfl, rfl, rfl, rfl, trivial⟩, Nat.zero_le _, [c] :: (aseg ab (.slice (some ⟨bb, 0, none⟩) N N) (.slice a0 (kof T).length c0) (used : Int) (top : Int) ++ bch bb B ++ HK) :: S0, hJ0, Junk.re (S1 := [H1, [c], aseg ab (.slice (some ⟨bb, 0, none⟩) N N) (.slice a0 (kof T).length c0) (used : Int) (top : Int), bch bb B, HK] ++ S0) (by simp)⟩ fun i E S ⟨hE, hi, T', hJ, hk⟩ => ?_
  have hkl := kof_len T
  obtain ⟨E0, e0⟩ := has_puts hE; subst e0; clear hE
  refine yforget hk (yseq (yregion (yp (pLt rfl rfl) (ynil (tnorm (yseq ?_))))))
  refine ycondD rfl (fun h => ?_) (fun h => ?_)
  · have hlt : i < (kof T).length := by omega
    obtain ⟨bb2, sp, fz, hz, rfl, hm, hc, rfl⟩ := hK1.at' (by intro h; simp [h] at hlt)
    refine yskip (tnorm (yseq (yblock (yseq (yregion (yp (pI rfl) (yp (pIxN rfl rfl (by omega)) ?_)))))))
    refine ycons (yloadN (l := enc (kof T)[i]) rfl (row_elem hlt rfl) rfl ?_)
    refine ycons (yalloc fun p4 => ?_)
    refine yp (pI rfl) ?_
    refine ycons (ystAll (c' := [.int .i64 (kof T)[i].1, .int .i64 (kof T)[i].2]) rfl rfl rfl rfl rfl ?_)
    refine ynil (tnorm (yseq (yregion (yp (pFadr rfl) ?_))))
    refine ycons (yload1 rfl rfl ?_)
    refine yp (pGt rfl rfl) (yp (pB rfl) ?_)
    have hTi : T[i]? = some (T[i]'(by omega)) := List.getElem?_eq_getElem _
    generalize hte : T[i]'(by omega) = te at hTi
    have hki : (kof T)[i] = ent te := by
      have : (kof T)[i]? = some (ent te) := by unfold kof; rw [List.getElem?_map, hTi]; rfl
      rw [List.getElem?_eq_getElem hlt] at this
      exact Option.some.inj this
    have hDi : (dof T)[i]? = some (te.map Prod.snd) := by unfold dof; rw [List.getElem?_map, hTi]; rfl
    obtain ⟨hs1, hs2⟩ := hlist_at hDi
    rw [hki]
    cases te with
    | none =>
      rw [decide_eq_false (show ¬ (0 : Int) < (ent none).1 from by decide)]
      refine ygF rfl (ygF rfl (ygF rfl (ygF rfl (ygF rfl (ygF rfl (ygF rfl (yp (pPickF rfl rfl) (ynil (tnorm (ycondF rfl (yskip (bnorm (tnorm (yregion (yp (pInc rfl rfl (by omega)) (yp (pI rfl) (ynil (tnorm ?_))))))))))))))))))
      refine ⟨i + 1, ⟨⟨rfl, rfl, rfl, rfl, trivial⟩, by omega, T', ?_, .of⟩, by omega⟩
      rw [hs2]; simpa [hlist] using hJ
    | some pb =>
      obtain ⟨p, b⟩ := pb
      rw [decide_eq_true (show (0 : Int) < (ent (some (p, b))).1 from by show (0 : Int) < (p : Int) + 8; omega)]
      refine ygT rfl (yop (pF rfl) (ygT rfl (yop (pI rfl) (ygT rfl (yop (pInc rfl rfl (by omega)) (ygT rfl (yop (pFadr rfl) (ygT rfl ?_))))))))
      refine (yload1 rfl rfl ?_)
      refine ygT rfl ?_
      have hV : (hlist 0 ((dof T).take i)).map hv ++ [hv ((i : Int) + 1, (b.length : Int))] <+: (hlist 0 (dof T)).map hv := by
        rw [hs1, List.map_append]
        exact ⟨(hlist (i + 1) ((dof T).drop (i + 1))).map hv, by simp [hlist]⟩
      refine yyieldI (hround _ _ T' hV hJ) rfl rfl fun bl T2 h => ?_
      rcases h with ⟨rfl, hJ'⟩ | ⟨rfl, hJx⟩
      · refine ygT rfl (yop (pNot rfl) (yp (pPickT rfl rfl) (ynil (tnorm (ycondF rfl (yskip (bnorm (tnorm (yregion (yp (pInc rfl rfl (by omega)) (yp (pI rfl) (ynil (tnorm ?_)))))))))))))
        refine ⟨i + 1, ⟨⟨rfl, rfl, rfl, rfl, trivial⟩, by omega, T2, ?_, .of⟩, by omega⟩
        rw [hs2, List.map_append]; exact hJ'
      · refine ygT rfl (yop (pNot rfl) (yp (pPickT rfl rfl) (ynil (tnorm (ycondT rfl (yret (bret (tret (tret (bret ?_))))))))))
        exact yfin res0 ⟨T2, .of, .inr ⟨_, hJx⟩⟩
  · refine yexit (texit (texit (bexit ?_)))
    refine yfinN res0 ⟨T', .of, .inl ⟨_, ?_, hJ⟩⟩
    rw [List.take_of_length_le (by rw [dof_len]; omega)]

/-! ### the order of the blocks -/
theorem Wk.of_key {α : Type} (key : α → Int) : Wk (fun a b => key a < key b) := ⟨fun _ => by omega, fun _ _ h => by omega, fun _ _ _ h1 h2 => by omega⟩
theorem ldInt : Ld (α := Int) (fun a => .load1 a) (fun a => .int .i64 a) := ⟨fun {R E a b off c ty fz x} ha hm hx => .load1 ha hm (by
    have h : (c.toList.drop off).take 1 = [Value.int .i64 x] := hx
    have := congrArg (fun l => l[0]?) h
    simp at this
    exact this), fun _ => rfl⟩
theorem pdInt : PdF Try.prog (fun a => .load1 a) 1 80 83 84 85 86 87 88 89 90 :=
  ⟨Try.fx80, Try.fx83, ⟨_, Try.fx84, Try.fx93⟩,
    ⟨_, _, _, _, _, _, Try.fx85, Try.fx94, Try.fx81, Try.fx92, Try.fx95⟩,
    ⟨_, _, _, _, Try.fx86, Try.fx96, Try.fx97, Try.fx98⟩,
    Try.fx87, Try.fx88, Try.fx89, Try.fx90⟩
def cmp3 (a b : Int) : Int := if a < b then -1 else if b < a then 1 else 0
theorem cmp3_lt (a b : Int) : cmp3 a b < 0 ↔ a < b := by
  unfold cmp3
  split
  · next h => exact ⟨fun _ => h, fun _ => by decide⟩
  · split <;> omega
theorem cNaN (a : Int) : Tri Try.prog 82 #[.int .i64 a] [] (fun r S => r = .bool false ∧ S = []) := by
  refine Tri.forget (ycallee Try.fx82 (Nat.le_of_ble_eq_true rfl) ?_)
  unfold Try.x82
  refine yseq (yregion (yp pC (ynil (tnorm (yseq (yregion (yp (pI rfl) (yp (pI rfl) (yp (pNe rfl rfl) (yp (pB rfl) (ynil (tnorm (yret ?_)))))))))))))
  rw [decide_eq_true rfl]
  exact yfin (rB rfl) ⟨_, .of, rfl, rfl⟩
theorem cmpInt (a b : Int) : Tri Try.prog 75 #[.int .i64 a, .int .i64 b] [] (fun r S => r = .int .i64 (cmp3 a b) ∧ S = []) := by
  refine Tri.forget (ycallee Try.fx75 (Nat.le_of_ble_eq_true rfl) ?_)
  unfold Try.x75
  refine yseq (yregion (yp pC (ynil (tnorm (yseq (yregion (yp (pI rfl) ?_)))))))
  refine ycons (ycall (cNaN a) rfl rfl fun r S' h => ?_)
  obtain ⟨rfl, rfl⟩ := h
  refine yp (pB rfl) (ynil (tnorm (yseq (yregion (yp (pI rfl) ?_)))))
  refine ycons (ycall (cNaN b) rfl rfl fun r S' h => ?_)
  obtain ⟨rfl, rfl⟩ := h
  refine yp (pB rfl) (ynil (tnorm (yseq (yseq (yregion (yp (pB rfl) (ynil (tnorm (ycondF rfl (yskip (tnorm (yseq (yseq (yregion (yp (pB rfl) (ynil (tnorm (ycondF rfl (yskip (tnorm (yseq (yseq (yregion (yp (pI rfl) (yp (pI rfl) (yp (pLt rfl rfl) (ynil (tnorm ?_))))))))))))))))))))))))))))
  refine ycondD rfl (fun h => ?_) (fun h => ?_)
  · refine yseq (yregion (yp pC (ynil (tnorm (yret (tret ?_))))))
    exact yfin (rI rfl) ⟨_, .of, by rw [cmp3, if_pos h], rfl⟩
  refine yskip (tnorm (yseq (yseq (yregion (yp (pI rfl) (yp (pI rfl) (yp (pGt rfl rfl) (ynil (tnorm ?_)))))))))
  refine ycondD rfl (fun h2 => ?_) (fun h2 => ?_)
  · refine yseq (yregion (yp pC (ynil (tnorm (yret (tret ?_))))))
    exact yfin (rI rfl) ⟨_, .of, by rw [cmp3, if_neg h, if_pos h2], rfl⟩
  refine yskip (tnorm (yseq (yregion (yp pC (ynil (tnorm (yret ?_)))))))
  exact yfin (rI rfl) ⟨_, .of, by rw [cmp3, if_neg h, if_neg h2], rfl⟩
/-- where a handle's block stands -/
def pos (T : Tab) (h : Int) : Int := match (T[(h - 1).toNat]?).join with | some (p, _) => p | none => 0
def isH (T : Tab) (h : Int) : Prop := ∃ (i p : Nat) (b : Bt), h = (i : Int) + 1 ∧ T[i]? = some (some (p, b))
theorem pos_at {T : Tab} {i p : Nat} {b : Bt} (h : T[i]? = some (some (p, b))) : pos T ((i : Int) + 1) = p := by
  unfold pos
  rw [show ((i : Int) + 1 - 1).toNat = i from by omega, h]; rfl
theorem arCmp {ab p1 : Nat} {bv kv : Value} {used top : Int} {T : Tab} {HK : List Chunk} (hK : Slc 100 kv (kof T) HK) (hlen : (kof T).length < 2 ^ 40) :
    Cm Try.prog 74 #[.pointer (some ⟨p1, 0, none⟩)] ([(p1, .cells #[.pointer (some ⟨ab, 0, none⟩)] 24)] ++ aseg ab bv kv used top ++ HK) (fun a => .int .i64 a) (isH T) (fun x y => pos T x < pos T y) := by
  refine ⟨Wk.of_key _, fun x y hx hy => ?_⟩
  obtain ⟨i, p, b, rfl, hi⟩ := hx
  obtain ⟨j, q, c, rfl, hj⟩ := hy
  rw [pos_at hi, pos_at hj]
  refine Tri.split3 (Tri.forget (ycallee Try.fx74 (Nat.le_of_ble_eq_true rfl) ?_))
  unfold Try.x74
  have hki := kof_get hi
  have hkj := kof_get hj
  obtain ⟨hlti, hgi⟩ := List.getElem?_eq_some_iff.1 hki
  obtain ⟨hltj, hgj⟩ := List.getElem?_eq_some_iff.1 hkj
  obtain ⟨a, cc, rfl⟩ := hK.isSlice
  obtain ⟨b2, sp, fz, hz, rfl, _, rfl, rfl⟩ := hK.at' (by intro h; simp [h] at hlti)
  refine yseq (yregion (yp pC (ynil (tnorm (yseq (ydraw (ytl1 rfl rfl (ytq (pNilc rfl) (ytq (pFadr rfl) (ytl1 rfl rfl (ytq (pI rfl) (ytq (pSub rfl rfl (by omega)) ?_))))))))))))
  rw [show ((i : Int) + 1 - 1) = (i : Int) from by omega]
  refine ytq (pIxN rfl rfl (by omega)) (ytq (pFadr rfl) (ytl1 (v := .int .i64 ((p : Int) + 8)) rfl ((row_cell (kk := 2) (j := 0) hlti rfl (by omega)).trans (by rw [hgi]; rfl)) (ytl1 rfl rfl (ytq (pNilc rfl) (ytq (pFadr rfl) (ytl1 rfl rfl (ytq (pI rfl) (ytq (pSub rfl rfl (by omega)) ?_))))))))
  rw [show ((j : Int) + 1 - 1) = (j : Int) from by omega]
  refine ytq (pIxN rfl rfl (by omega)) (ytq (pFadr rfl) (ytl1 (v := .int .i64 ((q : Int) + 8)) rfl ((row_cell (kk := 2) (j := 0) hltj rfl (by omega)).trans (by rw [hgj]; rfl)) ?_))
  refine ytalt (ycall (cmpInt _ _) rfl rfl fun r S' h => ?_) ytno
  obtain ⟨rfl, rfl⟩ := h
  refine ytq (pI rfl) (ytdone (tnorm (yret ?_)))
  refine yfin (rI rfl) ⟨_, Junk.join3, ⟨_, rfl, ?_⟩, rfl⟩
  rw [cmp3_lt]; omega
end Go.Proofs.Ytejmbmenbailmaa
