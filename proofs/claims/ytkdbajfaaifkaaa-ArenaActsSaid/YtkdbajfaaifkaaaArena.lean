/- The arena (chapter 6): contracts of its small functions. -/
import Derived.Test.YtkdbajfaaifkaaaBytes
import Derived.Test.YtkdbajfaaifkaaaFArena
import Derived.Test.YtkdbajfaaifkaaaFSort
namespace Go.Proofs.Ytkdbajfaaifkaaa
open Go.Xs
open Enc (enc)


/-- what a block takes -/
def costN (n : Nat) : Nat := if n + 8 ≤ 16 then 16 else if n + 8 ≤ 32 then 32 else if n + 8 ≤ 64 then 64 else if n + 8 ≤ 128 then 128 else if n + 8 ≤ 256 then 256 else
  if n + 8 ≤ 512 then 512 else if n + 8 ≤ 1024 then 1024 else if n + 8 ≤ 2048 then 2048 else if n + 8 ≤ 4096 then 4096 else 8192
def cost (n : Int) : Int := if n < 0 ∨ 4096 < n then 0 else costN n.toNat
def Pow (c : Nat) : Prop := c = 16 ∨ c = 32 ∨ c = 64 ∨ c = 128 ∨ c = 256 ∨ c = 512 ∨ c = 1024 ∨ c = 2048 ∨ c = 4096 ∨ c = 8192
theorem costN_is (n : Nat) (hn : n ≤ 4096) : Pow (costN n) ∧ n + 8 ≤ costN n ∧ (costN n = 16 ∨ costN n < 2 * (n + 8)) := by
  unfold costN Pow
  repeat' split
  all_goals omega
theorem costN_eq {n c : Nat} (hn : n ≤ 4096) (hp : Pow c) (h1 : n + 8 ≤ c) (h2 : c = 16 ∨ c < 2 * (n + 8)) : costN n = c := by
  unfold costN
  unfold Pow at hp
  repeat' split
  all_goals omega

theorem arCost (n : Int) : Tri Try.prog 13 #[.int .i64 n] [] (fun r S => r = .int .i64 (cost n) ∧ S = []) := by
  refine Tri.forget (ycallee Try.fx13 (Nat.le_of_ble_eq_true rfl) ?_)
  unfold Try.x13
  refine yseq ?_
  refine yregion ?_
  refine yp pC ?_
  refine ynil ?_
  refine tnorm ?_
  refine yseq ?_
  refine yseq ?_
  refine yregion ?_
  refine yp (pI rfl) ?_
  refine yp (pLt rfl rfl) ?_
  refine yp (pB rfl) ?_
  by_cases h1 : n < 0
  · rw [decide_eq_true h1]
    refine ygF rfl ?_
    refine ygF rfl ?_
    refine yp (pPickT rfl rfl) ?_
    refine ynil ?_
    refine tnorm ?_
    refine ycondT rfl ?_
    refine yseq ?_
    refine yregion ?_
    refine yp pC ?_
    refine ynil ?_
    refine tnorm ?_
    refine yret ?_
    refine tret ?_
    exact yfin (rI rfl) ⟨_, .of, by rw [cost, if_pos (.inl h1)], rfl⟩
  rw [decide_eq_false h1]
  refine ygT rfl ?_
  refine yop (pI rfl) ?_
  refine ygT rfl ?_
  refine yop (pGt rfl rfl) ?_
  refine yp (pPickF rfl rfl) ?_
  refine ynil ?_
  refine tnorm ?_
  by_cases h2 : 4096 < n
  · rw [decide_eq_true h2]
    refine ycondT rfl ?_
    refine yseq ?_
    refine yregion ?_
    refine yp pC ?_
    refine ynil ?_
    refine tnorm ?_
    refine yret ?_
    refine tret ?_
    exact yfin (rI rfl) ⟨_, .of, by rw [cost, if_pos (.inr h2)], rfl⟩
  rw [decide_eq_false h2]
  obtain ⟨m, rfl⟩ := Int.eq_ofNat_of_zero_le (show 0 ≤ n from by omega)
  refine ycondF rfl ?_
  refine yskip ?_
  refine tnorm ?_
  refine yseq ?_
  refine yregion ?_
  refine yp pC ?_
  refine ynil ?_
  refine tnorm ?_
  refine yseq ?_
  refine yblock ?_
  refine yloop (σ := Nat) (fun c E S => Has E [(0, .int .i64 m), (3, .int .i64 c)] ∧ Pow c ∧ (c = 16 ∨ c < 2 * (m + 8)) ∧ Junk S []) (fun c => 16384 - c) 16 ⟨⟨rfl, rfl, trivial⟩, .inl rfl, .inl rfl, .self⟩ fun c E S ⟨hE, hp, hc, hJ⟩ => ?_
  have hcb : c ≤ 8192 := by unfold Pow at hp; omega
  obtain ⟨E0, e0⟩ := has_puts hE; subst e0; clear hE
  refine yforget hJ ?_
  refine yseq ?_
  refine yseq ?_
  refine yregion ?_
  refine yp (pI rfl) ?_
  refine yp (pI rfl) ?_
  refine yp (pAdd rfl rfl (by omega)) ?_
  refine yp (pLt rfl rfl) ?_
  refine ynil ?_
  refine tnorm ?_
  refine ycondD rfl (fun h => ?_) (fun h => ?_)
  · refine yskip ?_
    refine tnorm ?_
    refine yblock ?_
    refine yregion ?_
    refine yp (pI rfl) ?_
    refine yp (v := .int .i64 ((c * 2 : Nat) : Int)) ?_ ?_
    · rw [pMul (m := (c : Int)) (n := 2) rfl rfl (by omega)]
      congr 2
    refine yp (pI rfl) ?_
    refine ynil ?_
    refine bnorm ?_
    refine tnorm ?_
    exact ⟨c * 2, ⟨⟨rfl, rfl, trivial⟩, by unfold Pow at hp ⊢; omega, by omega, .of⟩, by unfold Pow at hp; omega⟩
  · refine yexit ?_
    refine texit ?_
    refine texit ?_
    refine bexit ?_
    refine tnorm ?_
    refine yseq ?_
    refine yregion ?_
    refine yp (pI rfl) ?_
    refine yp (pI rfl) ?_
    refine ynil ?_
    refine tnorm ?_
    refine yret ?_
    refine yfin (rI rfl) ⟨_, .of, ?_, rfl⟩
    rw [cost, if_neg (by omega), Int.toNat_natCast, costN_eq (c := c) (by omega) hp (by omega) hc]

abbrev aseg (ab : Nat) (bv kv : Value) (used top : Int) : List Chunk := [(ab, .cells #[bv, kv, .int .i64 used, .int .i64 top] 87)]

/-- is there such a block? -/
def thr (K : List (Int × Int)) (h : Int) : Bool := decide (1 ≤ h) && (match K[(h - 1).toNat]? with | some e => decide (0 < e.1) | none => false)

theorem arThere {ab : Nat} {bv kv : Value} {used top : Int} {K : List (Int × Int)} {H : List Chunk} (hK : Slc 89 kv K H) (hlen : K.length < 2 ^ 40) (h : Int) :
    Tri Try.prog 56 #[.pointer (some ⟨ab, 0, none⟩), .int .i64 h] [aseg ab bv kv used top, H] (fun r S => r = .bool (thr K h) ∧ S = [aseg ab bv kv used top, H]) := by
  refine Tri.forget (ycallee Try.fx56 (Nat.le_of_ble_eq_true rfl) ?_)
  unfold Try.x56
  obtain ⟨a, c, rfl⟩ := hK.isSlice
  refine yseq ?_
  refine yregion ?_
  refine yp pC ?_
  refine ynil ?_
  refine tnorm ?_
  refine yseq ?_
  refine yregion ?_
  refine yp (pP rfl) ?_
  refine yp (pNilPn rfl rfl) ?_
  refine yp (pB rfl) ?_
  refine ygT rfl ?_
  refine yop (pI rfl) ?_
  refine ygT rfl ?_
  refine yop (pGe rfl rfl) ?_
  refine yp (pPickT rfl rfl) ?_
  refine yp (pB rfl) ?_
  by_cases h1 : 1 ≤ h
  · rw [decide_eq_true h1]
    refine ygT rfl ?_
    refine yop (pI rfl) ?_
    refine ygT rfl ?_
    refine yop (pP rfl) ?_
    refine ygT rfl ?_
    refine yop (pNilc rfl) ?_
    refine ygT rfl ?_
    refine yop (pFadr rfl) ?_
    refine ygT rfl ?_
    refine (yload1 rfl rfl ?_)
    refine ygT rfl ?_
    refine yop (pLen rfl) ?_
    refine ygT rfl ?_
    refine yop (pLe rfl rfl) ?_
    refine yp (pPickT rfl rfl) ?_
    refine yp (pB rfl) ?_
    by_cases h2 : h ≤ (K.length : Int)
    · rw [decide_eq_true h2]
      have hlt : (h - 1).toNat < K.length := by omega
      obtain ⟨bb, sp, fz, hz, rfl, _, rfl, rfl⟩ := hK.at' (by intro h; simp [h] at hlt)
      obtain ⟨i, hi⟩ : ∃ i : Nat, h = (i : Int) + 1 := ⟨(h - 1).toNat, by omega⟩
      subst hi
      have hti : ((i : Int) + 1 - 1).toNat = i := by omega
      rw [hti] at hlt
      refine ygT rfl ?_
      refine yop (pP rfl) ?_
      refine ygT rfl ?_
      refine yop (pNilc rfl) ?_
      refine ygT rfl ?_
      refine yop (pFadr rfl) ?_
      refine ygT rfl ?_
      refine (yload1 rfl rfl ?_)
      refine ygT rfl ?_
      refine yop (pI rfl) ?_
      refine ygT rfl ?_
      refine yop (pSub rfl rfl (by omega)) ?_
      refine ygT rfl ?_
      rw [show ((i : Int) + 1 - 1) = (i : Int) from by omega]
      refine yop (pIxN rfl rfl (by omega)) ?_
      refine ygT rfl ?_
      refine yop (pFadr rfl) ?_
      refine ygT rfl ?_
      refine yload1 (v := .int .i64 K[i].1) rfl ((row_cell (kk := 2) (j := 0) hlt rfl (by omega)).trans rfl) ?_
      refine ygT rfl ?_
      refine yop (pGt rfl rfl) ?_
      refine yp (pPickT rfl rfl) ?_
      refine yp (pB rfl) ?_
      refine ynil ?_
      refine tnorm ?_
      refine yret ?_
      refine yfin (rB rfl) ⟨_, .of, ?_, rfl⟩
      rw [thr, decide_eq_true h1, hti, List.getElem?_eq_getElem hlt]
      rfl
    · rw [decide_eq_false h2]
      refine ygF rfl ?_
      refine ygF rfl ?_
      refine ygF rfl ?_
      refine ygF rfl ?_
      refine ygF rfl ?_
      refine ygF rfl ?_
      refine ygF rfl ?_
      refine ygF rfl ?_
      refine ygF rfl ?_
      refine ygF rfl ?_
      refine yp (pPickF rfl rfl) ?_
      refine yp (pB rfl) ?_
      refine ynil ?_
      refine tnorm ?_
      refine yret ?_
      refine yfin (rB rfl) ⟨_, .of, ?_, rfl⟩
      rw [thr, List.getElem?_eq_none (by omega)]
      simp
  · rw [decide_eq_false h1]
    refine ygF rfl ?_
    refine ygF rfl ?_
    refine ygF rfl ?_
    refine ygF rfl ?_
    refine ygF rfl ?_
    refine ygF rfl ?_
    refine ygF rfl ?_
    refine yp (pPickF rfl rfl) ?_
    refine yp (pB rfl) ?_
    refine ygF rfl ?_
    refine ygF rfl ?_
    refine ygF rfl ?_
    refine ygF rfl ?_
    refine ygF rfl ?_
    refine ygF rfl ?_
    refine ygF rfl ?_
    refine ygF rfl ?_
    refine ygF rfl ?_
    refine ygF rfl ?_
    refine yp (pPickF rfl rfl) ?_
    refine yp (pB rfl) ?_
    refine ynil ?_
    refine tnorm ?_
    refine yret ?_
    refine yfin (rB rfl) ⟨_, .of, ?_, rfl⟩
    rw [thr, decide_eq_false h1]; rfl
theorem arTheren (h : Int) : Tri Try.prog 56 #[.pointer none, .int .i64 h] [] (fun r S => r = .bool false ∧ S = []) := by
  refine Tri.forget (ycallee Try.fx56 (Nat.le_of_ble_eq_true rfl) ?_)
  unfold Try.x56
  refine yseq ?_
  refine yregion ?_
  refine yp pC ?_
  refine ynil ?_
  refine tnorm ?_
  refine yseq ?_
  refine yregion ?_
  refine yp (pP rfl) ?_
  refine yp (pNilPn rfl rfl) ?_
  refine yp (pB rfl) ?_
  refine ygF rfl ?_
  refine ygF rfl ?_
  refine yp (pPickF rfl rfl) ?_
  refine yp (pB rfl) ?_
  refine ygF rfl ?_
  refine ygF rfl ?_
  refine ygF rfl ?_
  refine ygF rfl ?_
  refine ygF rfl ?_
  refine ygF rfl ?_
  refine ygF rfl ?_
  refine yp (pPickF rfl rfl) ?_
  refine yp (pB rfl) ?_
  refine ygF rfl ?_
  refine ygF rfl ?_
  refine ygF rfl ?_
  refine ygF rfl ?_
  refine ygF rfl ?_
  refine ygF rfl ?_
  refine ygF rfl ?_
  refine ygF rfl ?_
  refine ygF rfl ?_
  refine ygF rfl ?_
  refine yp (pPickF rfl rfl) ?_
  refine yp (pB rfl) ?_
  refine ynil ?_
  refine tnorm ?_
  refine yret ?_
  exact yfin (rB rfl) ⟨_, .of, rfl, rfl⟩

theorem arUsed {ab : Nat} {bv kv : Value} {used top : Int} : Tri Try.prog 31 #[.pointer (some ⟨ab, 0, none⟩)] [aseg ab bv kv used top] (fun r S => r = .int .i64 used ∧ S = [aseg ab bv kv used top]) := by
  refine Tri.forget (ycallee Try.fx31 (Nat.le_of_ble_eq_true rfl) ?_)
  unfold Try.x31
  refine yseq ?_
  refine yregion ?_
  refine yp pC ?_
  refine ynil ?_
  refine tnorm ?_
  refine yseq ?_
  refine yseq ?_
  refine yregion ?_
  refine yp (pP rfl) ?_
  refine yp (pNilP rfl rfl) ?_
  refine ynil ?_
  refine tnorm ?_
  refine ycondF rfl ?_
  refine yskip ?_
  refine tnorm ?_
  refine yseq ?_
  refine yregion ?_
  refine yp (pP rfl) ?_
  refine yp (pNilc rfl) ?_
  refine yp (pFadr rfl) ?_
  refine ycons (yload1 rfl rfl ?_)
  refine yp (pI rfl) ?_
  refine ynil ?_
  refine tnorm ?_
  refine yret ?_
  exact yfin (rI rfl) ⟨_, .of, rfl, rfl⟩
theorem arUsedn : Tri Try.prog 31 #[.pointer none] [] (fun r S => r = .int .i64 0 ∧ S = []) := by
  refine Tri.forget (ycallee Try.fx31 (Nat.le_of_ble_eq_true rfl) ?_)
  unfold Try.x31
  refine yseq ?_
  refine yregion ?_
  refine yp pC ?_
  refine ynil ?_
  refine tnorm ?_
  refine yseq ?_
  refine yseq ?_
  refine yregion ?_
  refine yp (pP rfl) ?_
  refine yp (pNilP rfl rfl) ?_
  refine ynil ?_
  refine tnorm ?_
  refine ycondT rfl ?_
  refine yseq ?_
  refine yregion ?_
  refine yp pC ?_
  refine ynil ?_
  refine tnorm ?_
  refine yret ?_
  refine tret ?_
  exact yfin (rI rfl) ⟨_, .of, rfl, rfl⟩
theorem arBudget {ab : Nat} {bv kv : Value} {used top : Int} {B : List UInt8} {H : List Chunk} (hB : Slc 5 bv B H) : Tri Try.prog 63 #[.pointer (some ⟨ab, 0, none⟩)] [aseg ab bv kv used top] (fun r S => r = .int .i64 B.length ∧ S = [aseg ab bv kv used top]) := by
  refine Tri.forget (ycallee Try.fx63 (Nat.le_of_ble_eq_true rfl) ?_)
  unfold Try.x63
  obtain ⟨a, c, rfl⟩ := hB.isSlice
  refine yseq ?_
  refine yregion ?_
  refine yp pC ?_
  refine ynil ?_
  refine tnorm ?_
  refine yseq ?_
  refine yseq ?_
  refine yregion ?_
  refine yp (pP rfl) ?_
  refine yp (pNilP rfl rfl) ?_
  refine ynil ?_
  refine tnorm ?_
  refine ycondF rfl ?_
  refine yskip ?_
  refine tnorm ?_
  refine yseq ?_
  refine yregion ?_
  refine yp (pP rfl) ?_
  refine yp (pNilc rfl) ?_
  refine yp (pFadr rfl) ?_
  refine ycons (yload1 rfl rfl ?_)
  refine yp (pLen rfl) ?_
  refine yp (pI rfl) ?_
  refine ynil ?_
  refine tnorm ?_
  refine yret ?_
  exact yfin (rI rfl) ⟨_, .of, rfl, rfl⟩
theorem arBudgetn : Tri Try.prog 63 #[.pointer none] [] (fun r S => r = .int .i64 0 ∧ S = []) := by
  refine Tri.forget (ycallee Try.fx63 (Nat.le_of_ble_eq_true rfl) ?_)
  unfold Try.x63
  refine yseq ?_
  refine yregion ?_
  refine yp pC ?_
  refine ynil ?_
  refine tnorm ?_
  refine yseq ?_
  refine yseq ?_
  refine yregion ?_
  refine yp (pP rfl) ?_
  refine yp (pNilP rfl rfl) ?_
  refine ynil ?_
  refine tnorm ?_
  refine ycondT rfl ?_
  refine yseq ?_
  refine yregion ?_
  refine yp pC ?_
  refine ynil ?_
  refine tnorm ?_
  refine yret ?_
  refine tret ?_
  exact yfin (rI rfl) ⟨_, .of, rfl, rfl⟩
theorem arLeft {ab : Nat} {bv kv : Value} {used top : Int} {B : List UInt8} {H : List Chunk} (hB : Slc 5 bv B H) (hl : B.length < 2 ^ 40) (hu : 0 ≤ used ∧ used < 2 ^ 40) : Tri Try.prog 30 #[.pointer (some ⟨ab, 0, none⟩)] [aseg ab bv kv used top] (fun r S => r = .int .i64 (B.length - used) ∧ S = [aseg ab bv kv used top]) := by
  refine Tri.forget (ycallee Try.fx30 (Nat.le_of_ble_eq_true rfl) ?_)
  unfold Try.x30
  refine yseq ?_
  refine yregion ?_
  refine yp pC ?_
  refine ynil ?_
  refine tnorm ?_
  refine yseq ?_
  refine yregion ?_
  refine yp (pP rfl) ?_
  refine ycons (ycall (arBudget (ab := ab) (kv := kv) (used := used) (top := top) hB) rfl rfl fun r S' h => ?_)
  obtain ⟨rfl, rfl⟩ := h
  refine yp (pP rfl) ?_
  refine ycons (ycall (arUsed (ab := ab) (bv := bv) (kv := kv) (used := used) (top := top)) rfl rfl fun r S' h => ?_)
  obtain ⟨rfl, rfl⟩ := h
  refine yp (pSub rfl rfl (by omega)) ?_
  refine yp (pI rfl) ?_
  refine ynil ?_
  refine tnorm ?_
  refine yret ?_
  exact yfin (rI rfl) ⟨_, .of, rfl, rfl⟩
theorem arLeftn : Tri Try.prog 30 #[.pointer none] [] (fun r S => r = .int .i64 0 ∧ S = []) := by
  refine Tri.forget (ycallee Try.fx30 (Nat.le_of_ble_eq_true rfl) ?_)
  unfold Try.x30
  refine yseq ?_
  refine yregion ?_
  refine yp pC ?_
  refine ynil ?_
  refine tnorm ?_
  refine yseq ?_
  refine yregion ?_
  refine yp (pP rfl) ?_
  refine ycons (ycall arBudgetn rfl rfl fun r S' h => ?_)
  obtain ⟨rfl, rfl⟩ := h
  refine yp (pP rfl) ?_
  refine ycons (ycall arUsedn rfl rfl fun r S' h => ?_)
  obtain ⟨rfl, rfl⟩ := h
  refine yp (pSub rfl rfl (by omega)) ?_
  refine yp (pI rfl) ?_
  refine ynil ?_
  refine tnorm ?_
  refine yret ?_
  exact yfin (rI rfl) ⟨_, .of, rfl, rfl⟩

theorem rPI {E : Env} {S : Segs} {t u : Tmp} {p : Option Addr} {k : IntKind} {a : Int} (hv : E t = .pointer p) (hv' : E u = .int k a) : Res Try.prog #[.tmp t, .tmp u] E S (.tuple #[.pointer p, .int k a]) := res2 hv hv'
/-- New -/
theorem arNew {n : Nat} (hn : 1024 ≤ n ∧ n ≤ 1048576) {z : Int} (hz : z = n) : Tri Try.prog 15 #[.int .i64 z] [] (fun r S => ∃ ab bb, r = .tuple #[.pointer (some ⟨ab, 0, none⟩), .int .i64 0] ∧ S = [aseg ab (.slice (some ⟨bb, 0, none⟩) n n) (.slice none 0 0) 0 0, [(bb, .cells (cells (List.replicate n (0 : UInt8))).toArray 5)]]) := by
  refine Tri.forget (ycallee Try.fx15 (Nat.le_of_ble_eq_true rfl) ?_)
  unfold Try.x15
  refine yseq ?_
  refine yregion ?_
  refine yp pC ?_
  refine yp pC ?_
  refine ynil ?_
  refine tnorm ?_
  refine yseq ?_
  refine yseq ?_
  refine yregion ?_
  refine yp (pI rfl) ?_
  refine yp (pLt rfl rfl) ?_
  refine yp (pB rfl) ?_
  rw [decide_eq_false (show ¬ z < 1024 from by omega)]
  refine ygT rfl ?_
  refine yop (pI rfl) ?_
  refine ygT rfl ?_
  refine yop (pGt rfl rfl) ?_
  refine yp (pPickF rfl rfl) ?_
  refine ynil ?_
  refine tnorm ?_
  rw [decide_eq_false (show ¬ 1048576 < z from by omega)]
  refine ycondF rfl ?_
  refine yskip ?_
  refine tnorm ?_
  refine yseq ?_
  refine yregion ?_
  refine yp (pI rfl) ?_
  subst hz
  refine ycons (ymksl (m := n) (cap := n) rfl rfl (Nat.le_refl _) rfl (by omega) (by omega) fun bb => ?_)
  rw [replicate_cells (z := [.int .u8 0]) n (0 : UInt8) rfl]
  refine yp (v := .agg #[.slice (some ⟨bb, 0, none⟩) n n, .slice none 0 0, .int .i64 0, .int .i64 0]) rfl ?_
  refine ycons (yboxG rfl fun p13 => ?_)
  refine yp (pP rfl) ?_
  refine yp pC ?_
  refine ynil ?_
  refine tnorm ?_
  refine yret ?_
  exact yfin (rPI rfl rfl) ⟨_, .of, _, bb, rfl, rfl⟩
theorem arNewn {n : Int} (hn : n < 1024 ∨ 1048576 < n) : Tri Try.prog 15 #[.int .i64 n] [] (fun r S => r = .tuple #[.pointer none, .int .i64 1] ∧ S = []) := by
  refine Tri.forget (ycallee Try.fx15 (Nat.le_of_ble_eq_true rfl) ?_)
  unfold Try.x15
  refine yseq ?_
  refine yregion ?_
  refine yp pC ?_
  refine yp pC ?_
  refine ynil ?_
  refine tnorm ?_
  refine yseq ?_
  refine yseq ?_
  refine yregion ?_
  refine yp (pI rfl) ?_
  refine yp (pLt rfl rfl) ?_
  refine yp (pB rfl) ?_
  by_cases h : n < 1024
  · rw [decide_eq_true h]
    refine ygF rfl ?_
    refine ygF rfl ?_
    refine yp (pPickT rfl rfl) ?_
    refine ynil ?_
    refine tnorm ?_
    refine ycondT rfl ?_
    refine yseq ?_
    refine yregion ?_
    refine yp pC ?_
    refine yp pC ?_
    refine ynil ?_
    refine tnorm ?_
    refine yret ?_
    refine tret ?_
    exact yfin (rPI rfl rfl) ⟨_, .of, rfl, rfl⟩
  · rw [decide_eq_false h, ]
    refine ygT rfl ?_
    refine yop (pI rfl) ?_
    refine ygT rfl ?_
    refine yop (pGt rfl rfl) ?_
    refine yp (pPickF rfl rfl) ?_
    refine ynil ?_
    refine tnorm ?_
    rw [decide_eq_true (show 1048576 < n from by omega)]
    refine ycondT rfl ?_
    refine yseq ?_
    refine yregion ?_
    refine yp pC ?_
    refine yp pC ?_
    refine ynil ?_
    refine tnorm ?_
    refine yret ?_
    refine tret ?_
    exact yfin (rPI rfl rfl) ⟨_, .of, rfl, rfl⟩
end Go.Proofs.Ytkdbajfaaifkaaa
