/- The lists (chapter 9): contracts of what a Due is made of. -/
import Derived.Test.YtmgiamagocefcaaStab
import Derived.Test.YtmgiamagocefcaaFLists
namespace Go.Proofs.Ytmgiamagocefcaa
open Go.Xs
open Enc (enc)

instance : Enc Int := ⟨fun a => [.int .i64 a], 1, fun _ => rfl, fun _ => rfl⟩
instance : Enc (Int × Int) := ⟨fun a => [.int .i64 a.1, .int .i64 a.2], 2, fun _ => rfl, fun _ => rfl⟩

theorem c66 (a : Int) : Tri Try.prog 66 #[.int .i64 a] [] (fun r S => r = .bool false ∧ S = []) := by
  refine ycallee Try.fx66 (Nat.le_of_ble_eq_true rfl) ?_
  unfold Try.x66
  refine yseq ?_
  refine yregion ?_
  refine yp pC ?_
  refine ynil ?_
  refine tnorm ?_
  refine yseq ?_
  refine yregion ?_
  refine yp (pI rfl) ?_
  refine yp (pI rfl) ?_
  refine yp (pNe rfl rfl) ?_
  refine yp (pB rfl) ?_
  refine ynil ?_
  refine tnorm ?_
  refine yret ?_
  exact yfin (rB rfl) ⟨by simp, rfl⟩

def cmp3 (a b : Int) : Int := if a < b then -1 else if b < a then 1 else 0

theorem c59 (a b : Int) : Tri Try.prog 59 #[.int .i64 a, .int .i64 b] [] (fun r S => r = .int .i64 (cmp3 a b) ∧ S = []) := by
  refine ycallee Try.fx59 (Nat.le_of_ble_eq_true rfl) ?_
  unfold Try.x59
  refine yseq ?_
  refine yregion ?_
  refine yp pC ?_
  refine ynil ?_
  refine tnorm ?_
  refine yseq ?_
  refine yregion ?_
  refine yp (pI rfl) ?_
  refine ycons (ycall (c66 a) rfl rfl fun v S' h => ?_)
  obtain ⟨rfl, rfl⟩ := h
  refine yp (pB rfl) ?_
  refine ynil ?_
  refine tnorm ?_
  refine yseq ?_
  refine yregion ?_
  refine yp (pI rfl) ?_
  refine ycons (ycall (c66 b) rfl rfl fun v S' h => ?_)
  obtain ⟨rfl, rfl⟩ := h
  refine yp (pB rfl) ?_
  refine ynil ?_
  refine tnorm ?_
  refine yseq ?_
  refine yseq ?_
  refine yregion ?_
  refine yp (pB rfl) ?_
  refine ynil ?_
  refine tnorm ?_
  refine ycondF rfl ?_
  refine yskip ?_
  refine tnorm ?_
  refine yseq ?_
  refine yseq ?_
  refine yregion ?_
  refine yp (pB rfl) ?_
  refine ynil ?_
  refine tnorm ?_
  refine ycondF rfl ?_
  refine yskip ?_
  refine tnorm ?_
  refine yseq ?_
  refine yseq ?_
  refine yregion ?_
  refine yp (pI rfl) ?_
  refine yp (pI rfl) ?_
  refine yp (pLt rfl rfl) ?_
  refine ynil ?_
  refine tnorm ?_
  refine ycondD rfl (fun h => ?_) (fun h => ?_)
  · refine yseq ?_
    refine yregion ?_
    refine yp pC ?_
    refine ynil ?_
    refine tnorm ?_
    refine yret ?_
    refine tret ?_
    exact yfin (rI rfl) ⟨by simp [cmp3, h], rfl⟩
  refine yskip ?_
  refine tnorm ?_
  refine yseq ?_
  refine yseq ?_
  refine yregion ?_
  refine yp (pI rfl) ?_
  refine yp (pI rfl) ?_
  refine yp (pGt rfl rfl) ?_
  refine ynil ?_
  refine tnorm ?_
  refine ycondD rfl (fun h2 => ?_) (fun h2 => ?_)
  · refine yseq ?_
    refine yregion ?_
    refine yp pC ?_
    refine ynil ?_
    refine tnorm ?_
    refine yret ?_
    refine tret ?_
    exact yfin (rI rfl) ⟨by simp [cmp3, h, h2], rfl⟩
  refine yskip ?_
  refine tnorm ?_
  refine yseq ?_
  refine yregion ?_
  refine yp pC ?_
  refine ynil ?_
  refine tnorm ?_
  refine yret ?_
  exact yfin (rI rfl) ⟨by simp [cmp3, h, h2], rfl⟩

/-- by their times -/
theorem c58 (a b : Int × Int) : Tri Try.prog 58 #[.agg #[.int .i64 a.1, .int .i64 a.2], .agg #[.int .i64 b.1, .int .i64 b.2]] [] (fun r S => r = .int .i64 (cmp3 a.2 b.2) ∧ S = []) := by
  refine Tri.forget (ycallee Try.fx58 (Nat.le_of_ble_eq_true rfl) ?_)
  unfold Try.x58
  refine yseq ?_
  refine yregion ?_
  refine ycons (yboxG rfl fun p2 => ?_)
  refine ycons (yboxG rfl fun p3 => ?_)
  refine yp pC ?_
  refine ynil ?_
  refine tnorm ?_
  refine yseq ?_
  refine yregion ?_
  refine yp (pFadr rfl) ?_
  refine ycons (yload1 rfl rfl ?_)
  refine yp (pFadr rfl) ?_
  refine ycons (yload1 rfl rfl ?_)
  refine ycons (ycall (c59 a.2 b.2) rfl rfl fun v S' h => ?_)
  obtain ⟨rfl, rfl⟩ := h
  refine yp (pI rfl) ?_
  refine ynil ?_
  refine tnorm ?_
  refine yret ?_
  exact yfin (rI rfl) ⟨_, .of, rfl, rfl⟩

/-- is it this key? -/
theorem c64 (e : Int × Int) (b : Nat) (k : Int) (t : TypeId) (fz : Nat × Nat) : Tri Try.prog 64 #[.agg #[.int .i64 e.1, .int .i64 e.2], .pointer (some ⟨b, 0, none⟩)] [[(b, .cells #[.int .i64 k] t fz)]] (fun r S => r = .bool (decide (e.1 = k)) ∧ S = [[(b, .cells #[.int .i64 k] t fz)]]) := by
  refine Tri.forget (ycallee Try.fx64 (Nat.le_of_ble_eq_true rfl) ?_)
  unfold Try.x64
  refine yseq ?_
  refine yregion ?_
  refine ycons (yboxG rfl fun p2 => ?_)
  refine yp pC ?_
  refine ynil ?_
  refine tnorm ?_
  refine yseq ?_
  refine yregion ?_
  refine yp (pFadr rfl) ?_
  refine ycons (yload1 rfl rfl ?_)
  refine ycons (yload1 rfl rfl ?_)
  refine yp (pEq rfl rfl) ?_
  refine yp (pB rfl) ?_
  refine ynil ?_
  refine tnorm ?_
  refine yret ?_
  exact yfin (rB rfl) ⟨_, .of, rfl, rfl⟩

def idx (k : Int) : List (Int × Int) → Option Nat
  | [] => none
  | e :: l => if e.1 = k then some 0 else (idx k l).map (· + 1)
def ixV (o : Option Nat) : Value := .int .i64 (match o with | some i => (i : Int) | none => -1)
theorem idx_lt {k : Int} : ∀ {l : List (Int × Int)} {i : Nat}, idx k l = some i → i < l.length
  | e :: l, i, h => by
    unfold idx at h
    split at h
    · simp at h; subst h; simp
    · cases h' : idx k l with
      | none => simp [h'] at h
      | some j => simp [h'] at h; have := idx_lt h'; subst h; simp; omega

/-- where a key stands -/
theorem c63 (v : Value) (L : List (Int × Int)) (H : List Chunk) (hL : Slc 93 v L H) (hlen : L.length < 2 ^ 40) (kb : Nat) (k : Int) (t : TypeId) (fz : Nat × Nat) :
    Tri Try.prog 63 #[v, .func (.func 64) #[] #[.pointer (some ⟨kb, 0, none⟩)]] [H, [(kb, .cells #[.int .i64 k] t fz)]] (fun r S => r = ixV (idx k L) ∧ S = [H, [(kb, .cells #[.int .i64 k] t fz)]]) := by
  refine Tri.forget (ycallee Try.fx63 (Nat.le_of_ble_eq_true rfl) ?_)
  unfold Try.x63
  obtain ⟨a, c, rfl⟩ := hL.isSlice
  refine yseq ?_
  refine yregion ?_
  refine yp pC ?_
  refine ynil ?_
  refine tnorm ?_
  refine yseq ?_
  refine yseq ?_
  refine yregion ?_
  refine yp (pS rfl) ?_
  refine yp (pLen rfl) ?_
  refine yp pC ?_
  refine ynil ?_
  refine tnorm ?_
  refine yblock ?_
  refine yloop (σ := Nat) (fun i E S => Has E [(0, .slice a L.length c), (1, .func (.func 64) #[] #[.pointer (some ⟨kb, 0, none⟩)]), (7, .int .i64 L.length), (8, .int .i64 i)] ∧ i ≤ L.length ∧ (idx k L = (idx k (L.drop i)).map (· + i)) ∧ Junk S [H, [(kb, .cells #[.int .i64 k] t fz)]]) (fun i => L.length - i) 0 ⟨⟨rfl, rfl, rfl, rfl, trivial⟩, Nat.zero_le _, by simp, .self⟩ fun i E S ⟨hE, hi, hx, hS⟩ => ?_
  obtain ⟨E0, e0⟩ := has_puts hE; subst e0; clear hE
  refine yforget hS ?_
  refine yseq ?_
  refine yregion ?_
  refine yp (pLt rfl rfl) ?_
  refine ynil ?_
  refine tnorm ?_
  refine yseq ?_
  refine ycondD rfl (fun h => ?_) (fun h => ?_)
  · have hlt : i < L.length := by omega
    have hd : L.drop i = L[i] :: L.drop (i + 1) := List.drop_eq_getElem_cons hlt
    refine yskip ?_
    refine tnorm ?_
    refine yseq ?_
    refine yblock ?_
    refine yseq ?_
    refine yregion ?_
    refine yp (pI rfl) ?_
    refine yp (pI rfl) ?_
    refine ynil ?_
    refine tnorm ?_
    refine yseq ?_
    refine yregion ?_
    refine yp (pF rfl) ?_
    refine yp (pS rfl) ?_
    refine yp (pI rfl) ?_
    obtain ⟨b, sp, fz2, hz, rfl, _, rfl, rfl⟩ := hL.at' (by intro h; simp [h] at hlt)
    refine yp (pIxN rfl rfl (by omega)) ?_
    refine ycons (yloadN (l := enc L[i]) rfl (row_elem hlt rfl) rfl ?_)
    refine ycons (ycall (c64 L[i] kb k t fz) rfl rfl fun v S' h => ?_)
    obtain ⟨rfl, rfl⟩ := h
    refine ynil ?_
    refine tnorm ?_
    refine ycondD rfl (fun h2 => ?_) (fun h2 => ?_)
    · refine yseq ?_
      refine yregion ?_
      refine yp (pI rfl) ?_
      refine yp (pI rfl) ?_
      refine ynil ?_
      refine tnorm ?_
      refine yret ?_
      refine bret ?_
      refine tret ?_
      refine tret ?_
      refine bret ?_
      refine tret ?_
      exact yfin (rI rfl) ⟨_, .of, by rw [hx, hd, idx, if_pos h2]; simp [ixV], rfl⟩
    · refine yskip ?_
      refine bnorm ?_
      refine tnorm ?_
      refine yregion ?_
      refine yp (pInc rfl rfl (by omega)) ?_
      refine yp (pI rfl) ?_
      refine ynil ?_
      refine tnorm ?_
      refine ⟨i + 1, ⟨⟨rfl, rfl, rfl, rfl, trivial⟩, by omega, ?_, .of⟩, by omega⟩
      rw [hx, hd, idx, if_neg h2, Option.map_map]
      congr 1
      funext x
      simp; omega
  · refine yexit ?_
    refine texit ?_
    refine texit ?_
    refine bexit ?_
    refine tnorm ?_
    refine yseq ?_
    refine yregion ?_
    refine yp pC ?_
    refine ynil ?_
    refine tnorm ?_
    refine yret ?_
    have : L.drop i = [] := List.drop_eq_nil_of_le (by omega)
    exact yfin (rI rfl) ⟨_, .of, by rw [hx, this]; rfl, rfl⟩

theorem c53 (db : Nat) (dt : TypeId) (dfz : Nat × Nat) (v : Value) (L : List (Int × Int)) (H : List Chunk) (hL : Slc 93 v L H) (hlen : L.length < 2 ^ 40) (k : Int) :
    Tri Try.prog 53 #[.pointer (some ⟨db, 0, none⟩), .int .i64 k] [[(db, .cells #[v] dt dfz)], H] (fun r S => r = ixV (idx k L) ∧ S = [[(db, .cells #[v] dt dfz)], H]) := by
  refine Tri.forget (ycallee Try.fx53 (Nat.le_of_ble_eq_true rfl) ?_)
  unfold Try.x53
  obtain ⟨a, c, rfl⟩ := hL.isSlice
  refine yseq ?_
  refine yregion ?_
  refine ycons (ybx (scI rfl) fun p3 => ?_)
  refine yp pC ?_
  refine ynil ?_
  refine tnorm ?_
  refine yseq ?_
  refine yseq ?_
  refine yregion ?_
  refine yp (pP rfl) ?_
  refine yp (pNilP rfl rfl) ?_
  refine ynil ?_
  refine tnorm ?_
  refine ycondF rfl ?_
  refine yskip ?_
  refine tnorm ?_
  refine yseq ?_
  refine yregion ?_
  refine yp (pP rfl) ?_
  refine yp (pNilc rfl) ?_
  refine yp (pFadr rfl) ?_
  refine ycons (yload1 rfl rfl ?_)
  refine yp (pFn1 (scP rfl)) ?_
  refine ycons (ycall (c63 _ L H hL hlen p3 k 3 (0, 0)) rfl rfl fun v S' h => ?_)
  obtain ⟨rfl, rfl⟩ := h
  refine yp (pI rfl) ?_
  refine ynil ?_
  refine tnorm ?_
  refine yret ?_
  exact yfin (rI rfl) ⟨_, .of, rfl, rfl⟩

theorem c54 {v : Value} {L : List (Int × Int)} {H : List Chunk} (hL : Slc 93 v L H) (hlen : L.length < 2 ^ 40) {i j : Nat} (hi : i < L.length) (hj : j = i + 1) :
    Tri Try.prog 54 #[v, .int .i64 (i : Int), .int .i64 (j : Int)] [H] (fun r S => ∃ H', Slc 93 r (L.eraseIdx i) H' ∧ S = [H']) :=
  delete_one Try.fx54 rfl (0, 0) rfl hL hlen hi hj

def dropK (k : Int) (L : List (Int × Int)) : List (Int × Int) := match idx k L with | some i => L.eraseIdx i | none => L
def hasK (k : Int) (L : List (Int × Int)) : Bool := (idx k L).isSome
def atK (k : Int) (L : List (Int × Int)) : Option Int := (idx k L).bind fun i => (L[i]?).map (·.2)

theorem dropK_length (k : Int) (L : List (Int × Int)) : (dropK k L).length ≤ L.length := by
  unfold dropK
  split
  · rw [List.length_eraseIdx]; split <;> omega
  · exact Nat.le_refl _
/-- a Due's heap -/
def IsDue (db : Nat) (L : List (Int × Int)) (S : Segs) : Prop := ∃ v H, Slc 93 v L H ∧ S = [[(db, .cells #[v] 91)], H]

theorem c40 {db : Nat} {v : Value} {L : List (Int × Int)} {H : List Chunk} (hL : Slc 93 v L H) (hlen : L.length < 2 ^ 40) (k : Int) :
    Tri Try.prog 40 #[.pointer (some ⟨db, 0, none⟩), .int .i64 k] [[(db, .cells #[v] 91)], H] (fun r S => r = .bool (hasK k L) ∧ ∃ v' H', Slc 93 v' (dropK k L) H' ∧ S = [[(db, .cells #[v'] 91)], H']) := by
  refine Tri.forget (ycallee Try.fx40 (Nat.le_of_ble_eq_true rfl) ?_)
  unfold Try.x40
  refine yseq ?_
  refine yregion ?_
  refine yp pC ?_
  refine ynil ?_
  refine tnorm ?_
  refine yseq ?_
  refine yregion ?_
  refine yp (pP rfl) ?_
  refine yp (pI rfl) ?_
  refine ycons (ycall (c53 db 91 (0, 0) v L H hL hlen k) rfl rfl fun r S' h => ?_)
  obtain ⟨rfl, rfl⟩ := h
  cases h : idx k L with
  | none =>
    have h1 : hasK k L = false := by simp [hasK, h]
    have h2 : dropK k L = L := by simp [dropK, h]
    rw [h1, h2]
    simp only [ixV]
    refine yp (pI rfl) ?_
    refine ynil ?_
    refine tnorm ?_
    refine yseq ?_
    refine yseq ?_
    refine yregion ?_
    refine yp (pI rfl) ?_
    refine yp (pLt rfl rfl) ?_
    refine ynil ?_
    refine tnorm ?_
    refine ycondT rfl ?_
    refine yseq ?_
    refine yregion ?_
    refine yp pC ?_
    refine ynil ?_
    refine tnorm ?_
    refine yret ?_
    refine tret ?_
    exact yfin (rB rfl) ⟨_, .of, rfl, _, _, hL, rfl⟩
  | some i =>
    have h1 : hasK k L = true := by simp [hasK, h]
    have h2 : dropK k L = L.eraseIdx i := by simp [dropK, h]
    have hi := idx_lt h
    rw [h1, h2]
    simp only [ixV]
    refine yp (pI rfl) ?_
    refine ynil ?_
    refine tnorm ?_
    refine yseq ?_
    refine yseq ?_
    refine yregion ?_
    refine yp (pI rfl) ?_
    refine yp (pLt rfl rfl) ?_
    refine ynil ?_
    refine tnorm ?_
    refine ycondF rfl ?_
    refine yskip ?_
    refine tnorm ?_
    refine yseq ?_
    refine yregion ?_
    refine yp (pP rfl) ?_
    refine yp (pP rfl) ?_
    refine yp (pNilc rfl) ?_
    refine yp (pFadr rfl) ?_
    refine ycons (yload1 rfl rfl ?_)
    refine yp (pI rfl) ?_
    refine yp (pI rfl) ?_
    refine yp (pInc rfl rfl (by omega)) ?_
    obtain ⟨a, c, rfl⟩ := hL.isSlice
    skip
    refine ycons (ycall (c54 hL hlen hi rfl) rfl rfl fun r S' h => ?_)
    obtain ⟨H', hL', rfl⟩ := h
    obtain ⟨a', c', rfl⟩ := hL'.isSlice
    refine yp (pNilc rfl) ?_
    refine yp (pFadr rfl) ?_
    refine ycons (yst1_0 rfl rfl (scS rfl) ?_)
    refine ynil ?_
    refine tnorm ?_
    refine yseq ?_
    refine yregion ?_
    refine yp pC ?_
    refine ynil ?_
    refine tnorm ?_
    refine yret ?_
    exact yfin (rB rfl) ⟨_, .of, rfl, _, _, hL', rfl⟩

theorem c41 {db : Nat} {v : Value} {L : List (Int × Int)} {H : List Chunk} (hL : Slc 93 v L H) (hlen : L.length < 2 ^ 40) (k : Int) :
    Tri Try.prog 41 #[.pointer (some ⟨db, 0, none⟩), .int .i64 k] [[(db, .cells #[v] 91)], H] (fun r S => r = .tuple #[.int .i64 ((atK k L).getD 0), .bool (hasK k L)] ∧ S = [[(db, .cells #[v] 91)], H]) := by
  refine Tri.forget (ycallee Try.fx41 (Nat.le_of_ble_eq_true rfl) ?_)
  unfold Try.x41
  refine yseq ?_
  refine yregion ?_
  refine yp pC ?_
  refine yp pC ?_
  refine ynil ?_
  refine tnorm ?_
  refine yseq ?_
  refine yregion ?_
  refine yp (pP rfl) ?_
  refine yp (pI rfl) ?_
  refine ycons (ycall (c53 db 91 (0, 0) v L H hL hlen k) rfl rfl fun r S' h => ?_)
  obtain ⟨rfl, rfl⟩ := h
  cases h : idx k L with
  | none =>
    have h1 : hasK k L = false := by simp [hasK, h]
    have h2 : (atK k L).getD 0 = 0 := by simp [atK, h]
    rw [h1, h2]
    simp only [ixV]
    refine yp (pI rfl) ?_
    refine ynil ?_
    refine tnorm ?_
    refine yseq ?_
    refine yseq ?_
    refine yregion ?_
    refine yp (pI rfl) ?_
    refine yp (pLt rfl rfl) ?_
    refine ynil ?_
    refine tnorm ?_
    refine ycondT rfl ?_
    refine yseq ?_
    refine yregion ?_
    refine yp pC ?_
    refine yp pC ?_
    refine ynil ?_
    refine tnorm ?_
    refine yret ?_
    refine tret ?_
    exact yfin (rIB rfl rfl) ⟨_, .of, rfl, rfl⟩
  | some i =>
    have hi := idx_lt h
    have h1 : hasK k L = true := by simp [hasK, h]
    have h2 : (atK k L).getD 0 = L[i].2 := by simp [atK, h, hi]
    rw [h1, h2]
    simp only [ixV]
    obtain ⟨a, c, rfl⟩ := hL.isSlice
    obtain ⟨bb, sp, fz, hz, rfl, hN2, hc0, rfl⟩ := hL.at' (by intro h; simp [h] at hi)
    refine yp (pI rfl) ?_
    refine ynil ?_
    refine tnorm ?_
    refine yseq ?_
    refine yseq ?_
    refine yregion ?_
    refine yp (pI rfl) ?_
    refine yp (pLt rfl rfl) ?_
    refine ynil ?_
    refine tnorm ?_
    refine ycondF rfl ?_
    refine yskip ?_
    refine tnorm ?_
    refine yseq ?_
    refine yregion ?_
    refine yp (pP rfl) ?_
    refine yp (pNilc rfl) ?_
    refine yp (pFadr rfl) ?_
    refine ycons (yload1 rfl rfl ?_)
    refine yp (pI rfl) ?_
    refine yp (pIxN rfl rfl (by omega)) ?_
    refine yp (pFadr rfl) ?_
    refine ycons (yload1 (v := .int .i64 L[i].2) rfl ((row_cell (kk := 2) (j := 1) hi rfl (by omega)).trans rfl) ?_)
    refine yp (pI rfl) ?_
    refine yp pC ?_
    refine ynil ?_
    refine tnorm ?_
    refine yret ?_
    exact yfin (rIB rfl rfl) ⟨_, .of, rfl, rfl⟩

theorem c42 {db : Nat} {v : Value} {L : List (Int × Int)} {H : List Chunk} (hL : Slc 93 v L H) :
    Tri Try.prog 42 #[.pointer (some ⟨db, 0, none⟩)] [[(db, .cells #[v] 91)], H] (fun r S => r = .int .i64 L.length ∧ S = [[(db, .cells #[v] 91)], H]) := by
  refine Tri.forget (ycallee Try.fx42 (Nat.le_of_ble_eq_true rfl) ?_)
  unfold Try.x42
  obtain ⟨a, c, rfl⟩ := hL.isSlice
  refine yseq ?_
  refine yregion ?_
  refine yp pC ?_
  refine ynil ?_
  refine tnorm ?_
  refine yseq ?_
  refine yseq ?_
  refine yregion ?_
  refine yp (pP rfl) ?_
  refine yp (pNilP rfl rfl) ?_
  refine ynil ?_
  refine tnorm ?_
  refine ycondF rfl ?_
  refine yskip ?_
  refine tnorm ?_
  refine yseq ?_
  refine yregion ?_
  refine yp (pP rfl) ?_
  refine yp (pNilc rfl) ?_
  refine yp (pFadr rfl) ?_
  refine ycons (yload1 rfl rfl ?_)
  refine yp (pLen rfl) ?_
  refine yp (pI rfl) ?_
  refine ynil ?_
  refine tnorm ?_
  refine yret ?_
  exact yfin (rI rfl) ⟨_, .of, rfl, rfl⟩
theorem c42n : Tri Try.prog 42 #[.pointer none] [] (fun r S => r = .int .i64 0 ∧ S = []) := by
  refine Tri.forget (ycallee Try.fx42 (Nat.le_of_ble_eq_true rfl) ?_)
  unfold Try.x42
  refine yseq ?_
  refine yregion ?_
  refine yp pC ?_
  refine ynil ?_
  refine tnorm ?_
  refine yseq ?_
  refine yseq ?_
  refine yregion ?_
  refine yp (pP rfl) ?_
  refine yp (pNilP rfl rfl) ?_
  refine ynil ?_
  refine tnorm ?_
  refine ycondT rfl ?_
  refine yseq ?_
  refine yregion ?_
  refine yp pC ?_
  refine ynil ?_
  refine tnorm ?_
  refine yret ?_
  refine tret ?_
  exact yfin (rI rfl) ⟨_, .of, rfl, rfl⟩

theorem c38 : Tri Try.prog 38 #[] [] (fun r S => ∃ db, r = .pointer (some ⟨db, 0, none⟩) ∧ S = [[(db, .cells #[.slice none 0 0] 91)]]) := by
  refine Tri.forget (ycallee Try.fx38 (Nat.le_of_ble_eq_true rfl) ?_)
  unfold Try.x38
  refine yseq ?_
  refine yregion ?_
  refine yp pC ?_
  refine ynil ?_
  refine tnorm ?_
  refine yseq ?_
  refine yregion ?_
  refine yp pBuild0 ?_
  refine ycons (yboxG rfl fun p2 => ?_)
  refine yp (pP rfl) ?_
  refine ynil ?_
  refine tnorm ?_
  refine yret ?_
  exact yfin (rP rfl) ⟨_, .of, _, rfl, rfl⟩

theorem c39 {db : Nat} {v : Value} {L : List (Int × Int)} {H : List Chunk} (hL : Slc 93 v L H) (hlen : L.length < 2 ^ 40 - 1) (k t : Int) :
    Tri Try.prog 39 #[.pointer (some ⟨db, 0, none⟩), .int .i64 k, .int .i64 t] [[(db, .cells #[v] 91)], H] (fun r S => r = .tuple #[] ∧ ∃ v' H', Slc 93 v' (dropK k L ++ [(k, t)]) H' ∧ S = [[(db, .cells #[v'] 91)], H']) := by
  refine Tri.forget (ycallee Try.fx39 (Nat.le_of_ble_eq_true rfl) ?_)
  unfold Try.x39
  refine yseq ?_
  refine yseq ?_
  refine yregion ?_
  refine yp (pP rfl) ?_
  refine yp (pNilP rfl rfl) ?_
  refine ynil ?_
  refine tnorm ?_
  refine ycondF rfl ?_
  refine yskip ?_
  refine tnorm ?_
  refine yseq ?_
  refine yregion ?_
  refine yp (pP rfl) ?_
  refine yp (pI rfl) ?_
  refine ycons (ycall (c40 hL (by omega) k) rfl rfl fun r S' h => ?_)
  obtain ⟨rfl, v1, H1, hL1, rfl⟩ := h
  refine ynil ?_
  refine tnorm ?_
  refine yregion ?_
  refine yp (pP rfl) ?_
  refine yp (pP rfl) ?_
  refine yp (pNilc rfl) ?_
  refine yp (pFadr rfl) ?_
  refine ycons (yload1 rfl rfl ?_)
  refine yp (pI rfl) ?_
  refine yp (pI rfl) ?_
  refine yp (pBuild2 (scI rfl) (scI rfl)) ?_
  obtain ⟨a, c, rfl⟩ := hL1.isSlice
  skip
  refine ycons (ybsl1 (k, t) rfl rfl (by decide) (by decide) rfl fun p19 => ?_)
  have hdl := dropK_length k L
  refine ycons (yapp (Y := [(k, t)]) rfl rfl hL1 (.lit (by repeat (first | exact List.mem_cons_self | apply List.mem_cons_of_mem)) rfl) rfl (0, 0) rfl (by simp; omega) (by simp; omega) fun v2 H2 hL2 => ?_)
  obtain ⟨a2, c2, rfl⟩ := hL2.isSlice
  refine yp (pNilc rfl) ?_
  refine yp (pFadr rfl) ?_
  refine ycons (yst1_0 rfl rfl (scS rfl) ?_)
  refine ynil ?_
  exact yfinN res0 ⟨_, .of, rfl, _, _, hL2, rfl⟩
theorem c39n (k t : Int) : Tri Try.prog 39 #[.pointer none, .int .i64 k, .int .i64 t] [] (fun r S => r = .tuple #[] ∧ S = []) := by
  refine Tri.forget (ycallee Try.fx39 (Nat.le_of_ble_eq_true rfl) ?_)
  unfold Try.x39
  refine yseq ?_
  refine yseq ?_
  refine yregion ?_
  refine yp (pP rfl) ?_
  refine yp (pNilP rfl rfl) ?_
  refine ynil ?_
  refine tnorm ?_
  refine ycondT rfl ?_
  refine yret ?_
  refine tret ?_
  exact yfin res0 ⟨_, .of, rfl, rfl⟩

theorem c56 {v : Value} {L : List (Int × Int)} {H : List Chunk} (hL : Slc 93 v L H) (hlen : L.length < 2 ^ 40) :
    Tri Try.prog 56 #[v] [H] (fun r S => ∃ H', Slc 93 r L H' ∧ S = [H', H]) := by
  refine Tri.forget (ycallee Try.fx56 (Nat.le_of_ble_eq_true rfl) ?_)
  unfold Try.x56
  rcases hL.inv with ⟨rfl, rfl, rfl⟩ | ⟨b, sp, fz, hz, rfl, rfl⟩
  · refine yseq ?_
    refine yregion ?_
    refine yp pC ?_
    refine ynil ?_
    refine tnorm ?_
    refine yseq ?_
    refine yseq ?_
    refine yregion ?_
    refine yp (pS rfl) ?_
    refine yp (pNilS rfl rfl) ?_
    refine ynil ?_
    refine tnorm ?_
    refine ycondT rfl ?_
    refine yseq ?_
    refine yregion ?_
    refine yp pC ?_
    refine ynil ?_
    refine tnorm ?_
    refine yret ?_
    refine tret ?_
    exact yfin (rS rfl) ⟨_, .of, _, .nil, rfl⟩
  · refine yseq ?_
    refine yregion ?_
    refine yp pC ?_
    refine ynil ?_
    refine tnorm ?_
    refine yseq ?_
    refine yseq ?_
    refine yregion ?_
    refine yp (pS rfl) ?_
    refine yp (pNilS rfl rfl) ?_
    refine ynil ?_
    refine tnorm ?_
    refine ycondF rfl ?_
    refine yskip ?_
    refine tnorm ?_
    refine yseq ?_
    refine yregion ?_
    refine ycons (ybsl0 fun p5 => ?_)
    refine yp (pS rfl) ?_
    refine ycons (yapp rfl rfl Slc.empty (hL.src (by repeat (first | exact List.mem_cons_self | apply List.mem_cons_of_mem))) rfl (0, 0) rfl (by simp; omega) (by simp; omega) fun v2 H2 hL2 => ?_)
    obtain ⟨a2, c2, rfl⟩ := hL2.isSlice
    refine yp (pS rfl) ?_
    refine ynil ?_
    refine tnorm ?_
    refine yret ?_
    exact yfin (rS rfl) ⟨_, .of, _, hL2, rfl⟩

theorem cmp3_lt (a b : Int) : cmp3 a b < 0 ↔ a < b := by
  unfold cmp3
  split
  · next h => exact ⟨fun _ => h, fun _ => by decide⟩
  · split <;> omega

def byAt (e : Int × Int) : Int := e.2
theorem c68 {v : Value} {pre seg rest : List (Int × Int)} {H : List Chunk} (hL : Slc 93 v (pre ++ seg ++ rest) H) (hlen : (pre ++ seg ++ rest).length < 2 ^ 40) {a b : Nat} (ha : a = pre.length) (hb : b = pre.length + seg.length) :
    Tri Try.prog 68 #[v, .int .i64 (a : Int), .int .i64 (b : Int), .func (.func 58) #[] #[]] [H] (fun r S => r = .tuple #[] ∧ ∃ seg' H', SS byAt seg seg' ∧ seg'.length = seg.length ∧ Slc 93 v (pre ++ seg' ++ rest) H' ∧ S = [H']) :=
  ins_sort Try.fx68 rfl byAt (fun a b => (c58 a b).mono fun v S' ⟨h1, h2⟩ => ⟨⟨_, h1, cmp3_lt _ _⟩, h2⟩) hL hlen ha hb

theorem c65 {v : Value} {L : List (Int × Int)} {H : List Chunk} (hL : Slc 93 v L H) (hlen : L.length < 2 ^ 38) {n : Nat} (hn : n = L.length) :
    Tri Try.prog 65 #[v, .int .i64 (n : Int), .func (.func 58) #[] #[]] [H] (fun r S => r = .tuple #[] ∧ ∃ L' H', SS byAt L L' ∧ L'.length = L.length ∧ Slc 93 v L' H' ∧ S = [H']) :=
  stable_sort Try.fx65 Try.fx68 Try.fx69 Try.fx70 Try.fx71 rfl byAt (fun a b => (c58 a b).mono fun v S' ⟨h1, h2⟩ => ⟨⟨_, h1, cmp3_lt _ _⟩, h2⟩) hL hlen hn

theorem c57 {v : Value} {L : List (Int × Int)} {H : List Chunk} (hL : Slc 93 v L H) (hlen : L.length < 2 ^ 38) :
    Tri Try.prog 57 #[v, .func (.func 58) #[] #[]] [H] (fun r S => r = .tuple #[] ∧ ∃ L' H', SS byAt L L' ∧ L'.length = L.length ∧ Slc 93 v L' H' ∧ S = [H']) := by
  refine Tri.forget (ycallee Try.fx57 (Nat.le_of_ble_eq_true rfl) ?_)
  unfold Try.x57
  obtain ⟨a0, c0, rfl⟩ := hL.isSlice
  refine yregion ?_
  refine yp (pS rfl) ?_
  refine yp (pS rfl) ?_
  refine yp (pLen rfl) ?_
  refine yp (pF rfl) ?_
  refine ycons (ycall (c65 hL hlen rfl) rfl rfl fun v S' h => ?_)
  obtain ⟨rfl, L2, H2, hS2, hl2, hL2, rfl⟩ := h
  refine ynil ?_
  exact yfinN res0 ⟨_, .of, rfl, _, _, hS2, hl2, hL2, rfl⟩

/-- those whose time has come, in their order -/
def upto (at_ : Int) (L : List (Int × Int)) : List (Int × Int) := (isort byAt L).filter fun e => decide (byAt e ≤ at_)
def pv (e : Int × Int) : Array Value := #[.int .i64 e.1, .int .i64 e.2]

theorem c45 {p : Option Addr} {at_ : Int} : Tri Try.prog 45 #[.pointer p, .int .i64 at_] [] (fun r S => ∃ bd ba, r = .func (.func 55) #[] #[.pointer (some ⟨bd, 0, none⟩), .pointer (some ⟨ba, 0, none⟩)] ∧ S = [[(bd, .cells #[.pointer p] 65)], [(ba, .cells #[.int .i64 at_] 3)]]) := by
  refine Tri.forget (ycallee Try.fx45 (Nat.le_of_ble_eq_true rfl) ?_)
  unfold Try.x45
  refine yseq ?_
  refine yregion ?_
  refine ycons (ybx (scP rfl) fun p2 => ?_)
  refine ycons (ybx (scI rfl) fun p3 => ?_)
  refine yp pC ?_
  refine ynil ?_
  refine tnorm ?_
  refine yseq ?_
  refine yregion ?_
  refine yp (pFn2 (scP rfl) (scP rfl)) ?_
  refine yp (pF rfl) ?_
  refine ynil ?_
  refine tnorm ?_
  refine yret ?_
  exact yfin (rF rfl) ⟨_, .of, _, _, rfl, rfl⟩

theorem it55 {db bd ba : Nat} {v : Value} {L : List (Int × Int)} {H : List Chunk} {S0 : Segs} (hL : Slc 93 v L H) (hlen : L.length < 2 ^ 38) (at_ : Int) :
    IterOk Try.prog 55 #[] #[.pointer (some ⟨bd, 0, none⟩), .pointer (some ⟨ba, 0, none⟩)] [[(bd, .cells #[.pointer (some ⟨db, 0, none⟩)] 65)], [(ba, .cells #[.int .i64 at_] 3)]] ([(db, .cells #[v] 91)] :: H :: S0)
      (fun pre x => pre ++ [x] <+: (upto at_ L).map pv) (fun xs => xs = (upto at_ L).map pv) := by
  intro l c J Jx hJ0 hround
  have e0 : (#[] ++ #[.func (.yield l) #[] #[]] ++ #[.pointer (some ⟨bd, 0, none⟩), .pointer (some ⟨ba, 0, none⟩)] : Array Value) = #[.func (.yield l) #[] #[], .pointer (some ⟨bd, 0, none⟩), .pointer (some ⟨ba, 0, none⟩)] := rfl
  rw [e0]
  refine Tri.forget (ycallee Try.fx55 (Nat.le_of_ble_eq_true rfl) ?_)
  unfold Try.x55
  refine yseq ?_
  refine yseq ?_
  refine yregion ?_
  refine ycons (yload1 rfl rfl ?_)
  refine yp (pNilP rfl rfl) ?_
  refine ynil ?_
  refine tnorm ?_
  refine ycondF rfl ?_
  refine yskip ?_
  refine tnorm ?_
  refine yseq ?_
  refine yregion ?_
  refine ycons (yload1 rfl rfl ?_)
  refine yp (pNilc rfl) ?_
  refine yp (pFadr rfl) ?_
  refine ycons (yload1 rfl rfl ?_)
  obtain ⟨a0, c0, rfl⟩ := hL.isSlice
  skip
  refine ycons (ycall (c56 hL (by omega)) rfl rfl fun v S' h => ?_)
  obtain ⟨H1, hL1, rfl⟩ := h
  obtain ⟨a1, c1, rfl⟩ := hL1.isSlice
  refine yp (pS rfl) ?_
  refine ynil ?_
  refine tnorm ?_
  refine yseq ?_
  refine yregion ?_
  refine yp (pS rfl) ?_
  refine ycons (ycall (c57 hL1 hlen) rfl rfl fun v S' h => ?_)
  obtain ⟨rfl, R, H2, hS, hl, hL2, rfl⟩ := h
  have hR := hS.eq
  have hU : upto at_ L = R.filter fun e => decide (byAt e ≤ at_) := by rw [upto, ← hR]
  rw [hU]
  rw [hU] at hround
  clear hU hR
  have hso := hS.1
  refine ynil ?_
  refine tnorm ?_
  refine yseq ?_
  refine yregion ?_
  refine yp (pS rfl) ?_
  refine yp (pLen rfl) ?_
  refine yp pC ?_
  refine ynil ?_
  refine tnorm ?_
  refine yblock ?_
  refine yloop (σ := Nat) (fun i E S => Has E [(0, .func (.yield l) #[] #[]), (2, .pointer (some ⟨ba, 0, none⟩)), (16, .slice a1 L.length c1), (17, .int .i64 L.length), (18, .int .i64 i)] ∧ i ≤ R.length ∧ (∀ e ∈ R.take i, byAt e ≤ at_) ∧ ∃ T, J ((R.take i).map pv) T ∧ Junk S ([(ba, .cells #[.int .i64 at_] 3)] :: H2 :: T)) (fun i => L.length - i) 0 ⟨⟨rfl, rfl, rfl, rfl, rfl, trivial⟩, Nat.zero_le _, by simp, [c] :: [(db, .cells #[.slice a0 L.length c0] 91)] :: H :: S0, hJ0, .of⟩ fun i E S ⟨hE, hi, hle, T, hJ, hK⟩ => ?_
  obtain ⟨E0, e0⟩ := has_puts hE; subst e0; clear hE
  refine yforget hK ?_
  refine yseq ?_
  refine yregion ?_
  refine yp (pLt rfl rfl) ?_
  refine ynil ?_
  refine tnorm ?_
  refine yseq ?_
  refine ycondD rfl (fun h => ?_) (fun h => ?_)
  · have hlt : i < R.length := by omega
    obtain ⟨bb, sp, fz, hz, rfl, hm, hc, rfl⟩ := hL2.at' (by intro h; simp [h] at hlt)
    have htk : R.take (i + 1) = R.take i ++ [R[i]] := by rw [List.take_add_one, List.getElem?_eq_getElem hlt]; rfl
    have hdr : R.drop i = R[i] :: R.drop (i + 1) := List.drop_eq_getElem_cons hlt
    refine yskip ?_
    refine tnorm ?_
    refine yseq ?_
    refine yblock ?_
    refine yseq ?_
    refine yregion ?_
    refine yp (pIxN rfl rfl (by omega)) ?_
    refine ycons (yloadN (l := enc R[i]) rfl (row_elem hlt rfl) rfl ?_)
    refine ycons (yalloc fun p6 => ?_)
    refine ycons (ystAll (c' := [.int .i64 R[i].1, .int .i64 R[i].2]) rfl rfl rfl rfl rfl ?_)
    refine ynil ?_
    refine tnorm ?_
    refine yseq ?_
    refine yregion ?_
    refine yp (pFadr rfl) ?_
    refine ycons (yload1 rfl rfl ?_)
    refine ycons (yload1 rfl rfl ?_)
    refine yp (pGt rfl rfl) ?_
    refine yp (pB rfl) ?_
    by_cases hat : at_ < R[i].2
    · rw [decide_eq_true hat]
      refine ygF rfl ?_
      refine ygF rfl ?_
      refine ygF rfl ?_
      refine ygF rfl ?_
      refine ygF rfl ?_
      refine ygF rfl ?_
      refine ygF rfl ?_
      refine yp (pPickT rfl rfl) ?_
      refine ynil ?_
      refine tnorm ?_
      refine ycondT rfl ?_
      refine yret ?_
      refine bret ?_
      refine tret ?_
      refine tret ?_
      refine bret ?_
      refine yfin res0 ⟨T, .of, .inl ⟨_, ?_, hJ⟩⟩
      have h1 : R.filter (fun e => decide (byAt e ≤ at_)) = R.take i := by
        conv => lhs; rw [← List.take_append_drop i R]
        rw [List.filter_append, List.filter_eq_self.2 (by intro e he; simpa using hle e he)]
        have : (R.drop i).filter (fun e => decide (byAt e ≤ at_)) = [] := by
          rw [List.filter_eq_nil_iff]
          intro e he
          have hp := (List.pairwise_append.1 (by rw [List.take_append_drop]; exact hso : (R.take i ++ R.drop i).Pairwise _)).2.1
          rw [hdr] at hp he
          rcases List.mem_cons.1 he with rfl | he
          · have h9 : byAt R[i] = R[i].2 := rfl
            simp; omega
          · have := (List.pairwise_cons.1 hp).1 e he
            have h9 : byAt R[i] = R[i].2 := rfl
            simp; omega
        rw [this, List.append_nil]
      rw [h1]
    · rw [decide_eq_false hat]
      refine ygT rfl ?_
      refine yop (pF rfl) ?_
      refine ygT rfl ?_
      refine yop (pFadr rfl) ?_
      refine ygT rfl ?_
      refine (yload1 rfl rfl ?_)
      refine ygT rfl ?_
      refine yop (pFadr rfl) ?_
      refine ygT rfl ?_
      refine (yload1 rfl rfl ?_)
      refine ygT rfl ?_
      have hle' : ∀ e ∈ R.take (i + 1), byAt e ≤ at_ := by
        intro e he
        rw [htk] at he
        rcases List.mem_append.1 he with he | he
        · exact hle e he
        · rw [List.mem_singleton.1 he]; show R[i].2 ≤ at_; omega
      have hV : (R.take i).map pv ++ [pv R[i]] <+: (R.filter fun e => decide (byAt e ≤ at_)).map pv := by
        have e1 : (R.take i).map pv ++ [pv R[i]] = (R.take (i + 1)).map pv := by rw [htk, List.map_append]; rfl
        rw [e1]
        refine List.IsPrefix.map pv ?_
        conv => rhs; rw [← List.take_append_drop (i + 1) R]
        rw [List.filter_append, List.filter_eq_self.2 (by intro e he; simpa using hle' e he)]
        exact List.prefix_append _ _
      refine yyieldI (hround _ _ T hV hJ) rfl rfl fun b T' h => ?_
      rcases h with ⟨rfl, hJ'⟩ | ⟨rfl, hJx⟩
      · refine ygT rfl ?_
        refine yop (pNot rfl) ?_
        refine yp (pPickF rfl rfl) ?_
        refine ynil ?_
        refine tnorm ?_
        refine ycondF rfl ?_
        refine yskip ?_
        refine bnorm ?_
        refine tnorm ?_
        refine yregion ?_
        refine yp (pInc rfl rfl (by omega)) ?_
        refine yp (pI rfl) ?_
        refine ynil ?_
        refine tnorm ?_
        refine ⟨i + 1, ⟨⟨rfl, rfl, rfl, rfl, rfl, trivial⟩, by omega, hle', T', ?_, .of⟩, by omega⟩
        rw [htk, List.map_append]; exact hJ'
      · refine ygT rfl ?_
        refine yop (pNot rfl) ?_
        refine yp (pPickF rfl rfl) ?_
        refine ynil ?_
        refine tnorm ?_
        refine ycondT rfl ?_
        refine yret ?_
        refine bret ?_
        refine tret ?_
        refine tret ?_
        refine bret ?_
        exact yfin res0 ⟨T', .of, .inr ⟨_, hJx⟩⟩
  · refine yexit ?_
    refine texit ?_
    refine texit ?_
    refine bexit ?_
    refine yfinN res0 ⟨T, .of, .inl ⟨_, ?_, hJ⟩⟩
    rw [List.take_of_length_le (by omega)] at hle ⊢
    rw [List.filter_eq_self.2 (by intro e he; simpa using hle e he)]
end Go.Proofs.Ytmgiamagocefcaa
