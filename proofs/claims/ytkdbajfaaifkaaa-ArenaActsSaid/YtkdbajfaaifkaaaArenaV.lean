/- The arena (chapter 6): part, Read, Write, Handles. -/
import Derived.Test.YtkdbajfaaifkaaaArenaU
namespace Go.Proofs.Ytkdbajfaaifkaaa
open Go.Xs
open Enc (enc)

theorem rSI {E : Env} {S : Segs} {t u : Tmp} {p : Option Addr} {n m : Nat} {k : IntKind} {a : Int} (hv : E t = .slice p n m) (hv' : E u = .int k a) : Res Try.prog #[.tmp t, .tmp u] E S (.tuple #[.slice p n m, .int k a]) := res2 hv hv'

/-- what is wrong with so many bytes of a block from there on -/
def partE (D : List (Option Bt)) (h at_ n : Int) : Int := match getB D h with
  | none => 5
  | some b => if at_ < 0 ∨ n < 0 ∨ (b.length : Int) < n ∨ (b.length : Int) - n < at_ then 1 else 0
theorem partE_ok {D : List (Option Bt)} {h at_ n : Int} (hp : partE D h at_ n = 0) : ∃ (b : Bt) (x y : Nat), getB D h = some b ∧ at_ = x ∧ n = y ∧ x + y ≤ b.length := by
  unfold partE at hp
  split at hp
  · cases hp
  · next b hb =>
    split at hp
    · cases hp
    · exact ⟨b, at_.toNat, n.toNat, hb, by omega, by omega, by omega⟩
theorem arPart {ab bb N : Nat} {kv : Value} {used top : Nat} {T : Tab} {HK : List Chunk} {B : Bt} (hI : Inv N T B used top) (hK : Slc 89 kv (kof T) HK) (h at_ n : Int) :
    Tri Try.prog 53 #[.pointer (some ⟨ab, 0, none⟩), .int .i64 h, .int .i64 at_, .int .i64 n] [aseg ab (.slice (some ⟨bb, 0, none⟩) N N) kv (used : Int) (top : Int), HK]
      (fun r S => ((partE (dof T) h at_ n ≠ 0 ∧ r = .tuple #[.slice none 0 0, .int .i64 (partE (dof T) h at_ n)]) ∨ (partE (dof T) h at_ n = 0 ∧ ∃ (i p : Nat) (b : Bt) (x y o c : Nat), h = (i : Int) + 1 ∧ T[i]? = some (some (p, b)) ∧ at_ = x ∧ n = y ∧ x + y ≤ b.length ∧ (0 < y → o = p + 8 + x) ∧ o + y ≤ N ∧ r = .tuple #[.slice (some ⟨bb, o, none⟩) y c, .int .i64 0])) ∧
        S = [aseg ab (.slice (some ⟨bb, 0, none⟩) N N) kv (used : Int) (top : Int), HK]) := by
  refine Tri.forget (ycallee Try.fx53 (Nat.le_of_ble_eq_true rfl) ?_)
  unfold Try.x53
  have hl := hI.tlen
  have hbig := hI.big
  refine yseq ?_
  refine yregion ?_
  refine yp pC ?_
  refine yp pC ?_
  refine ynil ?_
  refine tnorm ?_
  refine yseq ?_
  refine yseq ?_
  refine yregion ?_
  refine yp (pP rfl) ?_
  refine yp (pI rfl) ?_
  refine ycons (ycall (arThere (ab := ab) (bv := .slice (some ⟨bb, 0, none⟩) N N) (used := (used : Int)) (top := (top : Int)) hK hl h) rfl rfl fun r S' h => ?_)
  obtain ⟨rfl, rfl⟩ := h
  rw [thr_kof]
  cases hb : getB (dof T) h with
  | none =>
    refine yp (pNot rfl) ?_
    refine ynil ?_
    refine tnorm ?_
    refine ycondT rfl ?_
    refine yseq ?_
    refine yregion ?_
    refine yp pC ?_
    refine yp pC ?_
    refine ynil ?_
    refine tnorm ?_
    refine yret ?_
    refine tret ?_
    have hp : partE (dof T) h at_ n = 5 := by unfold partE; rw [hb]
    exact yfin (rSI rfl rfl) ⟨_, .of, .inl ⟨by rw [hp]; decide, by rw [hp]⟩, rfl⟩
  | some b =>
    obtain ⟨i, p, rfl, ht⟩ := getB_some hb
    obtain ⟨h4, hpt, _⟩ := hI.inn i p b ht
    have htn := hI.tn
    have hc := (costN_is b.length h4).2.1
    refine yp (pNot rfl) ?_
    refine ynil ?_
    refine tnorm ?_
    refine ycondF rfl ?_
    refine yskip ?_
    refine tnorm ?_
    refine yseq ?_
    refine yregion ?_
    refine yp (pP rfl) ?_
    refine yp (pI rfl) ?_
    refine ycons (ycall (arData (ab := ab) (bb := bb) (N := N) (used := (used : Int)) (top := (top : Int)) hK (h := (i : Int) + 1) (i := i) (q := p + 8) (n := b.length) rfl ((kof_get ht).trans (by simp)) (by omega) (by omega) hl) rfl rfl fun r S' h => ?_)
    obtain ⟨rfl, rfl⟩ := h
    refine yp (pS rfl) ?_
    refine ynil ?_
    refine tnorm ?_
    refine yseq ?_
    refine yseq ?_
    refine yregion ?_
    refine yp (pI rfl) ?_
    refine yp (pLt rfl rfl) ?_
    refine yp (pB rfl) ?_
    have bad : (at_ < 0 ∨ n < 0 ∨ (b.length : Int) < n ∨ (b.length : Int) - n < at_) → partE (dof T) ((i : Int) + 1) at_ n = 1 := fun h => by unfold partE; rw [hb]; exact if_pos h
    by_cases c1 : at_ < 0
    · rw [decide_eq_true c1]
      refine ygF rfl ?_
      refine ygF rfl ?_
      refine yp (pPickT rfl rfl) ?_
      refine yp (pB rfl) ?_
      refine ygF rfl ?_
      refine ygF rfl ?_
      refine ygF rfl ?_
      refine ygF rfl ?_
      refine yp (pPickT rfl rfl) ?_
      refine yp (pB rfl) ?_
      refine ygF rfl ?_
      refine ygF rfl ?_
      refine ygF rfl ?_
      refine ygF rfl ?_
      refine ygF rfl ?_
      refine ygF rfl ?_
      refine yp (pPickT rfl rfl) ?_
      refine ynil ?_
      refine tnorm ?_
      refine ycondT rfl ?_
      refine yseq ?_
      refine yregion ?_
      refine yp pC ?_
      refine yp pC ?_
      refine ynil ?_
      refine tnorm ?_
      refine yret ?_
      refine tret ?_
      exact yfin (rSI rfl rfl) ⟨_, .of, .inl ⟨by rw [bad (.inl c1)]; decide, by rw [bad (.inl c1)]⟩, rfl⟩
    rw [decide_eq_false c1]
    refine ygT rfl ?_
    refine yop (pI rfl) ?_
    refine ygT rfl ?_
    refine yop (pLt rfl rfl) ?_
    refine yp (pPickF rfl rfl) ?_
    refine yp (pB rfl) ?_
    by_cases c2 : n < 0
    · rw [decide_eq_true c2]
      refine ygF rfl ?_
      refine ygF rfl ?_
      refine ygF rfl ?_
      refine ygF rfl ?_
      refine yp (pPickT rfl rfl) ?_
      refine yp (pB rfl) ?_
      refine ygF rfl ?_
      refine ygF rfl ?_
      refine ygF rfl ?_
      refine ygF rfl ?_
      refine ygF rfl ?_
      refine ygF rfl ?_
      refine yp (pPickT rfl rfl) ?_
      refine ynil ?_
      refine tnorm ?_
      refine ycondT rfl ?_
      refine yseq ?_
      refine yregion ?_
      refine yp pC ?_
      refine yp pC ?_
      refine ynil ?_
      refine tnorm ?_
      refine yret ?_
      refine tret ?_
      exact yfin (rSI rfl rfl) ⟨_, .of, .inl ⟨by rw [bad (.inr (.inl c2))]; decide, by rw [bad (.inr (.inl c2))]⟩, rfl⟩
    rw [decide_eq_false c2]
    refine ygT rfl ?_
    refine yop (pI rfl) ?_
    refine ygT rfl ?_
    refine yop (pS rfl) ?_
    refine ygT rfl ?_
    refine yop (pLen rfl) ?_
    refine ygT rfl ?_
    refine yop (pGt rfl rfl) ?_
    refine yp (pPickF rfl rfl) ?_
    refine yp (pB rfl) ?_
    by_cases c3 : (b.length : Int) < n
    · rw [decide_eq_true c3]
      refine ygF rfl ?_
      refine ygF rfl ?_
      refine ygF rfl ?_
      refine ygF rfl ?_
      refine ygF rfl ?_
      refine ygF rfl ?_
      refine yp (pPickT rfl rfl) ?_
      refine ynil ?_
      refine tnorm ?_
      refine ycondT rfl ?_
      refine yseq ?_
      refine yregion ?_
      refine yp pC ?_
      refine yp pC ?_
      refine ynil ?_
      refine tnorm ?_
      refine yret ?_
      refine tret ?_
      exact yfin (rSI rfl rfl) ⟨_, .of, .inl ⟨by rw [bad (.inr (.inr (.inl c3)))]; decide, by rw [bad (.inr (.inr (.inl c3)))]⟩, rfl⟩
    rw [decide_eq_false c3]
    refine ygT rfl ?_
    refine yop (pI rfl) ?_
    refine ygT rfl ?_
    refine yop (pS rfl) ?_
    refine ygT rfl ?_
    refine yop (pLen rfl) ?_
    refine ygT rfl ?_
    refine yop (pI rfl) ?_
    refine ygT rfl ?_
    refine yop (pSub rfl rfl (by omega)) ?_
    refine ygT rfl ?_
    refine yop (pGt rfl rfl) ?_
    refine yp (pPickF rfl rfl) ?_
    refine ynil ?_
    refine tnorm ?_
    by_cases c4 : (b.length : Int) - n < at_
    · rw [decide_eq_true c4]
      refine ycondT rfl ?_
      refine yseq ?_
      refine yregion ?_
      refine yp pC ?_
      refine yp pC ?_
      refine ynil ?_
      refine tnorm ?_
      refine yret ?_
      refine tret ?_
      exact yfin (rSI rfl rfl) ⟨_, .of, .inl ⟨by rw [bad (.inr (.inr (.inr c4)))]; decide, by rw [bad (.inr (.inr (.inr c4)))]⟩, rfl⟩
    rw [decide_eq_false c4]
    obtain ⟨x, rfl⟩ := Int.eq_ofNat_of_zero_le (show 0 ≤ at_ from by omega)
    obtain ⟨y, rfl⟩ := Int.eq_ofNat_of_zero_le (show 0 ≤ n from by omega)
    refine ycondF rfl ?_
    refine yskip ?_
    refine tnorm ?_
    refine yseq ?_
    refine yregion ?_
    refine yp (pS rfl) ?_
    refine yp (pI rfl) ?_
    refine yp (pI rfl) ?_
    refine yp (pI rfl) ?_
    refine yp (pAddN rfl rfl (by omega)) ?_
    refine yp (pSlFT (j := x) (k := x + y) rfl rfl rfl (by omega)) ?_
    obtain ⟨o, ho⟩ : ∃ o, o = (if b.length = x then (if b.length = 0 then 0 else p + 8) else (if b.length = 0 then 0 else p + 8) + x * 1) := ⟨_, rfl⟩
    rw [← ho, show x + y - x = y from by omega]
    refine yp (pS rfl) ?_
    refine yp pC ?_
    refine ynil ?_
    refine tnorm ?_
    refine yret ?_
    have hp : partE (dof T) ((i : Int) + 1) (x : Int) (y : Int) = 0 := by
      unfold partE; rw [hb]; exact if_neg (by omega)
    refine yfin (rSI rfl rfl) ⟨_, .of, .inr ⟨hp, i, p, b, x, y, o, b.length - x, rfl, ht, rfl, rfl, by omega, fun hy => ?_, ?_, rfl⟩, rfl⟩
    · rw [ho, if_neg (by omega), if_neg (by omega)]; omega
    · rw [ho]
      split
      · split <;> omega
      · split <;> omega

/-- the bytes that are read -/
def readB (D : List (Option Bt)) (h at_ n : Int) : Bt := if partE D h at_ n = 0 then (((getB D h).getD []).drop at_.toNat).take n.toNat else []
theorem src_part {bb o y c ty : Nat} {B Y : Bt} {S : Segs} (hm : [(bb, Obj.cells (cells B).toArray ty)] ∈ S) (hy : Y.length = y) (h : ∀ k, k < y → B[o + k]? = Y[k]?) : Src S (.slice (some ⟨bb, o, none⟩) y c) Y := by
  rcases Nat.eq_zero_or_pos y with h0 | h0
  · subst h0
    obtain rfl := List.length_eq_zero_iff.1 hy
    exact .nil
  · subst hy
    refine .part hm ?_
    have e : (B.drop o).take Y.length = Y := by
      apply List.ext_getElem?
      intro k
      by_cases hk : k < Y.length
      · rw [List.getElem?_take_of_lt hk, List.getElem?_drop, h k hk]
      · rw [List.getElem?_eq_none (by rw [List.length_take]; omega), List.getElem?_eq_none (by omega)]
    show ((cells B).drop o).take (Y.length * 1) = _
    have h1 := cells_drop B o
    have h2 := cells_take (B.drop o) Y.length
    rw [show Enc.k UInt8 = 1 from rfl] at h1 h2
    rw [Nat.mul_one] at h1
    rw [h1, h2, e]
theorem cl_bytes {v : Value} {L : Bt} {S : Segs} (hS : Src S v L) (hnil : v = .slice none 0 0 ∨ ∃ a c, v = .slice (some a) L.length c) (hlen : L.length < 2 ^ 40) :
    Tri Try.prog 54 #[v] S (fun r S' => ∃ H', Slc 5 r L H' ∧ S' = H' :: S) :=
  clone_all (ty := 5) (k := 1) (bytes := 1) Try.fx54 rfl 0 rfl hS hnil hlen (by omega)
theorem arRead {ab N : Nat} {D : List (Option Bt)} {H : List Chunk} (hA : Ar ab N D H) (h at_ n : Int) :
    Tri Try.prog 18 #[.pointer (some ⟨ab, 0, none⟩), .int .i64 h, .int .i64 at_, .int .i64 n] [H]
      (fun r S => ∃ v Ho, r = .tuple #[v, .int .i64 (partE D h at_ n)] ∧ Slc 5 v (readB D h at_ n) Ho ∧ S = [Ho, H]) := by
  obtain ⟨bb, kv, HK, T, B, used, top, hI, rfl, hK, rfl⟩ := hA
  refine Tri.split3 (Tri.forget (ycallee Try.fx18 (Nat.le_of_ble_eq_true rfl) ?_))
  unfold Try.x18
  refine yseq ?_
  refine yregion ?_
  refine yp pC ?_
  refine yp pC ?_
  refine ynil ?_
  refine tnorm ?_
  refine yseq ?_
  refine yregion ?_
  refine yp (pP rfl) ?_
  refine yp (pI rfl) ?_
  refine yp (pI rfl) ?_
  refine yp (pI rfl) ?_
  refine ycons (ycall (arPart (ab := ab) (bb := bb) hI hK h at_ n) rfl rfl fun r S' h => ?_)
  obtain ⟨hr, rfl⟩ := h
  rcases hr with ⟨hne, rfl⟩ | ⟨heq, i, p, b, x, y, o, c, rfl, ht, rfl, rfl, hxy, ho, hoN, rfl⟩
  · refine yp (pU rfl) ?_
    refine yp (pExt rfl rfl) ?_
    refine yp (pExt rfl rfl) ?_
    refine yp (pS rfl) ?_
    refine yp (pI rfl) ?_
    refine ynil ?_
    refine tnorm ?_
    refine yseq ?_
    refine yregion ?_
    refine yp (pS rfl) ?_
    refine ycons (ycall (cl_bytes (L := []) (S := []) .nil (.inl rfl) (by simp)) rfl rfl fun r S' h => ?_)
    obtain ⟨Ho, hLo, rfl⟩ := h
    obtain ⟨a, c, rfl⟩ := hLo.isSlice
    refine yp (pI rfl) ?_
    refine yp (pS rfl) ?_
    refine yp (pI rfl) ?_
    refine ynil ?_
    refine tnorm ?_
    refine yret ?_
    refine yfin (rSI rfl rfl) ⟨[Ho, aseg ab (.slice (some ⟨bb, 0, none⟩) N N) kv (used : Int) (top : Int) ++ bch bb B ++ HK], .trans (.of (S0 := [Ho, aseg ab (.slice (some ⟨bb, 0, none⟩) N N) kv (used : Int) (top : Int), bch bb B, HK])) ⟨[], by simp⟩, _, Ho, rfl, ?_, rfl⟩
    unfold readB; rw [if_neg hne]; exact hLo
  · obtain ⟨_, _, hin⟩ := hI.inn i p b ht
    have h4 := (hI.inn i p b ht).1
    have hY : ((b.drop x).take y).length = y := by rw [List.length_take, List.length_drop]; omega
    refine yp (pU rfl) ?_
    refine yp (pExt rfl rfl) ?_
    refine yp (pExt rfl rfl) ?_
    refine yp (pS rfl) ?_
    refine yp (pI rfl) ?_
    refine ynil ?_
    refine tnorm ?_
    refine yseq ?_
    refine yregion ?_
    refine yp (pS rfl) ?_
    refine ycons (ycall (cl_bytes (L := (b.drop x).take y) (S := [bch bb B]) (src_part (bb := bb) (o := o) (B := B) (ty := 5) (by simp) hY fun k hk => ?_) (.inr ⟨⟨bb, o, none⟩, c, by rw [hY]⟩) (by omega)) rfl rfl fun r S' h => ?_)
    · rw [ho (by omega), List.getElem?_take_of_lt hk, List.getElem?_drop, show p + 8 + x + k = p + 8 + (x + k) from by omega]
      exact hin _ (by omega)
    obtain ⟨Ho, hLo, rfl⟩ := h
    obtain ⟨a, c2, rfl⟩ := hLo.isSlice
    refine yp (pI rfl) ?_
    refine yp (pS rfl) ?_
    refine yp (pI rfl) ?_
    refine ynil ?_
    refine tnorm ?_
    refine yret ?_
    refine yfin (rSI rfl rfl) ⟨[Ho, aseg ab (.slice (some ⟨bb, 0, none⟩) N N) kv (used : Int) (top : Int) ++ bch bb B ++ HK], .trans (.of (S0 := [Ho, aseg ab (.slice (some ⟨bb, 0, none⟩) N N) kv (used : Int) (top : Int), bch bb B, HK])) ⟨[], by simp⟩, _, Ho, by rw [heq], ?_, rfl⟩
    unfold readB
    rw [if_pos heq, getB_at, dof_get ht]
    exact hLo
/-- what is written -/
def spl (b : Bt) (x : Nat) (Y : Bt) : Bt := b.take x ++ Y ++ b.drop (x + Y.length)
theorem spl_len {b Y : Bt} {x : Nat} (h : x + Y.length ≤ b.length) : (spl b x Y).length = b.length := by
  unfold spl; simp; omega
theorem spl_get {b Y : Bt} {x : Nat} (h : x + Y.length ≤ b.length) (k : Nat) : (spl b x Y)[k]? = if k < x then b[k]? else if k < x + Y.length then Y[k - x]? else b[k]? := by
  have h1 : (b.take x).length = x := by rw [List.length_take]; omega
  unfold spl
  split
  · next h2 => rw [List.append_assoc, List.getElem?_append_left (by omega), List.getElem?_take_of_lt h2]
  · split
    · next h3 => rw [List.append_assoc, List.getElem?_append_right (by omega), List.getElem?_append_left (by omega), h1]
    · next h3 =>
      rw [List.getElem?_append_right (by simp; omega), List.getElem?_drop]
      congr 1
      simp; omega
def writeD (D : List (Option Bt)) (h at_ : Int) (Y : Bt) : List (Option Bt) := if partE D h at_ Y.length = 0 then D.set (h - 1).toNat (some (spl ((getB D h).getD []) at_.toNat Y)) else D
theorem set_bytes {B Y : Bt} {o : Nat} (h : o + Y.length ≤ B.length) : setAll (cells B).toArray.toList o (cells (Y.take Y.length)) = cells (spl B o Y) := by
  have := setAll_cells B o Y h
  rw [show Enc.k UInt8 = 1 from rfl, Nat.mul_one] at this
  rw [List.take_length]
  exact this
theorem arWrite {ab N : Nat} {D : List (Option Bt)} {H : List Chunk} {S0 : Segs} (hA : Ar ab N D H) (h at_ : Int) {v : Value} {Y : Bt} (hY : Src S0 v Y) (_hl : Y.length ≤ maxLen) :
    Tri Try.prog 17 #[.pointer (some ⟨ab, 0, none⟩), .int .i64 h, .int .i64 at_, v] (H :: S0)
      (fun r S => r = .int .i64 (partE D h at_ Y.length) ∧ ∃ H', Ar ab N (writeD D h at_ Y) H' ∧ S = H' :: S0) := by
  obtain ⟨bb, kv, HK, T, B, used, top, hI, rfl, hK, rfl⟩ := hA
  refine Tri.split3 (Tri.forget (ycallee Try.fx17 (Nat.le_of_ble_eq_true rfl) ?_))
  unfold Try.x17
  obtain ⟨va, vc, rfl⟩ := hY.isSlice
  refine yseq ?_
  refine yregion ?_
  refine yp pC ?_
  refine ynil ?_
  refine tnorm ?_
  refine yseq ?_
  refine yregion ?_
  refine yp (pP rfl) ?_
  refine yp (pI rfl) ?_
  refine yp (pI rfl) ?_
  refine yp (pS rfl) ?_
  refine yp (pLen rfl) ?_
  refine ycons (ycall (arPart (ab := ab) (bb := bb) hI hK h at_ (Y.length : Nat)) rfl rfl fun r S' h => ?_)
  obtain ⟨hr, rfl⟩ := h
  rcases hr with ⟨hne, rfl⟩ | ⟨heq, i, p, b, x, y, o, c, rfl, ht, rfl, hyl, hxy, ho, hoN, rfl⟩
  · refine yp (pU rfl) ?_
    refine yp (pExt rfl rfl) ?_
    refine yp (pExt rfl rfl) ?_
    refine yp (pS rfl) ?_
    refine yp (pI rfl) ?_
    refine ynil ?_
    refine tnorm ?_
    refine yseq ?_
    refine yregion ?_
    refine yp (pS rfl) ?_
    refine yp (pS rfl) ?_
    refine ycons (ycopy0 rfl rfl (hY.more fun s hs => by simp [hs]) rfl ?_)
    refine ynil ?_
    refine tnorm ?_
    refine yseq ?_
    refine yregion ?_
    refine yp (pI rfl) ?_
    refine yp (pI rfl) ?_
    refine ynil ?_
    refine tnorm ?_
    refine yret ?_
    refine yfin (rI rfl) ⟨(aseg ab (.slice (some ⟨bb, 0, none⟩) N N) kv (used : Int) (top : Int) ++ bch bb B ++ HK) :: S0, .trans (.of (S0 := aseg ab (.slice (some ⟨bb, 0, none⟩) N N) kv (used : Int) (top : Int) :: bch bb B :: HK :: S0)) ⟨[], by simp⟩, rfl, _, ⟨bb, kv, HK, T, B, used, top, hI, ?_, hK, rfl⟩, rfl⟩
    unfold writeD; rw [if_neg hne]
  · obtain rfl : Y.length = y := by omega
    obtain ⟨h4, hpt, hin⟩ := hI.inn i p b ht
    have hBl := hI.len
    refine yp (pU rfl) ?_
    refine yp (pExt rfl rfl) ?_
    refine yp (pExt rfl rfl) ?_
    refine yp (pS rfl) ?_
    refine yp (pI rfl) ?_
    refine ynil ?_
    refine tnorm ?_
    refine yseq ?_
    refine yregion ?_
    refine yp (pS rfl) ?_
    refine yp (pS rfl) ?_
    refine ycons (ycopy (b := bb) (o := o) (fz := (0, 0)) rfl rfl (hY.more fun s hs => by simp [hs]) rfl (by simp [cells_length, show Enc.k UInt8 = 1 from rfl]; omega) (.inl rfl) ?_)
    rw [set_bytes (by omega)]
    refine ynil ?_
    refine tnorm ?_
    refine yseq ?_
    refine yregion ?_
    refine yp (pI rfl) ?_
    refine yp (pI rfl) ?_
    refine ynil ?_
    refine tnorm ?_
    refine yret ?_
    have hsp := spl_get (b := B) (Y := Y) (x := o) (by omega)
    have hI2 := hI.bytes (b' := spl b x Y) (B' := spl B o Y) ht (spl_len hxy) (spl_len (by omega)) (fun z hz => ?_) (fun z hz => ?_)
    rotate_left
    · rw [hsp]
      rcases Nat.eq_zero_or_pos Y.length with h0 | h0
      · split
        · rfl
        · rw [if_neg (by omega)]
      · have := ho h0
        split
        · rfl
        · rw [if_neg (by omega)]
    · rw [hsp, spl_get hxy]
      rcases Nat.eq_zero_or_pos Y.length with h0 | h0
      · have e1 : (if p + 8 + z < o then B[p + 8 + z]? else if p + 8 + z < o + Y.length then Y[p + 8 + z - o]? else B[p + 8 + z]?) = B[p + 8 + z]? := by
          split
          · rfl
          · rw [if_neg (by omega)]
        have e2 : (if z < x then b[z]? else if z < x + Y.length then Y[z - x]? else b[z]?) = b[z]? := by
          split
          · rfl
          · rw [if_neg (by omega)]
        rw [e1, e2]; exact hin z hz
      · have := ho h0
        by_cases c1 : z < x
        · rw [if_pos c1, if_pos (by omega)]; exact hin z hz
        · rw [if_neg c1, if_neg (by omega)]
          by_cases c2 : z < x + Y.length
          · rw [if_pos c2, if_pos (by omega)]; congr 1; omega
          · rw [if_neg c2, if_neg (by omega)]; exact hin z hz
    have hks : kof (T.set i (some (p, spl b x Y))) = kof T := by
      rw [kof_set]
      refine List.ext_getElem? fun j => ?_
      rw [List.getElem?_set]
      split
      · next hij =>
        subst hij
        rw [kof_get ht]
        split
        · simp [ent, spl_len hxy]
        · next hh => rw [kof_len] at hh; exact absurd (List.getElem?_eq_some_iff.1 ht).1 hh
      · rfl
    refine yfin (rI rfl) ⟨(aseg ab (.slice (some ⟨bb, 0, none⟩) N N) kv (used : Int) (top : Int) ++ bch bb (spl B o Y) ++ HK) :: S0, .trans (.of (S0 := aseg ab (.slice (some ⟨bb, 0, none⟩) N N) kv (used : Int) (top : Int) :: bch bb (spl B o Y) :: HK :: S0)) ⟨[], by simp⟩, by rw [heq], _, ⟨bb, kv, HK, T.set i (some (p, spl b x Y)), spl B o Y, used, top, hI2, ?_, by rw [hks]; exact hK, rfl⟩, rfl⟩
    unfold writeD
    rw [if_pos heq, getB_at, dof_get ht, dof_set, show ((i : Int) + 1 - 1).toNat = i from by omega]
    rfl
end Go.Proofs.Ytkdbajfaaifkaaa
