/- Names (chapter 1): what is a name, and with small letters; the program's, and the document's. The table of names (chapter 7), plainly: names by number and by letters, how often a name is used in eight bytes, arenas of like blocks. -/
import Derived.Test.YtejmbmenbailmaaB3
import Derived.Test.YtejmbmenbailmaaFNames
import Derived.Test.YtejmbmenbailmaaA2
namespace Go.Proofs.Ytejmbmenbailmaa
open Go.Xs
open Enc (enc)

abbrev Bs := List UInt8
/-- a text -/
abbrev sv (Y : Bs) : Value := .string ⟨Y.toArray⟩
def ldF : Nat → Bs → Nat → Nat × Bool
  | 0, _, _ => (0, false)
  | f + 1, Y, a => match Y[a]? with
    | some b => if 255 ≤ a then (0, false) else if b.toNat = 0 then (a + 1, true) else if 63 < b.toNat then (0, false) else ldF f Y (a + 1 + b.toNat)
    | none => (0, false)
def lead (Y : Bs) : Nat × Bool := ldF 256 Y 0
def vld (Y : Bs) : Bool := (lead Y).2 && (lead Y).1 == Y.length
def low (b : UInt8) : UInt8 := if 65 ≤ b.toNat ∧ b.toNat ≤ 90 then UInt8.ofNat (b.toNat + 32) else b
def foldB (Y : Bs) : Bs := if vld Y then Y.map low else Y
theorem foldB_len (Y : Bs) : (foldB Y).length = Y.length := by unfold foldB; split <;> simp
theorem ldF_end {Y : Bs} {a : Nat} (h : Y.length ≤ a ∨ 255 ≤ a) : ∀ f, ldF f Y a = (0, false)
  | 0 => rfl
  | f + 1 => by
    unfold ldF
    cases hy : Y[a]? with
    | none => rfl
    | some b =>
      have := (List.getElem?_eq_some_iff.1 hy).1
      simp only
      rw [if_pos (by omega)]
theorem ldF_step {Y : Bs} {a f : Nat} {b : UInt8} (hy : Y[a]? = some b) (ha : a < 255) : ldF (f + 1) Y a = if b.toNat = 0 then (a + 1, true) else if 63 < b.toNat then (0, false) else ldF f Y (a + 1 + b.toNat) := by
  rw [ldF, hy]
  simp only
  rw [if_neg (by omega)]
theorem ldF_le : ∀ (f : Nat) (Y : Bs) (a : Nat), (ldF f Y a).1 ≤ 255
  | 0, _, _ => Nat.zero_le _
  | f + 1, Y, a => by
    unfold ldF
    split
    · split
      · exact Nat.zero_le _
      · split
        · show a + 1 ≤ 255; omega
        · split
          · exact Nat.zero_le _
          · exact ldF_le f Y _
    · exact Nat.zero_le _
theorem vld_len {Y : Bs} (h : vld Y = true) : Y.length ≤ 255 := by
  unfold vld at h
  have h1 := (Bool.and_eq_true _ _ ▸ h).2
  have := ldF_le 256 Y 0
  have e : (lead Y).1 = Y.length := by simpa using h1
  unfold lead at e
  omega
theorem szS (Y : Bs) : (⟨Y.toArray⟩ : ByteArray).size = Y.length := rfl
theorem pSIy {E : Env} {x i : Operand} {Y : Bs} {q : IntKind} {k : Nat} {b : UInt8} (h1 : ev E x = sv Y) (h2 : ev E i = .int q (k : Int)) (h : Y[k]? = some b) : pstep (ev E) (.sidx x i) = some (.int .u8 (b.toNat : Int)) := by
  obtain ⟨hk, rfl⟩ := List.getElem?_eq_some_iff.1 h
  exact pSIx h1 h2 hk
theorem pCvB {E : Env} {x : Operand} {k : IntKind} {b : UInt8} (h : ev E x = .int k (b.toNat : Int)) : pstep (ev E) (.conv .i64 x) = some (.int .i64 (b.toNat : Int)) := by
  simp only [pstep, h]
  have := b.toNat_lt
  rw [wrap_i64 (by omega)]
theorem u8wrap (a : Int) : IntKind.u8.wrap a = a % 256 := by simp [IntKind.wrap, IntKind.signed, IntKind.bits]
theorem pAdd8 {E : Env} {x y : Operand} {a b : Int} (h1 : ev E x = .int .u8 a) (h2 : ev E y = .int .u8 b) : pstep (ev E) (.bin .add x y) = some (.int .u8 ((a + b) % 256)) := by
  simp [pstep, h1, h2, xbin, xint, u8wrap]
theorem pSub8 {E : Env} {x y : Operand} {a b : Int} (h1 : ev E x = .int .u8 a) (h2 : ev E y = .int .u8 b) : pstep (ev E) (.bin .sub x y) = some (.int .u8 ((a - b) % 256)) := by
  simp [pstep, h1, h2, xbin, xint, u8wrap]

set_option maxRecDepth 10000 in
theorem nmLead (Y : Bs) (_hY : Y.length < 2 ^ 62) : Tri Try.prog 67 #[sv Y] [] (fun r S => r = .tuple #[.int .i64 ((lead Y).1 : Int), .bool (lead Y).2] ∧ S = []) := by
  refine Tri.forget (ycallee Try.fx67 (Nat.le_of_ble_eq_true rfl) ?_)
  unfold Try.x67
  refine yseq (yregion (yp pC (yp pC (ynil (tnorm (yseq (yseq (yregion (yp pC (ynil (tnorm (yblock ?_))))))))))))
  refine yloop (σ := Nat) (fun a E S => Has E [(0, sv Y), (4, .int .i64 (a : Int))] ∧ (a ≤ 255 + 64 ∧ ∃ f, lead Y = ldF f Y a ∧ 256 ≤ a + f) ∧ Junk S []) (fun a => 400 - a) 0 ⟨⟨rfl, rfl, trivial⟩, ⟨Nat.zero_le _, 256, rfl, Nat.le_refl _⟩, .of⟩ fun a E S ⟨hE, ⟨ha, f, hl, hf⟩, hJ⟩ => ?_
  have hend : Y.length ≤ a ∨ 255 ≤ a → lead Y = (0, false) := fun h => by rw [hl]; exact ldF_end h f
  obtain ⟨E0, e0⟩ := has_puts hE; subst e0; clear hE
  refine yforget hJ (yseq (yseq (yregion (yp (pI rfl) (yp (pT rfl) (yp (pLenS rfl) (yp (pLt rfl rfl) (yp (pB rfl) ?_))))))))
  rw [szS]
  by_cases h1 : a < Y.length
  · rw [decide_eq_true (show (a : Int) < (Y.length : Int) from by omega)]
    refine ygT rfl (yop (pI rfl) (ygT rfl (yop (pLt rfl rfl) (yp (pPickT rfl rfl) (ynil (tnorm ?_))))))
    by_cases h2 : a < 255
    · rw [decide_eq_true (show (a : Int) < 255 from by omega)]
      have hy : Y[a]? = some Y[a] := List.getElem?_eq_getElem h1
      generalize Y[a] = b at hy
      obtain ⟨f', rfl⟩ : ∃ f', f = f' + 1 := ⟨f - 1, by omega⟩
      rw [ldF_step hy h2] at hl
      have hb := b.toNat_lt
      refine ycondT rfl (yskip (tnorm (yblock (yseq (yregion (yp (pT rfl) (yp (pI rfl) (yp (pSIy rfl rfl hy) (yp (pCvB rfl) (yp (pI rfl) (ynil (tnorm (yseq (yregion (yp (pI rfl) (yp (pInc rfl rfl (by omega)) (yp (pI rfl) (ynil (tnorm (yseq (yseq (yregion (yp (pI rfl) (yp (pEq rfl rfl) (ynil (tnorm ?_))))))))))))))))))))))))))
      refine ycondD rfl (fun h3 => ?_) (fun h3 => ?_)
      · rw [if_pos (by omega)] at hl
        refine yseq (yregion (yp (pI rfl) (yp (pI rfl) (yp pC (ynil (tnorm (yret (tret (bret (tret (bret (tret ?_))))))))))))
        exact yfin (rIB rfl rfl) ⟨_, .of, by rw [hl], rfl⟩
      · rw [if_neg (by omega)] at hl
        refine yskip (tnorm (yseq (yregion (yp (pI rfl) (yp (pI rfl) (yp (pAddN rfl rfl (by omega)) (yp (pI rfl) (ynil (tnorm (yseq (yregion (yp (pI rfl) (yp (pGt rfl rfl) (ynil (tnorm ?_)))))))))))))))
        refine ycondD rfl (fun h4 => ?_) (fun h4 => ?_)
        · rw [if_pos (by omega)] at hl
          refine yexit (bexitN rfl (texit (bexit (tnorm (yseq (yregion (yp pC (yp pC (ynil (tnorm (yret ?_)))))))))))
          exact yfin (rIB rfl rfl) ⟨_, .of, by rw [hl]; rfl, rfl⟩
        · rw [if_neg (by omega)] at hl
          refine yskip (bnorm (tnorm ?_))
          exact ⟨a + 1 + b.toNat, ⟨⟨rfl, rfl, trivial⟩, ⟨by omega, f', hl, by omega⟩, .of⟩, by omega⟩
    · rw [decide_eq_false (show ¬ (a : Int) < 255 from by omega)]
      refine ycondF rfl (yexit (texit (texit (bexit (tnorm (yseq (yregion (yp pC (yp pC (ynil (tnorm (yret ?_))))))))))))
      exact yfin (rIB rfl rfl) ⟨_, .of, by rw [hend (by omega)]; rfl, rfl⟩
  · rw [decide_eq_false (show ¬ (a : Int) < (Y.length : Int) from by omega)]
    refine ygF rfl (ygF rfl (yp (pPickF rfl rfl) (ynil (tnorm (ycondF rfl (yexit (texit (texit (bexit (tnorm (yseq (yregion (yp pC (yp pC (ynil (tnorm (yret ?_)))))))))))))))))
    exact yfin (rIB rfl rfl) ⟨_, .of, by rw [hend (by omega)]; rfl, rfl⟩
theorem nmValid (Y : Bs) (hY : Y.length < 2 ^ 62) : Tri Try.prog 43 #[sv Y] [] (fun r S => r = .bool (vld Y) ∧ S = []) := by
  refine Tri.forget (ycallee Try.fx43 (Nat.le_of_ble_eq_true rfl) ?_)
  unfold Try.x43
  refine yseq (yregion (yp pC (ynil (tnorm (yseq (yregion (yp (pT rfl) ?_)))))))
  refine ycons (ycall (nmLead Y hY) rfl rfl fun r S' h => ?_)
  obtain ⟨rfl, rfl⟩ := h
  unfold vld
  cases hb : (lead Y).2 with
  | false =>
    refine yp (pU rfl) (yp (pExt rfl rfl) (yp (pExt rfl rfl) (yp (pI rfl) (yp (pB rfl) (ynil (tnorm (yseq (yregion (yp (pB rfl) (yp (pB rfl) (ygF rfl (ygF rfl (ygF rfl (ygF rfl (yp (pPickF rfl rfl) (yp (pB rfl) (ynil (tnorm (yret ?_)))))))))))))))))))
    exact yfin (rB rfl) ⟨_, .of, rfl, rfl⟩
  | true =>
    refine yp (pU rfl) (yp (pExt rfl rfl) (yp (pExt rfl rfl) (yp (pI rfl) (yp (pB rfl) (ynil (tnorm (yseq (yregion (yp (pB rfl) (yp (pB rfl) (ygT rfl (yop (pI rfl) (ygT rfl (yop (pT rfl) (ygT rfl (yop (pLenS rfl) (ygT rfl (yop (pEq rfl rfl) (yp (pPickT rfl rfl) (yp (pB rfl) (ynil (tnorm (yret ?_)))))))))))))))))))))))
    rw [szS]
    refine yfin (rB rfl) ⟨_, .of, ?_, rfl⟩
    congr 1
    by_cases h : (lead Y).1 = Y.length
    · rw [decide_eq_true (by omega), h]; simp
    · rw [decide_eq_false (by omega)]; simp [h]

def foldAt (i : Nat) (Y : Bs) : Bs := (Y.take i).map low ++ Y.drop i
theorem foldAt_len {i : Nat} {Y : Bs} (h : i ≤ Y.length) : (foldAt i Y).length = Y.length := by simp [foldAt]; omega
theorem foldAt_get {i : Nat} {Y : Bs} (h : i ≤ Y.length) (j : Nat) : (foldAt i Y)[j]? = if j < i then (Y[j]?).map low else Y[j]? := by
  unfold foldAt
  rw [List.getElem?_append]
  have hl : ((Y.take i).map low).length = i := by simp; omega
  rw [hl]
  split
  · rw [List.getElem?_map, List.getElem?_take, if_pos (by omega)]
  · rw [List.getElem?_drop]; congr 1; omega
theorem foldAt_set {i : Nat} {Y : Bs} (h : i < Y.length) : (foldAt i Y).set i (low Y[i]) = foldAt (i + 1) Y := by
  refine List.ext_getElem? fun j => ?_
  rw [List.getElem?_set, foldAt_get (by omega), foldAt_get (by omega), foldAt_len (by omega)]
  by_cases hj : i = j
  · subst hj
    rw [if_pos rfl, if_pos h, if_pos (by omega), List.getElem?_eq_getElem h]; rfl
  · rw [if_neg hj]
    by_cases h2 : j < i
    · rw [if_pos h2, if_pos (by omega)]
    · rw [if_neg h2, if_neg (by omega)]
theorem foldAt_same {i : Nat} {Y : Bs} (h : i < Y.length) (hl : low Y[i] = Y[i]) : foldAt i Y = foldAt (i + 1) Y := by
  rw [← foldAt_set h]
  refine List.ext_getElem? fun j => ?_
  rw [List.getElem?_set, foldAt_len (by omega)]
  by_cases hj : i = j
  · subst hj
    rw [if_pos rfl, if_pos h, foldAt_get (by omega), if_neg (by omega), hl, List.getElem?_eq_getElem h]
  · rw [if_neg hj]
theorem foldAt_zero (Y : Bs) : foldAt 0 Y = Y := by simp [foldAt]
theorem foldAt_all (Y : Bs) : foldAt Y.length Y = Y.map low := by simp [foldAt]

set_option maxRecDepth 10000 in
theorem nmfold (Y : Bs) (hY : Y.length < 2 ^ 62) : Tri Try.prog 59 #[sv Y] [] (fun r S => r = sv (Y.map low) ∧ S = []) := by
  refine Tri.forget (ycallee Try.fx59 (Nat.le_of_ble_eq_true rfl) ?_)
  unfold Try.x59
  refine yseq (yregion (yp pC (ynil (tnorm (yseq (yregion (yp (pT rfl) ?_)))))))
  refine ycons (ys2b rfl fun v H hL => ?_)
  have hL : Slc 5 v Y H := hL
  obtain ⟨a, c, rfl⟩ := hL.isSlice
  rw [← foldAt_zero Y, foldAt_len (Nat.zero_le _)] at hL
  refine yp (pS rfl) (ynil (tnorm (yseq (yseq (yregion (yp (pS rfl) (yp (pLen rfl) (yp pC (ynil (tnorm (yblock ?_)))))))))))
  refine yloop (σ := Nat) (fun i E S => ∃ H, Has E [(3, .slice a Y.length c), (8, .slice a Y.length c), (9, .int .i64 (Y.length : Int)), (10, .int .i64 (i : Int))] ∧ i ≤ Y.length ∧ Slc 5 (.slice a Y.length c) (foldAt i Y) H ∧ Junk S [H]) (fun i => Y.length - i) 0 ⟨H, ⟨rfl, rfl, rfl, rfl, trivial⟩, Nat.zero_le _, hL, .of⟩ fun i E S ⟨H, hE, hi, hL, hJ⟩ => ?_
  have hfl := foldAt_len hi
  obtain ⟨E0, e0⟩ := has_puts hE; subst e0; clear hE
  refine yforget hJ (yseq (yregion (yp (pLt rfl rfl) (ynil (tnorm (yseq ?_))))))
  refine ycondD rfl (fun h => ?_) (fun h => ?_)
  · have hlt : i < Y.length := by omega
    have hg := foldAt_get hi i
    rw [if_neg (by omega)] at hg
    have hset := foldAt_set hlt
    have hsame := foldAt_same hlt
    have hyi : Y[i]? = some Y[i] := List.getElem?_eq_getElem hlt
    rw [hyi] at hg
    generalize Y[i] = y at hg hset hsame
    have hy := y.toNat_lt
    obtain ⟨b, sp, fz, hz, hae, _, hce, rfl⟩ := hL.at' (by intro h; rw [h] at hfl; simp at hfl; omega)
    subst hae
    rw [hfl] at hce
    have hif : i < (foldAt i Y).length := by omega
    have hld : ((cells (foldAt i Y ++ sp)).toArray.toList)[0 + i * 1 + 0]? = some (.int .u8 (y.toNat : Int)) := (row_cell (kk := 1) (j := 0) hif rfl (by omega)).trans (by rw [List.getElem?_eq_getElem hif] at hg; rw [Option.some.inj hg]; rfl)
    refine yskip (tnorm (yseq (yblock (yseq (yregion (yp (pI rfl) (yp (pIxN rfl rfl (by omega)) ?_)))))))
    refine ycons (yload1 (v := .int .u8 (y.toNat : Int)) rfl hld ?_)
    refine yp (pI rfl) (yp (pI rfl) (ynil (tnorm (yseq (yregion (yp (pI rfl) (yp (pGe rfl rfl) (yp (pB rfl) ?_))))))))
    have hno : low y = y → Slc 5 (.slice (some ⟨b, 0, none⟩) Y.length c) (foldAt (i + 1) Y) [(b, .cells (cells (foldAt i Y ++ sp)).toArray 5 fz)] := fun hl => by rw [← hsame hl]; exact hL
    by_cases h1 : 65 ≤ (y.toNat : Int)
    · rw [decide_eq_true h1]
      refine ygT rfl (yop (pI rfl) (ygT rfl (yop (pLe rfl rfl) (yp (pPickT rfl rfl) (ynil (tnorm ?_))))))
      by_cases h2 : (y.toNat : Int) ≤ 90
      · rw [decide_eq_true h2]
        have hlow : low y = UInt8.ofNat (y.toNat + 32) := by unfold low; rw [if_pos (by omega)]
        have hln : ((low y).toNat : Int) = (((y.toNat : Int) + 97) % 256 - 65) % 256 := by
          rw [hlow]
          have : (UInt8.ofNat (y.toNat + 32)).toNat = (y.toNat + 32) % 256 := by simp
          rw [this]; omega
        refine ycondT rfl (yregion (yp (pS rfl) (yp (pI rfl) (yp (pI rfl) (yp (pAdd8 rfl rfl) ?_)))))
        skip
        refine yp (pSub8 rfl rfl) ?_
        rw [← hln]
        refine yp (pIxN rfl rfl (by omega)) ?_
        refine ycons (ystoreE (M := foldAt i Y ++ sp) (i := i) (y := low y) rfl (by simp; omega) rfl rfl hz ?_)
        have hs2 := Slc.setAt (ty := 5) (b := b) (c := c) (y := low y) hz hif (by omega)
        rw [hset, hfl] at hs2
        refine ynil (bnorm (tnorm (yregion (yp (pInc rfl rfl (by omega)) (yp (pI rfl) (ynil (tnorm ?_)))))))
        exact ⟨i + 1, ⟨_, ⟨rfl, rfl, rfl, rfl, trivial⟩, by omega, hs2, .of⟩, by omega⟩
      · rw [decide_eq_false h2]
        refine ycondF rfl (yskip (bnorm (tnorm (yregion (yp (pInc rfl rfl (by omega)) (yp (pI rfl) (ynil (tnorm ?_))))))))
        exact ⟨i + 1, ⟨_, ⟨rfl, rfl, rfl, rfl, trivial⟩, by omega, hno (by unfold low; rw [if_neg (by omega)]), .of⟩, by omega⟩
    · rw [decide_eq_false h1]
      refine ygF rfl (ygF rfl (yp (pPickF rfl rfl) (ynil (tnorm (ycondF rfl (yskip (bnorm (tnorm (yregion (yp (pInc rfl rfl (by omega)) (yp (pI rfl) (ynil (tnorm ?_)))))))))))))
      exact ⟨i + 1, ⟨_, ⟨rfl, rfl, rfl, rfl, trivial⟩, by omega, hno (by unfold low; rw [if_neg (by omega)]), .of⟩, by omega⟩
  · have hiY : i = Y.length := by omega
    subst hiY
    rw [foldAt_all] at hL
    have hml : (Y.map low).length = Y.length := by simp
    rw [← hml] at hL
    refine yexit (texit (texit (bexit (tnorm (yseq (yregion (yp (pS rfl) ?_)))))))
    refine ycons (yb2s (Y := Y.map low) (by rw [hml]; rfl) (hL.src (by simp)) ?_)
    refine yp (pT rfl) (ynil (tnorm (yret ?_)))
    exact yfin (res1 rfl) ⟨_, .of, rfl, rfl⟩
theorem nmFold (Y : Bs) (hY : Y.length < 2 ^ 62) : Tri Try.prog 35 #[sv Y] [] (fun r S => r = sv (foldB Y) ∧ S = []) := by
  refine Tri.forget (ycallee Try.fx35 (Nat.le_of_ble_eq_true rfl) ?_)
  unfold Try.x35
  refine yseq (yregion (yp pC (ynil (tnorm (yseq (yseq (yregion (yp (pT rfl) ?_))))))))
  refine ycons (ycall (nmValid Y hY) rfl rfl fun r S' h => ?_)
  obtain ⟨rfl, rfl⟩ := h
  unfold foldB
  cases vld Y with
  | false =>
    refine yp (pNot rfl) (ynil (tnorm (ycondT rfl (yseq (yregion (yp (pT rfl) (yp (pT rfl) (ynil (tnorm (yret (tret ?_)))))))))))
    exact yfin (res1 rfl) ⟨_, .of, rfl, rfl⟩
  | true =>
    refine yp (pNot rfl) (ynil (tnorm (ycondF rfl (yskip (tnorm (yseq (yregion (yp (pT rfl) ?_))))))))
    refine ycons (ycall (nmfold Y hY) rfl rfl fun r S' h => ?_)
    obtain ⟨rfl, rfl⟩ := h
    refine yp (pT rfl) (ynil (tnorm (yret ?_)))
    exact yfin (res1 rfl) ⟨_, .of, rfl, rfl⟩

instance : Enc ByteArray := ⟨fun s => [.string s], 1, fun _ => rfl, fun _ => rfl⟩
set_option maxRecDepth 10000 in
theorem rnLabels (Y : Bs) (hY : Y.length < 2 ^ 62) : Tri Try.prog 22 #[sv Y] [] (fun r S => ∃ v L H, r = .tuple #[v, .bool (vld Y)] ∧ Slc 9 v (L : List ByteArray) H ∧ S = [H]) := by
  refine Tri.forget (ycallee Try.fx22 (Nat.le_of_ble_eq_true rfl) ?_)
  unfold Try.x22
  refine yseq (yregion (yp pC (yp pC (ynil (tnorm (yseq (yseq (yregion (yp (pT rfl) (yp (pLenS rfl) (yp (pGt rfl rfl) (ynil (tnorm ?_)))))))))))))
  rw [szS]
  have hno : ∀ {v : Value}, vld Y = false → v = .tuple #[.slice none 0 0, .bool false] → ∀ S, ∃ S'', Junk S S'' ∧ ∃ w L H, v = .tuple #[w, .bool (vld Y)] ∧ Slc 9 w (L : List ByteArray) H ∧ S'' = [H] := fun h hv S => ⟨[[]], ⟨S.flatten, by simp⟩, _, [], [], by rw [h]; exact hv, .nil, rfl⟩
  by_cases h0 : 255 < (Y.length : Int)
  · rw [decide_eq_true h0]
    refine ycondT rfl (yseq (yregion (yp pC (yp pC (ynil (tnorm (yret (tret ?_))))))))
    refine yfin (rSB rfl rfl) (hno ?_ rfl _)
    cases hv : vld Y with
    | false => rfl
    | true => have := vld_len hv; omega
  rw [decide_eq_false h0]
  refine ycondF rfl (yskip (tnorm (yseq (yregion (yp pC (ynil (tnorm (yseq (yregion (yp pC (ynil (tnorm (yseq (yblock ?_))))))))))))))
  refine yloop (σ := Nat) (fun a E S => ∃ (v : Value) (L : List ByteArray) (H : List Chunk), Has E [(0, sv Y), (5, .int .i64 (a : Int))] ∧ E 4 = v ∧ Slc 9 v L H ∧ L.length ≤ a ∧ (a ≤ Y.length ∧ ∃ f, lead Y = ldF f Y a ∧ 256 ≤ a + f) ∧ Junk S [H]) (fun a => Y.length - a) 0 ⟨_, [], [], ⟨rfl, rfl, trivial⟩, rfl, .nil, Nat.le_refl _, ⟨Nat.zero_le _, 256, rfl, Nat.le_refl _⟩, .of⟩ fun a E S ⟨v, L, H, hE, hE4, hL, hLl, ⟨ha, f, hl, hf⟩, hJ⟩ => ?_
  obtain ⟨la, lc, rfl⟩ := hL.isSlice
  have hE2 : Has E [(0, sv Y), (4, .slice la L.length lc), (5, .int .i64 (a : Int))] := ⟨hE.1, hE4, hE.2.1, trivial⟩
  clear hE hE4
  obtain ⟨E0, e0⟩ := has_puts hE2; subst e0; clear hE2
  refine yforget hJ (yseq (yseq (yregion (yp (pI rfl) (yp (pT rfl) (yp (pLenS rfl) (yp (pLt rfl rfl) (ynil (tnorm ?_)))))))))
  rw [szS]
  refine ycondD rfl (fun h1 => ?_) (fun h1 => ?_)
  · have hlt : a < Y.length := by omega
    have hy : Y[a]? = some Y[a] := List.getElem?_eq_getElem hlt
    generalize Y[a] = b at hy
    obtain ⟨f', rfl⟩ : ∃ f', f = f' + 1 := ⟨f - 1, by omega⟩
    rw [ldF_step hy (by omega)] at hl
    have hb := b.toNat_lt
    refine yskip (tnorm (yblock (yseq (yregion (yp (pT rfl) (yp (pI rfl) (yp (pSIy rfl rfl hy) (yp (pCvB rfl) (yp (pI rfl) (ynil (tnorm (yseq (yseq (yregion (yp (pI rfl) (yp (pEq rfl rfl) (ynil (tnorm ?_))))))))))))))))))
    refine ycondD rfl (fun h3 => ?_) (fun h3 => ?_)
    · rw [if_pos (by omega)] at hl
      refine yseq (yregion (yp (pS rfl) (yp (pI rfl) (yp (pT rfl) (yp (pLenS rfl) ?_)))))
      rw [szS]
      refine yp (pDec rfl rfl (by omega)) (yp (pEq rfl rfl) (yp (pS rfl) (yp (pB rfl) (ynil (tnorm (yret (tret (bret (tret (bret (tret ?_)))))))))))
      have hvl : vld Y = decide ((a : Int) = ((Y.length - 1 : Nat) : Int)) := by
        unfold vld
        rw [hl, Bool.true_and]
        by_cases h : a + 1 = Y.length
        · rw [decide_eq_true (by omega)]; simp [h]
        · rw [decide_eq_false (by omega)]; simp [h]
      exact yfin (rSB rfl rfl) ⟨_, .of, _, L, H, by rw [hvl], hL, rfl⟩
    rw [if_neg (by omega)] at hl
    refine yskip (tnorm (yseq (yseq (yregion (yp (pI rfl) (yp (pGt rfl rfl) (yp (pB rfl) ?_)))))))
    have hbad : (63 < b.toNat ∨ Y.length < a + 1 + b.toNat) → vld Y = false := fun h => by
      unfold vld
      rw [hl]
      split
      · rfl
      · rw [ldF_end (by omega)]; rfl
    by_cases h4 : 63 < (b.toNat : Int)
    · rw [decide_eq_true h4]
      refine ygF rfl (ygF rfl (ygF rfl (ygF rfl (ygF rfl (ygF rfl (ygF rfl (yp (pPickT rfl rfl) (ynil (tnorm (ycondT rfl (yseq (yregion (yp pC (yp pC (ynil (tnorm (yret (tret (bret (tret (bret (tret ?_))))))))))))))))))))))
      exact yfin (rSB rfl rfl) (hno (hbad (by omega)) rfl _)
    rw [decide_eq_false h4]
    refine ygT rfl (yop (pI rfl) (ygT rfl (yop (pT rfl) (ygT rfl (yop (pLenS rfl) (ygT rfl (yop (pI rfl) (ygT rfl ?_))))))))
    rw [szS]
    refine yop (pSub rfl rfl (by omega)) (ygT rfl (yop (pSub rfl rfl (by omega)) (ygT rfl (yop (pGt rfl rfl) (yp (pPickF rfl rfl) (ynil (tnorm ?_)))))))
    by_cases h5 : (Y.length : Int) - (a : Int) - 1 < (b.toNat : Int)
    · rw [decide_eq_true h5]
      refine ycondT rfl (yseq (yregion (yp pC (yp pC (ynil (tnorm (yret (tret (bret (tret (bret (tret ?_))))))))))))
      exact yfin (rSB rfl rfl) (hno (hbad (by omega)) rfl _)
    rw [decide_eq_false h5]
    rw [if_neg (by omega)] at hl
    refine ycondF rfl (yskip (tnorm (yseq (yregion (yp (pS rfl) (yp (pT rfl) (yp (pI rfl) (yp (pInc rfl rfl (by omega)) (yp (pI rfl) (yp (pInc rfl rfl (by omega)) (yp (pI rfl) (yp (pAddN rfl rfl (by omega)) (yp (pSsFT (j := a + 1) (k := a + 1 + b.toNat) rfl rfl rfl ⟨by omega, by rw [szS]; omega⟩) ?_)))))))))))))
    refine ycons (ybsl1 ((⟨Y.toArray⟩ : ByteArray).extract (a + 1) (a + 1 + b.toNat)) rfl rfl (by decide) (by decide) rfl fun p46 => ?_)
    refine ycons (yapp (Y := [(⟨Y.toArray⟩ : ByteArray).extract (a + 1) (a + 1 + b.toNat)]) rfl rfl hL (.lit (by repeat (first | exact List.mem_cons_self | apply List.mem_cons_of_mem)) rfl) rfl (⟨#[]⟩ : ByteArray) rfl (by simp; omega) (by simp; omega) fun v2 H2 hL2 => ?_)
    have hl2 : (L ++ [(⟨Y.toArray⟩ : ByteArray).extract (a + 1) (a + 1 + b.toNat)]).length = L.length + 1 := by simp
    generalize L ++ [(⟨Y.toArray⟩ : ByteArray).extract (a + 1) (a + 1 + b.toNat)] = L2 at hL2 hl2
    obtain ⟨a2, c2, rfl⟩ := hL2.isSlice
    refine yp (pS rfl) (ynil (tnorm (yregion (yp (pI rfl) (yp (pInc rfl rfl (by omega)) (yp (pI rfl) (yp (pAddN rfl rfl (by omega)) (yp (pI rfl) (ynil (bnorm (tnorm ?_)))))))))))
    have hle : a + 1 + b.toNat ≤ Y.length := by omega
    exact ⟨a + 1 + b.toNat, ⟨_, L2, H2, ⟨rfl, rfl, trivial⟩, rfl, hL2, by omega, ⟨hle, f', hl, by omega⟩, .of⟩, by omega⟩
  · refine yexit (texit (texit (bexit (tnorm (yseq (yregion (yp pC (yp pC (ynil (tnorm (yret ?_)))))))))))
    refine yfin (rSB rfl rfl) (hno ?_ rfl _)
    unfold vld
    rw [hl, ldF_end (by omega)]; rfl
theorem rnValid (Y : Bs) (hY : Y.length < 2 ^ 62) : Tri Try.prog 6 #[sv Y] [] (fun r S => r = .bool (vld Y) ∧ S = []) := by
  refine Tri.forget (ycallee Try.fx6 (Nat.le_of_ble_eq_true rfl) ?_)
  unfold Try.x6
  refine yseq (yregion (yp pC (ynil (tnorm (yseq (yregion (yp (pT rfl) ?_)))))))
  refine ycons (ycall (rnLabels Y hY) rfl rfl fun r S' h => ?_)
  obtain ⟨v, L, H, rfl, hL, rfl⟩ := h
  obtain ⟨a, c, rfl⟩ := hL.isSlice
  refine yp (pU rfl) (yp (pExt rfl rfl) (yp (pExt rfl rfl) (yp (pS rfl) (yp (pB rfl) (ynil (tnorm (yseq (yregion (yp (pB rfl) (yp (pB rfl) (ynil (tnorm (yret ?_)))))))))))))
  exact yfin (rB rfl) ⟨_, .of, rfl, rfl⟩
set_option maxRecDepth 10000 in
theorem rnFold (Y : Bs) (hY : Y.length < 2 ^ 62) : Tri Try.prog 41 #[sv Y] [] (fun r S => r = sv (foldB Y) ∧ S = []) := by
  refine Tri.forget (ycallee Try.fx41 (Nat.le_of_ble_eq_true rfl) ?_)
  unfold Try.x41
  refine yseq (yregion (yp pC (ynil (tnorm (yseq (yseq (yregion (yp (pT rfl) ?_))))))))
  refine ycons (ycall (rnValid Y hY) rfl rfl fun r S' h => ?_)
  obtain ⟨rfl, rfl⟩ := h
  unfold foldB
  cases vld Y with
  | false =>
    refine yp (pNot rfl) (ynil (tnorm (ycondT rfl (yseq (yregion (yp (pT rfl) (yp (pT rfl) (ynil (tnorm (yret (tret ?_)))))))))))
    exact yfin (res1 rfl) ⟨_, .of, rfl, rfl⟩
  | true =>
  refine yp (pNot rfl) (ynil (tnorm (ycondF rfl (yskip (tnorm (yseq (yregion (yp (pT rfl) ?_))))))))
  refine ycons (ys2b rfl fun v H hL => ?_)
  have hL : Slc 5 v Y H := hL
  obtain ⟨a, c, rfl⟩ := hL.isSlice
  rw [← foldAt_zero Y, foldAt_len (Nat.zero_le _)] at hL
  refine yp (pS rfl) (ynil (tnorm (yseq (yseq (yregion (yp pC (ynil (tnorm (yblock ?_)))))))))
  refine yloop (σ := Nat) (fun i E S => ∃ H, Has E [(3, .slice a Y.length c), (4, .int .i64 (i : Int))] ∧ i ≤ Y.length ∧ Slc 5 (.slice a Y.length c) (foldAt i Y) H ∧ Junk S [H]) (fun i => Y.length - i) 0 ⟨H, ⟨rfl, rfl, trivial⟩, Nat.zero_le _, hL, .of⟩ fun i E S ⟨H, hE, hi, hL, hJ⟩ => ?_
  have hfl := foldAt_len hi
  obtain ⟨E0, e0⟩ := has_puts hE; subst e0; clear hE
  refine yforget hJ (yseq (yseq (yregion (yp (pI rfl) (yp (pS rfl) (yp (pLen rfl) (yp (pLt rfl rfl) (ynil (tnorm ?_)))))))))
  refine ycondD rfl (fun h => ?_) (fun h => ?_)
  · have hlt : i < Y.length := by omega
    have hg := foldAt_get hi i
    rw [if_neg (by omega)] at hg
    have hset := foldAt_set hlt
    have hsame := foldAt_same hlt
    have hyi : Y[i]? = some Y[i] := List.getElem?_eq_getElem hlt
    rw [hyi] at hg
    generalize Y[i] = y at hg hset hsame
    have hy := y.toNat_lt
    obtain ⟨b, sp, fz, hz, hae, _, hce, rfl⟩ := hL.at' (by intro h; rw [h] at hfl; simp at hfl; omega)
    subst hae
    rw [hfl] at hce
    have hif : i < (foldAt i Y).length := by omega
    have hld : ((cells (foldAt i Y ++ sp)).toArray.toList)[0 + i * 1 + 0]? = some (.int .u8 (y.toNat : Int)) := (row_cell (kk := 1) (j := 0) hif rfl (by omega)).trans (by rw [List.getElem?_eq_getElem hif] at hg; rw [Option.some.inj hg]; rfl)
    have hno : low y = y → Slc 5 (.slice (some ⟨b, 0, none⟩) Y.length c) (foldAt (i + 1) Y) [(b, .cells (cells (foldAt i Y ++ sp)).toArray 5 fz)] := fun hl => by rw [← hsame hl]; exact hL
    refine yskip (tnorm (yseq (yblock (yseq (yregion (yp (pS rfl) (yp (pI rfl) (yp (pIxN rfl rfl (by omega)) ?_))))))))
    refine ycons (yload1 (v := .int .u8 (y.toNat : Int)) rfl hld ?_)
    refine yp (pGe rfl rfl) (yp (pB rfl) ?_)
    by_cases h1 : 65 ≤ (y.toNat : Int)
    · rw [decide_eq_true h1]
      refine ygT rfl (yop (pS rfl) (ygT rfl (yop (pI rfl) (ygT rfl (yop (pIxN rfl rfl (by omega)) (ygT rfl (yload1 (v := .int .u8 (y.toNat : Int)) rfl hld (ygT rfl (yop (pLe rfl rfl) (yp (pPickT rfl rfl) (ynil (tnorm ?_))))))))))))
      by_cases h2 : (y.toNat : Int) ≤ 90
      · rw [decide_eq_true h2]
        have hlow : low y = UInt8.ofNat (y.toNat + 32) := by unfold low; rw [if_pos (by omega)]
        have hln : ((low y).toNat : Int) = ((y.toNat : Int) + 32) % 256 := by
          rw [hlow]
          have : (UInt8.ofNat (y.toNat + 32)).toNat = (y.toNat + 32) % 256 := by simp
          rw [this]; omega
        refine ycondT rfl (yregion (yp (pS rfl) (yp (pI rfl) (yp (pS rfl) (yp (pI rfl) (yp (pIxN rfl rfl (by omega)) ?_))))))
        refine ycons (yload1 (v := .int .u8 (y.toNat : Int)) rfl hld ?_)
        refine yp (pAdd8 rfl rfl) ?_
        rw [← hln]
        refine yp (pIxN rfl rfl (by omega)) ?_
        refine ycons (ystoreE (M := foldAt i Y ++ sp) (i := i) (y := low y) rfl (by simp; omega) rfl rfl hz ?_)
        have hs2 := Slc.setAt (ty := 5) (b := b) (c := c) (y := low y) hz hif (by omega)
        rw [hset, hfl] at hs2
        refine ynil (bnorm (tnorm (yregion (yp (pI rfl) (yp (pInc rfl rfl (by omega)) (yp (pI rfl) (ynil (tnorm ?_))))))))
        exact ⟨i + 1, ⟨_, ⟨rfl, rfl, trivial⟩, by omega, hs2, .of⟩, by omega⟩
      · rw [decide_eq_false h2]
        refine ycondF rfl (yskip (bnorm (tnorm (yregion (yp (pI rfl) (yp (pInc rfl rfl (by omega)) (yp (pI rfl) (ynil (tnorm ?_)))))))))
        exact ⟨i + 1, ⟨_, ⟨rfl, rfl, trivial⟩, by omega, hno (by unfold low; rw [if_neg (by omega)]), .of⟩, by omega⟩
    · rw [decide_eq_false h1]
      refine ygF rfl (ygF rfl (ygF rfl (ygF rfl (ygF rfl (yp (pPickF rfl rfl) (ynil (tnorm (ycondF rfl (yskip (bnorm (tnorm (yregion (yp (pI rfl) (yp (pInc rfl rfl (by omega)) (yp (pI rfl) (ynil (tnorm ?_)))))))))))))))))
      exact ⟨i + 1, ⟨_, ⟨rfl, rfl, trivial⟩, by omega, hno (by unfold low; rw [if_neg (by omega)]), .of⟩, by omega⟩
  · have hiY : i = Y.length := by omega
    subst hiY
    rw [foldAt_all] at hL
    have hml : (Y.map low).length = Y.length := by simp
    rw [← hml] at hL
    refine yexit (texit (texit (bexit (tnorm (yseq (yregion (yp (pS rfl) ?_)))))))
    refine ycons (yb2s (Y := Y.map low) (by rw [hml]; rfl) (hL.src (by simp)) ?_)
    refine yp (pT rfl) (ynil (tnorm (yret ?_)))
    exact yfin (res1 rfl) ⟨_, .of, rfl, rfl⟩
end Go.Proofs.Ytejmbmenbailmaa
namespace Go.Proofs.Ytejmbmenbailmaa
open Go.Xs
open Enc (enc)

structure Nm where
  id : Int
  n : Bs
  u : Nat
instance : Enc Nm := ⟨fun x => [.int .i64 x.id, sv x.n, .int .i64 (x.u : Int)], 3, fun _ => rfl, fun _ => rfl⟩
/-- where one is: by its letters, by its number -/
def nixN (n : Bs) : List Nm → Option Nat
  | [] => none
  | x :: l => if x.n = n then some 0 else (nixN n l).map (· + 1)
def nixI (i : Int) : List Nm → Option Nat
  | [] => none
  | x :: l => if x.id = i then some 0 else (nixI i l).map (· + 1)
theorem nixN_at {n : Bs} : ∀ {L : List Nm} {j : Nat}, nixN n L = some j → ∃ e, L[j]? = some e ∧ e.n = n
  | [], _, h => by cases h
  | x :: l, j, h => by
    unfold nixN at h
    split at h
    · next hx => obtain rfl := Option.some.inj h; exact ⟨x, rfl, hx⟩
    · cases hl : nixN n l with
      | none => rw [hl] at h; cases h
      | some k =>
        rw [hl] at h
        obtain rfl : k + 1 = j := Option.some.inj h
        obtain ⟨e, h1, h2⟩ := nixN_at hl
        exact ⟨e, by simpa using h1, h2⟩
theorem nixI_at {i : Int} : ∀ {L : List Nm} {j : Nat}, nixI i L = some j → ∃ e, L[j]? = some e ∧ e.id = i
  | [], _, h => by cases h
  | x :: l, j, h => by
    unfold nixI at h
    split at h
    · next hx => obtain rfl := Option.some.inj h; exact ⟨x, rfl, hx⟩
    · cases hl : nixI i l with
      | none => rw [hl] at h; cases h
      | some k =>
        rw [hl] at h
        obtain rfl : k + 1 = j := Option.some.inj h
        obtain ⟨e, h1, h2⟩ := nixI_at hl
        exact ⟨e, by simpa using h1, h2⟩
theorem nixN_none {n : Bs} : ∀ {L : List Nm}, nixN n L = none → ∀ e ∈ L, e.n ≠ n
  | x :: l, h, e, he => by
    unfold nixN at h
    split at h
    · cases h
    · next hx =>
      have hl : nixN n l = none := by
        cases hl : nixN n l with
        | none => rfl
        | some k => rw [hl] at h; cases h
      rcases List.mem_cons.1 he with rfl | he
      · exact hx
      · exact nixN_none hl e he
theorem nixI_none {i : Int} : ∀ {L : List Nm}, nixI i L = none → ∀ e ∈ L, e.id ≠ i
  | x :: l, h, e, he => by
    unfold nixI at h
    split at h
    · cases h
    · next hx =>
      have hl : nixI i l = none := by
        cases hl : nixI i l with
        | none => rfl
        | some k => rw [hl] at h; cases h
      rcases List.mem_cons.1 he with rfl | he
      · exact hx
      · exact nixI_none hl e he
/-- what the two maps have -/
def idOf (L : List Nm) : ByteArray → Option Int := fun s => (nixN s.data.toList L).bind fun j => (L[j]?).map (·.id)
def allOf (L : List Nm) : Int → Option Bool := fun i => (nixI i L).map fun _ => true
/-- nobody twice -/
structure Dis (L : List Nm) : Prop where
  ids : (L.map (·.id)).Nodup
  ns : (L.map (·.n)).Nodup
theorem nixN_of {L : List Nm} (h : (L.map (·.n)).Nodup) {j : Nat} {e : Nm} (he : L[j]? = some e) : nixN e.n L = some j := by
  cases hx : nixN e.n L with
  | none => exact absurd rfl (nixN_none hx e (List.mem_of_getElem? he))
  | some k =>
    obtain ⟨e', h1, h2⟩ := nixN_at hx
    have h3 : (L.map (·.n))[k]? = some e.n := by rw [List.getElem?_map, h1, Option.map_some, h2]
    have h4 : (L.map (·.n))[j]? = some e.n := by rw [List.getElem?_map, he, Option.map_some]
    rw [(List.getElem?_inj (List.getElem?_eq_some_iff.1 h3).1 h).1 (h3.trans h4.symm)]
theorem nixI_of {L : List Nm} (h : (L.map (·.id)).Nodup) {j : Nat} {e : Nm} (he : L[j]? = some e) : nixI e.id L = some j := by
  cases hx : nixI e.id L with
  | none => exact absurd rfl (nixI_none hx e (List.mem_of_getElem? he))
  | some k =>
    obtain ⟨e', h1, h2⟩ := nixI_at hx
    have h3 : (L.map (·.id))[k]? = some e.id := by rw [List.getElem?_map, h1, Option.map_some, h2]
    have h4 : (L.map (·.id))[j]? = some e.id := by rw [List.getElem?_map, he, Option.map_some]
    rw [(List.getElem?_inj (List.getElem?_eq_some_iff.1 h3).1 h).1 (h3.trans h4.symm)]
/-- the maps by their elements alone -/
theorem idOf_iff {L : List Nm} (h : Dis L) {s : ByteArray} {i : Int} : idOf L s = some i ↔ ∃ e ∈ L, e.n = s.data.toList ∧ e.id = i := by
  unfold idOf
  constructor
  · intro hx
    cases hn : nixN s.data.toList L with
    | none => rw [hn] at hx; cases hx
    | some j =>
      obtain ⟨e, h1, h2⟩ := nixN_at hn
      rw [hn] at hx
      simp only [Option.bind_some, h1, Option.map_some] at hx
      exact ⟨e, List.mem_of_getElem? h1, h2, Option.some.inj hx⟩
  · rintro ⟨e, he, h1, rfl⟩
    obtain ⟨j, hj⟩ := List.mem_iff_getElem?.1 he
    rw [← h1, nixN_of h.ns hj]
    simp [hj]
theorem allOf_iff {L : List Nm} {i : Int} {b : Bool} : allOf L i = some b ↔ b = true ∧ ∃ e ∈ L, e.id = i := by
  unfold allOf
  cases hn : nixI i L with
  | none =>
    have := nixI_none hn
    constructor
    · intro h; cases h
    · rintro ⟨_, e, he, h⟩; exact absurd h (this e he)
  | some j =>
    obtain ⟨e, h1, h2⟩ := nixI_at hn
    constructor
    · intro h; exact ⟨(Option.some.inj h).symm, e, List.mem_of_getElem? h1, h2⟩
    · rintro ⟨rfl, _⟩; rfl
theorem fun_opt {κ ν : Type} {f g : κ → Option ν} (h : ∀ k v, f k = some v ↔ g k = some v) : f = g := by
  funext k
  cases hf : f k with
  | some v => exact ((h k v).1 hf).symm
  | none =>
    cases hg : g k with
    | none => rfl
    | some v => rw [(h k v).2 hg] at hf; cases hf
theorem bs_eta (s : ByteArray) (n : Bs) : s = ⟨n.toArray⟩ ↔ s.data.toList = n := by
  constructor
  · rintro rfl; rfl
  · rintro rfl; rfl
theorem Dis.add {L : List Nm} (h : Dis L) {e : Nm} (hi : ∀ x ∈ L, x.id ≠ e.id) (hn : ∀ x ∈ L, x.n ≠ e.n) : Dis (L ++ [e]) := by
  constructor
  · rw [List.map_append]
    refine List.nodup_append.2 ⟨h.ids, by simp, fun a ha b hb => ?_⟩
    obtain ⟨x, hx, rfl⟩ := List.mem_map.1 ha
    simp at hb; rw [hb]; exact hi x hx
  · rw [List.map_append]
    refine List.nodup_append.2 ⟨h.ns, by simp, fun a ha b hb => ?_⟩
    obtain ⟨x, hx, rfl⟩ := List.mem_map.1 ha
    simp at hb; rw [hb]; exact hn x hx
theorem idOf_add {L : List Nm} (h : Dis L) {e : Nm} (hi : ∀ x ∈ L, x.id ≠ e.id) (hn : ∀ x ∈ L, x.n ≠ e.n) : idOf (L ++ [e]) = mset (idOf L) (⟨e.n.toArray⟩ : ByteArray) (some e.id) := by
  refine fun_opt fun s i => ?_
  rw [idOf_iff (h.add hi hn)]
  unfold mset
  by_cases hs : s = ⟨e.n.toArray⟩
  · rw [if_pos hs]
    have hs2 := (bs_eta s e.n).1 hs
    constructor
    · rintro ⟨x, hx, h1, rfl⟩
      rcases List.mem_append.1 hx with hx | hx
      · exact absurd (h1.trans hs2) (hn x hx)
      · rw [List.mem_singleton.1 hx]
    · intro h1
      exact ⟨e, by simp, hs2.symm, Option.some.inj h1⟩
  · rw [if_neg hs, idOf_iff h]
    constructor
    · rintro ⟨x, hx, h1, rfl⟩
      rcases List.mem_append.1 hx with hx | hx
      · exact ⟨x, hx, h1, rfl⟩
      · rw [List.mem_singleton.1 hx] at h1; exact absurd ((bs_eta s e.n).2 h1.symm) hs
    · rintro ⟨x, hx, h1, rfl⟩
      exact ⟨x, List.mem_append.2 (.inl hx), h1, rfl⟩
theorem allOf_add {L : List Nm} {e : Nm} : allOf (L ++ [e]) = mset (allOf L) e.id (some true) := by
  refine fun_opt fun i b => ?_
  rw [allOf_iff]
  unfold mset
  by_cases hs : i = e.id
  · rw [if_pos hs]
    constructor
    · rintro ⟨rfl, _⟩; rfl
    · intro h1; exact ⟨(Option.some.inj h1).symm, e, by simp, hs.symm⟩
  · rw [if_neg hs, allOf_iff]
    constructor
    · rintro ⟨rfl, x, hx, h1⟩
      rcases List.mem_append.1 hx with hx | hx
      · exact ⟨rfl, x, hx, h1⟩
      · rw [List.mem_singleton.1 hx] at h1; exact absurd h1.symm hs
    · rintro ⟨rfl, x, hx, h1⟩
      exact ⟨rfl, x, List.mem_append.2 (.inl hx), h1⟩
/-- a name is used so often -/
def reuse (L : List Nm) (j : Nat) (e : Nm) (u : Nat) : List Nm := L.set j ⟨e.id, e.n, u⟩
theorem reuse_ids {L : List Nm} {j : Nat} {e : Nm} {u : Nat} (he : L[j]? = some e) : (reuse L j e u).map (·.id) = L.map (·.id) := by
  refine List.ext_getElem? fun i => ?_
  unfold reuse
  rw [List.getElem?_map, List.getElem?_map, List.getElem?_set]
  split
  · next h => subst h; rw [if_pos (List.getElem?_eq_some_iff.1 he).1, he]; rfl
  · rfl
theorem reuse_ns {L : List Nm} {j : Nat} {e : Nm} {u : Nat} (he : L[j]? = some e) : (reuse L j e u).map (·.n) = L.map (·.n) := by
  refine List.ext_getElem? fun i => ?_
  unfold reuse
  rw [List.getElem?_map, List.getElem?_map, List.getElem?_set]
  split
  · next h => subst h; rw [if_pos (List.getElem?_eq_some_iff.1 he).1, he]; rfl
  · rfl
theorem mem_reuse {L : List Nm} {j : Nat} {e x : Nm} {u : Nat} (he : L[j]? = some e) (hx : x ∈ reuse L j e u) : ∃ y ∈ L, y.id = x.id ∧ y.n = x.n := by
  unfold reuse at hx
  rcases List.mem_or_eq_of_mem_set hx with hx | rfl
  · exact ⟨x, hx, rfl, rfl⟩
  · exact ⟨e, List.mem_of_getElem? he, rfl, rfl⟩
theorem reuse_mem {L : List Nm} {j : Nat} {e y : Nm} {u : Nat} (he : L[j]? = some e) (hy : y ∈ L) : ∃ x ∈ reuse L j e u, x.id = y.id ∧ x.n = y.n := by
  obtain ⟨i, hi⟩ := List.mem_iff_getElem?.1 hy
  by_cases hij : j = i
  · subst hij
    rw [he] at hi
    obtain rfl := Option.some.inj hi
    exact ⟨⟨e.id, e.n, u⟩, List.mem_of_getElem? (i := j) (by unfold reuse; rw [List.getElem?_set_self (List.getElem?_eq_some_iff.1 he).1]), rfl, rfl⟩
  · exact ⟨y, List.mem_of_getElem? (i := i) (by unfold reuse; rw [List.getElem?_set_ne hij]; exact hi), rfl, rfl⟩
theorem Dis.reuse {L : List Nm} (h : Dis L) {j : Nat} {e : Nm} {u : Nat} (he : L[j]? = some e) : Dis (reuse L j e u) := ⟨by rw [reuse_ids he]; exact h.ids, by rw [reuse_ns he]; exact h.ns⟩
theorem idOf_reuse {L : List Nm} (h : Dis L) {j : Nat} {e : Nm} {u : Nat} (he : L[j]? = some e) : idOf (reuse L j e u) = idOf L := by
  refine fun_opt fun s i => ?_
  rw [idOf_iff (h.reuse he), idOf_iff h]
  constructor
  · rintro ⟨x, hx, h1, h2⟩
    obtain ⟨y, hy, h3, h4⟩ := mem_reuse he hx
    exact ⟨y, hy, h4.trans h1, h3.trans h2⟩
  · rintro ⟨y, hy, h1, h2⟩
    obtain ⟨x, hx, h3, h4⟩ := reuse_mem (u := u) he hy
    exact ⟨x, hx, h4.trans h1, h3.trans h2⟩
theorem allOf_reuse {L : List Nm} {j : Nat} {e : Nm} {u : Nat} (he : L[j]? = some e) : allOf (reuse L j e u) = allOf L := by
  refine fun_opt fun i b => ?_
  rw [allOf_iff, allOf_iff]
  constructor
  · rintro ⟨h0, x, hx, h2⟩
    obtain ⟨y, hy, h3, h4⟩ := mem_reuse he hx
    exact ⟨h0, y, hy, h3.trans h2⟩
  · rintro ⟨h0, y, hy, h2⟩
    obtain ⟨x, hx, h3, h4⟩ := reuse_mem (u := u) he hy
    exact ⟨h0, x, hx, h3.trans h2⟩
theorem erase_mem {L : List Nm} (h : Dis L) {j : Nat} {e x : Nm} (he : L[j]? = some e) (hx : x ∈ L.eraseIdx j) : x ∈ L ∧ x.id ≠ e.id ∧ x.n ≠ e.n := by
  obtain ⟨i, hi⟩ := List.mem_iff_getElem?.1 hx
  rw [List.getElem?_eraseIdx] at hi
  have key : ∀ k, L[k]? = some x → k ≠ j → x ∈ L ∧ x.id ≠ e.id ∧ x.n ≠ e.n := fun k hk hne => by
    refine ⟨List.mem_of_getElem? hk, fun h1 => hne ?_, fun h1 => hne ?_⟩
    · have h3 : (L.map (·.id))[k]? = some e.id := by rw [List.getElem?_map, hk, Option.map_some, h1]
      have h4 : (L.map (·.id))[j]? = some e.id := by rw [List.getElem?_map, he, Option.map_some]
      exact (List.getElem?_inj (List.getElem?_eq_some_iff.1 h3).1 h.ids).1 (h3.trans h4.symm)
    · have h3 : (L.map (·.n))[k]? = some e.n := by rw [List.getElem?_map, hk, Option.map_some, h1]
      have h4 : (L.map (·.n))[j]? = some e.n := by rw [List.getElem?_map, he, Option.map_some]
      exact (List.getElem?_inj (List.getElem?_eq_some_iff.1 h3).1 h.ns).1 (h3.trans h4.symm)
  split at hi
  · exact key i hi (by omega)
  · exact key (i + 1) hi (by omega)
theorem mem_erase {L : List Nm} {j : Nat} {e x : Nm} (he : L[j]? = some e) (hx : x ∈ L) (hne : x.id ≠ e.id ∨ x.n ≠ e.n) : x ∈ L.eraseIdx j := by
  obtain ⟨i, hi⟩ := List.mem_iff_getElem?.1 hx
  have hij : i ≠ j := fun e2 => by rw [e2, he] at hi; obtain rfl := Option.some.inj hi; simp at hne
  refine List.mem_of_getElem? (i := if i < j then i else i - 1) ?_
  rw [List.getElem?_eraseIdx]
  by_cases h7 : i < j
  · rw [if_pos h7, if_pos h7]; exact hi
  · rw [if_neg h7, if_neg (by omega), show i - 1 + 1 = i from by omega]; exact hi
theorem Dis.erase {L : List Nm} (h : Dis L) (j : Nat) : Dis (L.eraseIdx j) := ⟨((List.eraseIdx_sublist L j).map _).nodup h.ids, ((List.eraseIdx_sublist L j).map _).nodup h.ns⟩
theorem idOf_erase {L : List Nm} (h : Dis L) {j : Nat} {e : Nm} (he : L[j]? = some e) : idOf (L.eraseIdx j) = mset (idOf L) (⟨e.n.toArray⟩ : ByteArray) none := by
  refine fun_opt fun s i => ?_
  rw [idOf_iff (h.erase j)]
  unfold mset
  by_cases hs : s = ⟨e.n.toArray⟩
  · rw [if_pos hs]
    have hs2 := (bs_eta s e.n).1 hs
    constructor
    · rintro ⟨x, hx, h1, _⟩
      exact absurd (h1.trans hs2) (erase_mem h he hx).2.2
    · intro h1; cases h1
  · rw [if_neg hs, idOf_iff h]
    constructor
    · rintro ⟨x, hx, h1, h2⟩
      exact ⟨x, (erase_mem h he hx).1, h1, h2⟩
    · rintro ⟨x, hx, h1, h2⟩
      exact ⟨x, mem_erase he hx (.inr fun h3 => hs ((bs_eta s e.n).2 (h1.symm.trans h3))), h1, h2⟩
theorem allOf_erase {L : List Nm} (h : Dis L) {j : Nat} {e : Nm} (he : L[j]? = some e) : allOf (L.eraseIdx j) = mset (allOf L) e.id none := by
  refine fun_opt fun i b => ?_
  rw [allOf_iff]
  unfold mset
  by_cases hs : i = e.id
  · rw [if_pos hs]
    constructor
    · rintro ⟨_, x, hx, h1⟩
      exact absurd (h1.trans hs) (erase_mem h he hx).2.1
    · intro h1; cases h1
  · rw [if_neg hs, allOf_iff]
    constructor
    · rintro ⟨h0, x, hx, h1⟩
      exact ⟨h0, x, (erase_mem h he hx).1, h1⟩
    · rintro ⟨h0, x, hx, h1⟩
      exact ⟨h0, x, mem_erase he hx (.inl fun h3 => hs (h1.symm.trans h3)), h1⟩
/-- how often, in eight bytes -/
def le8 (n : Nat) : Bs := (List.range 8).map fun i => UInt8.ofNat (n / 2 ^ (8 * i))
theorem le8_len (n : Nat) : (le8 n).length = 8 := by simp [le8]
theorem le8_get (n i : Nat) (h : i < 8) : (le8 n)[i]? = some (UInt8.ofNat (n / 2 ^ (8 * i))) := by
  unfold le8
  rw [List.getElem?_map, List.getElem?_range h]; rfl
end Go.Proofs.Ytejmbmenbailmaa
