/- Names (chapter 1): what is a name, and with small letters; the program's, and the document's. The table of names (chapter 7), plainly: names by number and by letters, how often a name is used in eight bytes, arenas of like blocks. -/
import Derived.Test.YtejmbmenbailmaaGreatB3
import Derived.Test.YtejmbmenbailmaaGreatFNames
import Derived.Test.YtejmbmenbailmaaGreatA2
namespace Go.Proofs.YtejmbmenbailmaaGreat
open Go.Xs
open Enc (enc)
abbrev Bs := List UInt8
/-- a text -/
abbrev sv (Y : Bs) : Value := .string ⟨Y.toArray⟩
def Xe : Nat → Bs → Nat → Nat × Bool
 | 0, _, _ => (0, false)
 | f + 1, Y, a => match Y[a]? with
  | some b => if 255 ≤ a then (0, false) else if b.toNat = 0 then (a + 1, true) else if 63 < b.toNat then (0, false) else Xe f Y (a + 1 + b.toNat)
  | none => (0, false)
def lead (Y : Bs) : Nat × Bool := Xe 256 Y 0
def vG (Y : Bs) : Bool := (lead Y).2 && (lead Y).1 == Y.length
def low (b : UInt8) : UInt8 := if 65 ≤ b.toNat ∧ b.toNat ≤ 90 then UInt8.ofNat (b.toNat + 32) else b
def zx (Y : Bs) : Bs := if vG Y then Y.map low else Y
theorem wS (Y : Bs) : (zx Y).length = Y.length := by unfold zx; split <;> simp
theorem lN {Y : Bs} {a : Nat} (h : Y.length ≤ a ∨ 255 ≤ a) : ∀ f, Xe f Y a = (0, false)
 | 0 => rfl
 | f + 1 => by
  unfold Xe;cases hy : Y[a]? with
  | none => rfl
  | some b =>
   have := (List.getElem?_eq_some_iff.1 hy).1;simp only;rw [if_pos (by omega)]
theorem eF {Y : Bs} {a f : Nat} {b : UInt8} (hy : Y[a]? = some b) (ha : a < 255) : Xe (f + 1) Y a = if b.toNat = 0 then (a + 1, true) else if 63 < b.toNat then (0, false) else Xe f Y (a + 1 + b.toNat) := by
 rw [Xe, hy];simp only;rw [if_neg (by omega)]
theorem Jz : ∀ (f : Nat) (Y : Bs) (a : Nat), (Xe f Y a).1 ≤ 255
 | 0, _, _ => Nat.zero_le _
 | f + 1, Y, a => by
  unfold Xe;split
  ·split
   ·exact Nat.zero_le _
   ·split
    ·show a + 1 ≤ 255; omega
    ·split
     ·exact Nat.zero_le _
     ·exact Jz f Y _
  ·exact Nat.zero_le _
theorem Wt {Y : Bs} (h : vG Y = true) : Y.length ≤ 255 := by
 unfold vG at h;have h1 := (Bool.and_eq_true _ _ ▸ h).2;have := Jz 256 Y 0;have e : (lead Y).1 = Y.length := by simpa using h1
 unfold lead at e;omega
theorem qz (Y : Bs) : (⟨Y.toArray⟩ : ByteArray).size = Y.length := rfl
theorem Bn {E : Env} {x i : Operand} {Y : Bs} {q : IntKind} {k : Nat} {b : UInt8} (h1 : ev E x = sv Y) (h2 : ev E i = .int q (k : Int)) (h : Y[k]? = some b) : zl (ev E) (.sidx x i) = some (.int .u8 (b.toNat : Int)) := by
 obtain ⟨hk, rfl⟩ := List.getElem?_eq_some_iff.1 h;exact Bo h1 h2 hk
theorem l9 {E : Env} {x : Operand} {k : IntKind} {b : UInt8} (h : ev E x = .int k (b.toNat : Int)) : zl (ev E) (.conv .i64 x) = some (.int .i64 (b.toNat : Int)) := by
 simp only [zl, h];have := b.toNat_lt;rw [wrap_i64 (by omega)]
theorem XI (a : Int) : IntKind.u8.wrap a = a % 256 := by simp [IntKind.wrap, IntKind.signed, IntKind.bits]
theorem BD {E : Env} {x y : Operand} {a b : Int} (h1 : ev E x = .int .u8 a) (h2 : ev E y = .int .u8 b) : zl (ev E) (.bin .add x y) = some (.int .u8 ((a + b) % 256)) := by
 simp [zl, h1, h2, Ws, vF, XI]
theorem Bd {E : Env} {x y : Operand} {a b : Int} (h1 : ev E x = .int .u8 a) (h2 : ev E y = .int .u8 b) : zl (ev E) (.bin .sub x y) = some (.int .u8 ((a - b) % 256)) := by
 simp [zl, h1, h2, Ws, vF, XI]
set_option maxRecDepth 10000 in
theorem dR (Y : Bs) (_hY : Y.length < 2 ^ 62) : zP Tryz.prog 136 #[sv Y] [] (fun r S => r = .tuple #[.int .i64 ((lead Y).1 : Int), .bool (lead Y).2] ∧ S = []) := by
 refine zP.forget (zm Tryz.D9 (Nat.le_of_ble_eq_true rfl) ?_);unfold Tryz.A8;refine ze (z8 (yp pC (yp pC (zf (za (ze (ze (z8 (yp pC (zf (za (zw ?_))))))))))));refine Z9 (σ := Nat) (fun a E S => Has E [(0, sv Y), (4, .int .i64 (a : Int))] ∧ (a ≤ 255 + 64 ∧ ∃ f, lead Y = Xe f Y a ∧ 256 ≤ a + f) ∧ zC S []) (fun a => 400 - a) 0 ⟨⟨rfl, rfl, trivial⟩, ⟨Nat.zero_le _, 256, rfl, Nat.le_refl _⟩, .of⟩ fun a E S ⟨hE, ⟨ha, f, hl, hf⟩, hJ⟩ => ?_
 have hend : Y.length ≤ a ∨ 255 ≤ a → lead Y = (0, false) := fun h => by rw [hl]; exact lN h f
 obtain ⟨E0, e0⟩ := zy hE; subst e0; clear hE;refine zq hJ (ze (ze (z8 (yp (pI rfl) (yp (pT rfl) (yp (uE rfl) (yp (ZO rfl rfl) (yp (pB rfl) ?_))))))));rw [qz];by_cases h1 : a < Y.length
 ·rw [decide_eq_true (show (a : Int) < (Y.length : Int) from by omega)];refine zZ rfl (Zb (pI rfl) (zZ rfl (Zb (ZO rfl rfl) (yp (zM rfl rfl) (zf (za ?_))))));by_cases h2 : a < 255
  ·rw [decide_eq_true (show (a : Int) < 255 from by omega)];have hy : Y[a]? = some Y[a] := List.getElem?_eq_getElem h1;generalize Y[a] = b at hy;obtain ⟨f', rfl⟩ : ∃ f', f = f' + 1 := ⟨f - 1, by omega⟩
   rw [eF hy h2] at hl;have hb := b.toNat_lt;refine zH rfl (zu (za (zw (ze (z8 (yp (pT rfl) (yp (pI rfl) (yp (Bn rfl rfl hy) (yp (l9 rfl) (yp (pI rfl) (zf (za (ze (z8 (yp (pI rfl) (yp (Zg rfl rfl (by omega)) (yp (pI rfl) (zf (za (ze (ze (z8 (yp (pI rfl) (yp (Wi rfl rfl) (zf (za ?_))))))))))))))))))))))))));refine zQ rfl (fun h3 => ?_) (fun h3 => ?_)
   ·rw [if_pos (by omega)] at hl;refine ze (z8 (yp (pI rfl) (yp (pI rfl) (yp pC (zf (za (zJ (zV (bret (zV (bret (zV ?_))))))))))));exact zI (iY rfl rfl) ⟨_, .of, by rw [hl], rfl⟩
   ·rw [if_neg (by omega)] at hl;refine zu (za (ze (z8 (yp (pI rfl) (yp (pI rfl) (yp (Zo rfl rfl (by omega)) (yp (pI rfl) (zf (za (ze (z8 (yp (pI rfl) (yp (Vs rfl rfl) (zf (za ?_)))))))))))))));refine zQ rfl (fun h4 => ?_) (fun h4 => ?_)
    ·rw [if_pos (by omega)] at hl;refine Z4 (Uq rfl (zF (Z5 (za (ze (z8 (yp pC (yp pC (zf (za (zJ ?_)))))))))));exact zI (iY rfl rfl) ⟨_, .of, by rw [hl]; rfl, rfl⟩
    ·rw [if_neg (by omega)] at hl;refine zu (zT (za ?_));exact ⟨a + 1 + b.toNat, ⟨⟨rfl, rfl, trivial⟩, ⟨by omega, f', hl, by omega⟩, .of⟩, by omega⟩
  ·rw [decide_eq_false (show ¬ (a : Int) < 255 from by omega)];refine zA rfl (Z4 (zF (zF (Z5 (za (ze (z8 (yp pC (yp pC (zf (za (zJ ?_))))))))))));exact zI (iY rfl rfl) ⟨_, .of, by rw [hend (by omega)]; rfl, rfl⟩
 ·rw [decide_eq_false (show ¬ (a : Int) < (Y.length : Int) from by omega)];refine Z0 rfl (Z0 rfl (yp (zS rfl rfl) (zf (za (zA rfl (Z4 (zF (zF (Z5 (za (ze (z8 (yp pC (yp pC (zf (za (zJ ?_)))))))))))))))));exact zI (iY rfl rfl) ⟨_, .of, by rw [hend (by omega)]; rfl, rfl⟩
theorem VU (Y : Bs) (hY : Y.length < 2 ^ 62) : zP Tryz.prog 91 #[sv Y] [] (fun r S => r = .bool (vG Y) ∧ S = []) := by
 refine zP.forget (zm Tryz.Fj (Nat.le_of_ble_eq_true rfl) ?_);unfold Tryz.x91;refine ze (z8 (yp pC (zf (za (ze (z8 (yp (pT rfl) ?_)))))));refine zh (zk (dR Y hY) rfl rfl fun r S' h => ?_);obtain ⟨rfl, rfl⟩ := h;unfold vG;cases hb : (lead Y).2 with
 | false =>
  refine yp (pU rfl) (yp (pExt rfl rfl) (yp (pExt rfl rfl) (yp (pI rfl) (yp (pB rfl) (zf (za (ze (z8 (yp (pB rfl) (yp (pB rfl) (Z0 rfl (Z0 rfl (Z0 rfl (Z0 rfl (yp (zS rfl rfl) (yp (pB rfl) (zf (za (zJ ?_)))))))))))))))))));exact zI (rB rfl) ⟨_, .of, rfl, rfl⟩
 | true =>
  refine yp (pU rfl) (yp (pExt rfl rfl) (yp (pExt rfl rfl) (yp (pI rfl) (yp (pB rfl) (zf (za (ze (z8 (yp (pB rfl) (yp (pB rfl) (zZ rfl (Zb (pI rfl) (zZ rfl (Zb (pT rfl) (zZ rfl (Zb (uE rfl) (zZ rfl (Zb (Wi rfl rfl) (yp (zM rfl rfl) (yp (pB rfl) (zf (za (zJ ?_)))))))))))))))))))))));rw [qz];refine zI (rB rfl) ⟨_, .of, ?_, rfl⟩;congr 1;by_cases h : (lead Y).1 = Y.length
  ·rw [decide_eq_true (by omega), h]; simp
  ·rw [decide_eq_false (by omega)]; simp [h]
def wF (i : Nat) (Y : Bs) : Bs := (Y.take i).map low ++ Y.drop i
theorem VZ {i : Nat} {Y : Bs} (h : i ≤ Y.length) : (wF i Y).length = Y.length := by simp [wF]; omega
theorem u6 {i : Nat} {Y : Bs} (h : i ≤ Y.length) (j : Nat) : (wF i Y)[j]? = if j < i then (Y[j]?).map low else Y[j]? := by
 unfold wF;rw [List.getElem?_append];have hl : ((Y.take i).map low).length = i := by simp; omega
 rw [hl];split
 ·rw [List.getElem?_map, List.getElem?_take, if_pos (by omega)]
 ·rw [List.getElem?_drop]; congr 1; omega
theorem yu {i : Nat} {Y : Bs} (h : i < Y.length) : (wF i Y).set i (low Y[i]) = wF (i + 1) Y := by
 refine List.ext_getElem? fun j => ?_
 rw [List.getElem?_set, u6 (by omega), u6 (by omega), VZ (by omega)];by_cases hj : i = j
 ·subst hj;rw [if_pos rfl, if_pos h, if_pos (by omega), List.getElem?_eq_getElem h]; rfl
 ·rw [if_neg hj];by_cases h2 : j < i
  ·rw [if_pos h2, if_pos (by omega)]
  ·rw [if_neg h2, if_neg (by omega)]
theorem jo {i : Nat} {Y : Bs} (h : i < Y.length) (hl : low Y[i] = Y[i]) : wF i Y = wF (i + 1) Y := by
 rw [← yu h];refine List.ext_getElem? fun j => ?_
 rw [List.getElem?_set, VZ (by omega)];by_cases hj : i = j
 ·subst hj;rw [if_pos rfl, if_pos h, u6 (by omega), if_neg (by omega), hl, List.getElem?_eq_getElem h]
 ·rw [if_neg hj]
theorem jm (Y : Bs) : wF 0 Y = Y := by simp [wF]
theorem JD (Y : Bs) : wF Y.length Y = Y.map low := by simp [wF]
set_option maxRecDepth 10000 in
theorem Jt (Y : Bs) (hY : Y.length < 2 ^ 62) : zP Tryz.prog 101 #[sv Y] [] (fun r S => r = sv (Y.map low) ∧ S = []) := by
 refine zP.forget (zm Tryz.DR (Nat.le_of_ble_eq_true rfl) ?_);unfold Tryz.x101;refine ze (z8 (yp pC (zf (za (ze (z8 (yp (pT rfl) ?_)))))));refine zh (sK rfl fun v H hL => ?_);have hL : Zc 5 v Y H := hL;obtain ⟨a, c, rfl⟩ := hL.isSlice;rw [← jm Y, VZ (Nat.zero_le _)] at hL;refine yp (pS rfl) (zf (za (ze (ze (z8 (yp (pS rfl) (yp (ZP rfl) (yp pC (zf (za (zw ?_)))))))))));refine Z9 (σ := Nat) (fun i E S => ∃ H, Has E [(3, .slice a Y.length c), (8, .slice a Y.length c), (9, .int .i64 (Y.length : Int)), (10, .int .i64 (i : Int))] ∧ i ≤ Y.length ∧ Zc 5 (.slice a Y.length c) (wF i Y) H ∧ zC S [H]) (fun i => Y.length - i) 0 ⟨H, ⟨rfl, rfl, rfl, rfl, trivial⟩, Nat.zero_le _, hL, .of⟩ fun i E S ⟨H, hE, hi, hL, hJ⟩ => ?_
 have hfl := VZ hi;obtain ⟨E0, e0⟩ := zy hE; subst e0; clear hE;refine zq hJ (ze (z8 (yp (ZO rfl rfl) (zf (za (ze ?_))))));refine zQ rfl (fun h => ?_) (fun h => ?_)
 ·have hlt : i < Y.length := by omega
  have hg := u6 hi i;rw [if_neg (by omega)] at hg;have hset := yu hlt;have hsame := jo hlt;have hyi : Y[i]? = some Y[i] := List.getElem?_eq_getElem hlt;rw [hyi] at hg;generalize Y[i] = y at hg hset hsame;have hy := y.toNat_lt;obtain ⟨b, sp, fz, hz, hae, _, hce, rfl⟩ := hL.at' (by intro h; rw [h] at hfl; simp at hfl; omega);subst hae;rw [hfl] at hce;have hif : i < (wF i Y).length := by omega
  have hld : ((cells (wF i Y ++ sp)).toArray.toList)[0 + i * 1 + 0]? = some (.int .u8 (y.toNat : Int)) := (wB (kk := 1) (j := 0) hif rfl (by omega)).trans (by rw [List.getElem?_eq_getElem hif] at hg; rw [Option.some.inj hg]; rfl);refine zu (za (ze (zw (ze (z8 (yp (pI rfl) (yp (zU rfl rfl (by omega)) ?_)))))));refine zh (zB (v := .int .u8 (y.toNat : Int)) rfl hld ?_);refine yp (pI rfl) (yp (pI rfl) (zf (za (ze (z8 (yp (pI rfl) (yp (Y3 rfl rfl) (yp (pB rfl) ?_))))))));have hno : low y = y → Zc 5 (.slice (some ⟨b, 0, none⟩) Y.length c) (wF (i + 1) Y) [(b, .cells (cells (wF i Y ++ sp)).toArray 5 fz)] := fun hl => by rw [← hsame hl]; exact hL
  by_cases h1 : 65 ≤ (y.toNat : Int)
  ·rw [decide_eq_true h1];refine zZ rfl (Zb (pI rfl) (zZ rfl (Zb (jW rfl rfl) (yp (zM rfl rfl) (zf (za ?_))))));by_cases h2 : (y.toNat : Int) ≤ 90
   ·rw [decide_eq_true h2];have hlow : low y = UInt8.ofNat (y.toNat + 32) := by unfold low; rw [if_pos (by omega)]
    have hln : ((low y).toNat : Int) = (((y.toNat : Int) + 97) % 256 - 65) % 256 := by
     rw [hlow];have : (UInt8.ofNat (y.toNat + 32)).toNat = (y.toNat + 32) % 256 := by simp
     rw [this]; omega
    refine zH rfl (z8 (yp (pS rfl) (yp (pI rfl) (yp (pI rfl) (yp (BD rfl rfl) ?_)))))
    skip
    refine yp (Bd rfl rfl) ?_;rw [← hln];refine yp (zU rfl rfl (by omega)) ?_;refine zh (Zj (M := wF i Y ++ sp) (i := i) (y := low y) rfl (by simp; omega) rfl rfl hz ?_);have hs2 := Zc.setAt (ty := 5) (b := b) (c := c) (y := low y) hz hif (by omega);rw [hset, hfl] at hs2;refine zf (zT (za (z8 (yp (Zg rfl rfl (by omega)) (yp (pI rfl) (zf (za ?_)))))));exact ⟨i + 1, ⟨_, ⟨rfl, rfl, rfl, rfl, trivial⟩, by omega, hs2, .of⟩, by omega⟩
   ·rw [decide_eq_false h2];refine zA rfl (zu (zT (za (z8 (yp (Zg rfl rfl (by omega)) (yp (pI rfl) (zf (za ?_))))))));exact ⟨i + 1, ⟨_, ⟨rfl, rfl, rfl, rfl, trivial⟩, by omega, hno (by unfold low; rw [if_neg (by omega)]), .of⟩, by omega⟩
  ·rw [decide_eq_false h1];refine Z0 rfl (Z0 rfl (yp (zS rfl rfl) (zf (za (zA rfl (zu (zT (za (z8 (yp (Zg rfl rfl (by omega)) (yp (pI rfl) (zf (za ?_)))))))))))));exact ⟨i + 1, ⟨_, ⟨rfl, rfl, rfl, rfl, trivial⟩, by omega, hno (by unfold low; rw [if_neg (by omega)]), .of⟩, by omega⟩
 ·have hiY : i = Y.length := by omega
  subst hiY;rw [JD] at hL;have hml : (Y.map low).length = Y.length := by simp
  rw [← hml] at hL;refine Z4 (zF (zF (Z5 (za (ze (z8 (yp (pS rfl) ?_)))))));refine zh (Qu (Y := Y.map low) (by rw [hml]; rfl) (hL.src (by simp)) ?_);refine yp (pT rfl) (zf (za (zJ ?_)));exact zI (res1 rfl) ⟨_, .of, rfl, rfl⟩
theorem kW (Y : Bs) (hY : Y.length < 2 ^ 62) : zP Tryz.prog 53 #[sv Y] [] (fun r S => r = sv (zx Y) ∧ S = []) := by
 refine zP.forget (zm Tryz.FT (Nat.le_of_ble_eq_true rfl) ?_);unfold Tryz.Hq;refine ze (z8 (yp pC (zf (za (ze (ze (z8 (yp (pT rfl) ?_))))))));refine zh (zk (VU Y hY) rfl rfl fun r S' h => ?_);obtain ⟨rfl, rfl⟩ := h;unfold zx;cases vG Y with
 | false =>
  refine yp (Zi rfl) (zf (za (zH rfl (ze (z8 (yp (pT rfl) (yp (pT rfl) (zf (za (zJ (zV ?_)))))))))));exact zI (res1 rfl) ⟨_, .of, rfl, rfl⟩
 | true =>
  refine yp (Zi rfl) (zf (za (zA rfl (zu (za (ze (z8 (yp (pT rfl) ?_))))))));refine zh (zk (Jt Y hY) rfl rfl fun r S' h => ?_);obtain ⟨rfl, rfl⟩ := h;refine yp (pT rfl) (zf (za (zJ ?_)));exact zI (res1 rfl) ⟨_, .of, rfl, rfl⟩
instance : Enc ByteArray := ⟨fun s => [.string s], 1, fun _ => rfl, fun _ => rfl⟩
end Go.Proofs.YtejmbmenbailmaaGreat
namespace Go.Proofs.YtejmbmenbailmaaGreat
open Go.Xs
open Enc (enc)
structure Nm where
 id : Int
 n : Bs
 u : Nat
instance : Enc Nm := ⟨fun x => [.int .i64 x.id, sv x.n, .int .i64 (x.u : Int)], 3, fun _ => rfl, fun _ => rfl⟩
/-- where one is: by its letters, by its number -/
def Vo (n : Bs) : List Nm → Option Nat
 | [] => none
 | x :: l => if x.n = n then some 0 else (Vo n l).map (· + 1)
def VA (i : Int) : List Nm → Option Nat
 | [] => none
 | x :: l => if x.id = i then some 0 else (VA i l).map (· + 1)
theorem UL {n : Bs} : ∀ {L : List Nm} {j : Nat}, Vo n L = some j → ∃ e, L[j]? = some e ∧ e.n = n
 | [], _, h => by cases h
 | x :: l, j, h => by
  unfold Vo at h;split at h
  ·next hx => obtain rfl := Option.some.inj h; exact ⟨x, rfl, hx⟩
  ·cases hl : Vo n l with
   | none => rw [hl] at h; cases h
   | some k =>
    rw [hl] at h;obtain rfl : k + 1 = j := Option.some.inj h;obtain ⟨e, h1, h2⟩ := UL hl;exact ⟨e, by simpa using h1, h2⟩
theorem uW {i : Int} : ∀ {L : List Nm} {j : Nat}, VA i L = some j → ∃ e, L[j]? = some e ∧ e.id = i
 | [], _, h => by cases h
 | x :: l, j, h => by
  unfold VA at h;split at h
  ·next hx => obtain rfl := Option.some.inj h; exact ⟨x, rfl, hx⟩
  ·cases hl : VA i l with
   | none => rw [hl] at h; cases h
   | some k =>
    rw [hl] at h;obtain rfl : k + 1 = j := Option.some.inj h;obtain ⟨e, h1, h2⟩ := uW hl;exact ⟨e, by simpa using h1, h2⟩
theorem vX {n : Bs} : ∀ {L : List Nm}, Vo n L = none → ∀ e ∈ L, e.n ≠ n
 | x :: l, h, e, he => by
  unfold Vo at h;split at h
  ·cases h
  ·next hx =>
   have hl : Vo n l = none := by
    cases hl : Vo n l with
    | none => rfl
    | some k => rw [hl] at h; cases h
   rcases List.mem_cons.1 he with rfl | he
   ·exact hx
   ·exact vX hl e he
theorem xJ {i : Int} : ∀ {L : List Nm}, VA i L = none → ∀ e ∈ L, e.id ≠ i
 | x :: l, h, e, he => by
  unfold VA at h;split at h
  ·cases h
  ·next hx =>
   have hl : VA i l = none := by
    cases hl : VA i l with
    | none => rfl
    | some k => rw [hl] at h; cases h
   rcases List.mem_cons.1 he with rfl | he
   ·exact hx
   ·exact xJ hl e he
/-- what the two maps have -/
def uq (L : List Nm) : ByteArray → Option Int := fun s => (Vo s.data.toList L).bind fun j => (L[j]?).map (·.id)
def WE (L : List Nm) : Int → Option Bool := fun i => (VA i L).map fun _ => true
/-- nobody twice -/
structure xw (L : List Nm) : Prop where
 ids : (L.map (·.id)).Nodup
 ns : (L.map (·.n)).Nodup
theorem lD {L : List Nm} (h : (L.map (·.n)).Nodup) {j : Nat} {e : Nm} (he : L[j]? = some e) : Vo e.n L = some j := by
 cases hx : Vo e.n L with
 | none => exact absurd rfl (vX hx e (List.mem_of_getElem? he))
 | some k =>
  obtain ⟨e', h1, h2⟩ := UL hx;have h3 : (L.map (·.n))[k]? = some e.n := by rw [List.getElem?_map, h1, Option.map_some, h2]
  have h4 : (L.map (·.n))[j]? = some e.n := by rw [List.getElem?_map, he, Option.map_some]
  rw [(List.getElem?_inj (List.getElem?_eq_some_iff.1 h3).1 h).1 (h3.trans h4.symm)]
theorem qY {L : List Nm} (h : (L.map (·.id)).Nodup) {j : Nat} {e : Nm} (he : L[j]? = some e) : VA e.id L = some j := by
 cases hx : VA e.id L with
 | none => exact absurd rfl (xJ hx e (List.mem_of_getElem? he))
 | some k =>
  obtain ⟨e', h1, h2⟩ := uW hx;have h3 : (L.map (·.id))[k]? = some e.id := by rw [List.getElem?_map, h1, Option.map_some, h2]
  have h4 : (L.map (·.id))[j]? = some e.id := by rw [List.getElem?_map, he, Option.map_some]
  rw [(List.getElem?_inj (List.getElem?_eq_some_iff.1 h3).1 h).1 (h3.trans h4.symm)]
/-- the maps by their elements alone -/
theorem V6 {L : List Nm} (h : xw L) {s : ByteArray} {i : Int} : uq L s = some i ↔ ∃ e ∈ L, e.n = s.data.toList ∧ e.id = i := by
 unfold uq;constructor
 ·intro hx;cases hn : Vo s.data.toList L with
  | none => rw [hn] at hx; cases hx
  | some j =>
   obtain ⟨e, h1, h2⟩ := UL hn;rw [hn] at hx;simp only [Option.bind_some, h1, Option.map_some] at hx;exact ⟨e, List.mem_of_getElem? h1, h2, Option.some.inj hx⟩
 ·rintro ⟨e, he, h1, rfl⟩;obtain ⟨j, hj⟩ := List.mem_iff_getElem?.1 he;rw [← h1, lD h.ns hj];simp [hj]
theorem Wp {L : List Nm} {i : Int} {b : Bool} : WE L i = some b ↔ b = true ∧ ∃ e ∈ L, e.id = i := by
 unfold WE;cases hn : VA i L with
 | none =>
  have := xJ hn;constructor
  ·intro h; cases h
  ·rintro ⟨_, e, he, h⟩; exact absurd h (this e he)
 | some j =>
  obtain ⟨e, h1, h2⟩ := uW hn;constructor
  ·intro h; exact ⟨(Option.some.inj h).symm, e, List.mem_of_getElem? h1, h2⟩
  ·rintro ⟨rfl, _⟩; rfl
theorem uY {κ ν : Type} {f g : κ → Option ν} (h : ∀ k v, f k = some v ↔ g k = some v) : f = g := by
 funext k;cases hf : f k with
 | some v => exact ((h k v).1 hf).symm
 | none =>
  cases hg : g k with
  | none => rfl
  | some v => rw [(h k v).2 hg] at hf; cases hf
theorem yJ (s : ByteArray) (n : Bs) : s = ⟨n.toArray⟩ ↔ s.data.toList = n := by
 constructor
 ·rintro rfl; rfl
 ·rintro rfl; rfl
theorem xw.add {L : List Nm} (h : xw L) {e : Nm} (hi : ∀ x ∈ L, x.id ≠ e.id) (hn : ∀ x ∈ L, x.n ≠ e.n) : xw (L ++ [e]) := by
 constructor
 ·rw [List.map_append];refine List.nodup_append.2 ⟨h.ids, by simp, fun a ha b hb => ?_⟩;obtain ⟨x, hx, rfl⟩ := List.mem_map.1 ha;simp at hb; rw [hb]; exact hi x hx
 ·rw [List.map_append];refine List.nodup_append.2 ⟨h.ns, by simp, fun a ha b hb => ?_⟩;obtain ⟨x, hx, rfl⟩ := List.mem_map.1 ha;simp at hb; rw [hb]; exact hn x hx
theorem eT {L : List Nm} (h : xw L) {e : Nm} (hi : ∀ x ∈ L, x.id ≠ e.id) (hn : ∀ x ∈ L, x.n ≠ e.n) : uq (L ++ [e]) = wI (uq L) (⟨e.n.toArray⟩ : ByteArray) (some e.id) := by
 refine uY fun s i => ?_
 rw [V6 (h.add hi hn)];unfold wI;by_cases hs : s = ⟨e.n.toArray⟩
 ·rw [if_pos hs];have hs2 := (yJ s e.n).1 hs;constructor
  ·rintro ⟨x, hx, h1, rfl⟩;rcases List.mem_append.1 hx with hx | hx
   ·exact absurd (h1.trans hs2) (hn x hx)
   ·rw [List.mem_singleton.1 hx]
  ·intro h1;exact ⟨e, by simp, hs2.symm, Option.some.inj h1⟩
 ·rw [if_neg hs, V6 h];constructor
  ·rintro ⟨x, hx, h1, rfl⟩;rcases List.mem_append.1 hx with hx | hx
   ·exact ⟨x, hx, h1, rfl⟩
   ·rw [List.mem_singleton.1 hx] at h1; exact absurd ((yJ s e.n).2 h1.symm) hs
  ·rintro ⟨x, hx, h1, rfl⟩;exact ⟨x, List.mem_append.2 (.inl hx), h1, rfl⟩
theorem aD {L : List Nm} {e : Nm} : WE (L ++ [e]) = wI (WE L) e.id (some true) := by
 refine uY fun i b => ?_
 rw [Wp];unfold wI;by_cases hs : i = e.id
 ·rw [if_pos hs];constructor
  ·rintro ⟨rfl, _⟩; rfl
  ·intro h1; exact ⟨(Option.some.inj h1).symm, e, by simp, hs.symm⟩
 ·rw [if_neg hs, Wp];constructor
  ·rintro ⟨rfl, x, hx, h1⟩;rcases List.mem_append.1 hx with hx | hx
   ·exact ⟨rfl, x, hx, h1⟩
   ·rw [List.mem_singleton.1 hx] at h1; exact absurd h1.symm hs
  ·rintro ⟨rfl, x, hx, h1⟩;exact ⟨rfl, x, List.mem_append.2 (.inl hx), h1⟩
/-- a name is used so often -/
def reuse (L : List Nm) (j : Nat) (e : Nm) (u : Nat) : List Nm := L.set j ⟨e.id, e.n, u⟩
theorem QG {L : List Nm} {j : Nat} {e : Nm} {u : Nat} (he : L[j]? = some e) : (reuse L j e u).map (·.id) = L.map (·.id) := by
 refine List.ext_getElem? fun i => ?_
 unfold reuse;rw [List.getElem?_map, List.getElem?_map, List.getElem?_set];split
 ·next h => subst h; rw [if_pos (List.getElem?_eq_some_iff.1 he).1, he]; rfl
 ·rfl
theorem bX {L : List Nm} {j : Nat} {e : Nm} {u : Nat} (he : L[j]? = some e) : (reuse L j e u).map (·.n) = L.map (·.n) := by
 refine List.ext_getElem? fun i => ?_
 unfold reuse;rw [List.getElem?_map, List.getElem?_map, List.getElem?_set];split
 ·next h => subst h; rw [if_pos (List.getElem?_eq_some_iff.1 he).1, he]; rfl
 ·rfl
theorem VD {L : List Nm} {j : Nat} {e x : Nm} {u : Nat} (he : L[j]? = some e) (hx : x ∈ reuse L j e u) : ∃ y ∈ L, y.id = x.id ∧ y.n = x.n := by
 unfold reuse at hx;rcases List.mem_or_eq_of_mem_set hx with hx | rfl
 ·exact ⟨x, hx, rfl, rfl⟩
 ·exact ⟨e, List.mem_of_getElem? he, rfl, rfl⟩
theorem WH {L : List Nm} {j : Nat} {e y : Nm} {u : Nat} (he : L[j]? = some e) (hy : y ∈ L) : ∃ x ∈ reuse L j e u, x.id = y.id ∧ x.n = y.n := by
 obtain ⟨i, hi⟩ := List.mem_iff_getElem?.1 hy;by_cases hij : j = i
 ·subst hij;rw [he] at hi;obtain rfl := Option.some.inj hi;exact ⟨⟨e.id, e.n, u⟩, List.mem_of_getElem? (i := j) (by unfold reuse; rw [List.getElem?_set_self (List.getElem?_eq_some_iff.1 he).1]), rfl, rfl⟩
 ·exact ⟨y, List.mem_of_getElem? (i := i) (by unfold reuse; rw [List.getElem?_set_ne hij]; exact hi), rfl, rfl⟩
theorem xw.reuse {L : List Nm} (h : xw L) {j : Nat} {e : Nm} {u : Nat} (he : L[j]? = some e) : xw (reuse L j e u) := ⟨by rw [QG he]; exact h.ids, by rw [bX he]; exact h.ns⟩
theorem JB {L : List Nm} (h : xw L) {j : Nat} {e : Nm} {u : Nat} (he : L[j]? = some e) : uq (reuse L j e u) = uq L := by
 refine uY fun s i => ?_
 rw [V6 (h.reuse he), V6 h];constructor
 ·rintro ⟨x, hx, h1, h2⟩;obtain ⟨y, hy, h3, h4⟩ := VD he hx;exact ⟨y, hy, h4.trans h1, h3.trans h2⟩
 ·rintro ⟨y, hy, h1, h2⟩;obtain ⟨x, hx, h3, h4⟩ := WH (u := u) he hy;exact ⟨x, hx, h4.trans h1, h3.trans h2⟩
theorem jO {L : List Nm} {j : Nat} {e : Nm} {u : Nat} (he : L[j]? = some e) : WE (reuse L j e u) = WE L := by
 refine uY fun i b => ?_
 rw [Wp, Wp];constructor
 ·rintro ⟨h0, x, hx, h2⟩;obtain ⟨y, hy, h3, h4⟩ := VD he hx;exact ⟨h0, y, hy, h3.trans h2⟩
 ·rintro ⟨h0, y, hy, h2⟩;obtain ⟨x, hx, h3, h4⟩ := WH (u := u) he hy;exact ⟨h0, x, hx, h3.trans h2⟩
theorem Wo {L : List Nm} (h : xw L) {j : Nat} {e x : Nm} (he : L[j]? = some e) (hx : x ∈ L.eraseIdx j) : x ∈ L ∧ x.id ≠ e.id ∧ x.n ≠ e.n := by
 obtain ⟨i, hi⟩ := List.mem_iff_getElem?.1 hx;rw [List.getElem?_eraseIdx] at hi;have key : ∀ k, L[k]? = some x → k ≠ j → x ∈ L ∧ x.id ≠ e.id ∧ x.n ≠ e.n := fun k hk hne => by
  refine ⟨List.mem_of_getElem? hk, fun h1 => hne ?_, fun h1 => hne ?_⟩
  ·have h3 : (L.map (·.id))[k]? = some e.id := by rw [List.getElem?_map, hk, Option.map_some, h1]
   have h4 : (L.map (·.id))[j]? = some e.id := by rw [List.getElem?_map, he, Option.map_some]
   exact (List.getElem?_inj (List.getElem?_eq_some_iff.1 h3).1 h.ids).1 (h3.trans h4.symm)
  ·have h3 : (L.map (·.n))[k]? = some e.n := by rw [List.getElem?_map, hk, Option.map_some, h1]
   have h4 : (L.map (·.n))[j]? = some e.n := by rw [List.getElem?_map, he, Option.map_some]
   exact (List.getElem?_inj (List.getElem?_eq_some_iff.1 h3).1 h.ns).1 (h3.trans h4.symm)
 split at hi
 ·exact key i hi (by omega)
 ·exact key (i + 1) hi (by omega)
theorem mem_erase {L : List Nm} {j : Nat} {e x : Nm} (he : L[j]? = some e) (hx : x ∈ L) (hne : x.id ≠ e.id ∨ x.n ≠ e.n) : x ∈ L.eraseIdx j := by
 obtain ⟨i, hi⟩ := List.mem_iff_getElem?.1 hx;have hij : i ≠ j := fun e2 => by rw [e2, he] at hi; obtain rfl := Option.some.inj hi; simp at hne
 refine List.mem_of_getElem? (i := if i < j then i else i - 1) ?_;rw [List.getElem?_eraseIdx];by_cases h7 : i < j
 ·rw [if_pos h7, if_pos h7]; exact hi
 ·rw [if_neg h7, if_neg (by omega), show i - 1 + 1 = i from by omega]; exact hi
theorem xw.erase {L : List Nm} (h : xw L) (j : Nat) : xw (L.eraseIdx j) := ⟨((List.eraseIdx_sublist L j).map _).nodup h.ids, ((List.eraseIdx_sublist L j).map _).nodup h.ns⟩
theorem JC {L : List Nm} (h : xw L) {j : Nat} {e : Nm} (he : L[j]? = some e) : uq (L.eraseIdx j) = wI (uq L) (⟨e.n.toArray⟩ : ByteArray) none := by
 refine uY fun s i => ?_
 rw [V6 (h.erase j)];unfold wI;by_cases hs : s = ⟨e.n.toArray⟩
 ·rw [if_pos hs];have hs2 := (yJ s e.n).1 hs;constructor
  ·rintro ⟨x, hx, h1, _⟩;exact absurd (h1.trans hs2) (Wo h he hx).2.2
  ·intro h1; cases h1
 ·rw [if_neg hs, V6 h];constructor
  ·rintro ⟨x, hx, h1, h2⟩;exact ⟨x, (Wo h he hx).1, h1, h2⟩
  ·rintro ⟨x, hx, h1, h2⟩;exact ⟨x, mem_erase he hx (.inr fun h3 => hs ((yJ s e.n).2 (h1.symm.trans h3))), h1, h2⟩
theorem jP {L : List Nm} (h : xw L) {j : Nat} {e : Nm} (he : L[j]? = some e) : WE (L.eraseIdx j) = wI (WE L) e.id none := by
 refine uY fun i b => ?_
 rw [Wp];unfold wI;by_cases hs : i = e.id
 ·rw [if_pos hs];constructor
  ·rintro ⟨_, x, hx, h1⟩;exact absurd (h1.trans hs) (Wo h he hx).2.1
  ·intro h1; cases h1
 ·rw [if_neg hs, Wp];constructor
  ·rintro ⟨h0, x, hx, h1⟩;exact ⟨h0, x, (Wo h he hx).1, h1⟩
  ·rintro ⟨h0, x, hx, h1⟩;exact ⟨h0, x, mem_erase he hx (.inl fun h3 => hs (h1.symm.trans h3)), h1⟩
/-- how often, in eight bytes -/
def V4 (n : Nat) : Bs := (List.range 8).map fun i => UInt8.ofNat (n / 2 ^ (8 * i))
theorem ZC (n : Nat) : (V4 n).length = 8 := by simp [V4]
theorem Q6 (n i : Nat) (h : i < 8) : (V4 n)[i]? = some (UInt8.ofNat (n / 2 ^ (8 * i))) := by
 unfold V4;rw [List.getElem?_map, List.getElem?_range h]; rfl
end Go.Proofs.YtejmbmenbailmaaGreat
