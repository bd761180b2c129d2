/- The table of names (chapter 7): contracts of its functions. The table of names (chapter 7): uses, names, Add and Drop. The table of names (chapter 7): Add and Drop. The table of names (chapter 7): what Add does. The table of names (chapter 7): Drop; awake. The table of names (chapter 7): Add, once more. The table of names (chapter 7), beside the document's: what Add and Drop leave. -/
import Derived.Test.YtejmbmenbailmaaGreatN1
import Derived.Test.YtejmbmenbailmaaGreatFIntern
namespace Go.Proofs.YtejmbmenbailmaaGreat
open Go.Xs
open Enc (enc)
theorem ko : Tryz.prog.underlying 120 = some (.map 9 3) := by kernel_rfl
theorem kr : Tryz.prog.underlying 121 = some (.map 3 4) := by kernel_rfl
theorem xD : Tryz.prog.underlying 9 = some .string := by kernel_rfl
theorem kg : Tryz.prog.underlying 3 = some (.int .i64) := by kernel_rfl
theorem J2 : (Tryz.prog.info? 3).bind (·.zero) = some (.int .i64 0) := by kernel_rfl
theorem Xh : (Tryz.prog.info? 4).bind (·.zero) = some (.bool false) := by kernel_rfl
abbrev wU (tb ab ib lb : Nat) : List Chunk := [(tb, .cells #[.pointer (some ⟨ab, 0, none⟩), .map (some ib), .map (some lb)] 123)]
/-- the table, as one piece of memory -/
def Tb (tb ab : Nat) (L : List Nm) (T : List Chunk) : Prop :=
 ∃ (ib lb : Nat) (HI HG : List Chunk), Mp ib (uq L) L.length HI ∧ Mp lb (WE L) L.length HG ∧ T = wU tb ab ib lb ++ HI ++ HG
/-- the names stand in the arena, and blocks of others; nothing else does -/
structure WQ (D : List (Option Bt)) (L : List Nm) (B : List (Int × Bs)) : Prop where
 dis : xw L
 blk : ∀ e ∈ L, Zh D e.id = some (V4 e.u ++ e.n)
 oth : ∀ x ∈ B, Zh D x.1 = some x.2 ∧ ∀ e ∈ L, e.id ≠ x.1
 all : ∀ i b, Zh D i = some b → (∃ e ∈ L, e.id = i) ∨ ∃ x ∈ B, x.1 = i
 us : ∀ e ∈ L, e.u < 2 ^ 60
 fold : ∀ e ∈ L, vG e.n = true ∧ zx e.n = e.n
theorem ku {tb ab ib lb : Nat} : zP Tryz.prog 67 #[.pointer (some ⟨tb, 0, none⟩)] [wU tb ab ib lb] (fun r S => r = .bool false ∧ S = [wU tb ab ib lb]) := by
 refine zP.forget (zm Tryz.FK (Nat.le_of_ble_eq_true rfl) ?_);unfold Tryz.GX;refine ze (z8 (yp pC (zf (za (ze (z8 (yp (pP rfl) (yp (ZM rfl rfl) (yp (pB rfl) (zZ rfl (Zb (pP rfl) (zZ rfl (Zb (zG rfl) (zZ rfl (Zb (zn rfl) (zZ rfl ?_))))))))))))))));refine (zB rfl rfl ?_);refine zZ rfl (Zb (ZM rfl rfl) (yp (zS rfl rfl) (yp (pB rfl) (zf (za (zJ ?_))))));exact zI (rB rfl) ⟨_, .of, rfl, rfl⟩
theorem Tb.mk {tb ab ib lb : Nat} {L : List Nm} {HI HG : List Chunk} (h1 : Mp ib (uq L) L.length HI) (h2 : Mp lb (WE L) L.length HG) : Tb tb ab L (wU tb ab ib lb ++ HI ++ HG) := ⟨ib, lb, HI, HG, h1, h2, rfl⟩
theorem AL {ab : Nat} : zP Tryz.prog 46 #[.pointer (some ⟨ab, 0, none⟩)] [] (fun r S => ∃ tb T, r = .pointer (some ⟨tb, 0, none⟩) ∧ Tb tb ab [] T ∧ S = [T]) := by
 refine zP.forget (zm Tryz.FY (Nat.le_of_ble_eq_true rfl) ?_);unfold Tryz.Hz;refine ze (z8 (yp pC (zf (za (ze (z8 (yp (pP rfl) ?_)))))));refine zh (YU ByteArray Int fun ib HI hI => ?_);refine zh (YU Int Bool fun lb HG hG => ?_);refine yp (lg (jV rfl) (Ih rfl) (Ih rfl)) ?_;refine zh (Zr rfl fun p7 => ?_);refine yp (pP rfl) (zf (za (zJ ?_)));exact zI (rP rfl) ⟨[wU p7 ab ib lb ++ HI ++ HG], zC.WY, p7, _, rfl, Tb.mk (L := []) hI hG, rfl⟩
/-- the one of these letters -/
def V8 (L : List Nm) (n : Bs) : Option Nm := (Vo n L).bind fun j => L[j]?
def yV (L : List Nm) (i : Int) : Option Nm := (VA i L).bind fun j => L[j]?
theorem oh {tb ab : Nat} {L : List Nm} {T : List Chunk} (hT : Tb tb ab L T) (Y : Bs) (hY : Y.length < 2 ^ 62) : zP Tryz.prog 102 #[.pointer (some ⟨tb, 0, none⟩), sv Y] [T]
 (fun r S => r = .tuple #[.int .i64 (((V8 L (zx Y)).map (·.id)).getD 0), .bool (V8 L (zx Y)).isSome] ∧ S = [T]) := by
 obtain ⟨ib, lb, HI, HG, hI, hG, rfl⟩ := hT;refine zP.vH (zP.forget (zm Tryz.DN (Nat.le_of_ble_eq_true rfl) ?_));unfold Tryz.x102;refine ze (z8 (yp pC (yp pC (zf (za (ze (ze (z8 (yp (pP rfl) ?_)))))))));refine zh (zk (ku (tb := tb) (ab := ab) (ib := ib) (lb := lb)) rfl rfl fun r S' h => ?_);obtain ⟨rfl, rfl⟩ := h;refine zf (za (zA rfl (zu (za (ze (zX (zi (pP rfl) (zi (zG rfl) (zi (zn rfl) (Z7 rfl rfl (zi (pT rfl) ?_)))))))))));refine Zp (zk (kW Y hY) rfl rfl fun r S' h => ?_) zO;obtain ⟨rfl, rfl⟩ := h;refine ⟨by simp, ?_⟩;have hid : uq L ⟨(zx Y).toArray⟩ = (V8 L (zx Y)).map (·.id) := by
  unfold uq V8;cases Vo (zx Y) L <;> rfl
 refine zN (aS (v := .int .i64 (((V8 L (zx Y)).map (·.id)).getD 0)) (bl := (V8 L (zx Y)).isSome) hI (by simp) (⟨(zx Y).toArray⟩ : ByteArray) ko xD J2 rfl rfl ?_ ?_ ?_) zO
 ·rw [hid]; cases V8 L (zx Y) <;> rfl
 ·rw [hid]; cases V8 L (zx Y) <;> rfl
 refine zi (pU rfl) (zi (pExt rfl rfl) (zi (pExt rfl rfl) (zi (pI rfl) (zi (pB rfl) (zL (za (ze (z8 (yp (pI rfl) (yp (pB rfl) (yp (pI rfl) (yp (pB rfl) (zf (za (zJ ?_)))))))))))))));exact zI (iY rfl rfl) ⟨_, zC.WY, rfl, rfl⟩
theorem om {tb ab : Nat} {L : List Nm} {T : List Chunk} (hT : Tb tb ab L T) (Y : Bs) (hY : Y.length < 2 ^ 62) : zP Tryz.prog 54 #[.pointer (some ⟨tb, 0, none⟩), sv Y] [T]
 (fun r S => r = .int .i64 (if (V8 L (zx Y)).isSome = true ∨ vG Y = false then 0 else cost (8 + Y.length)) ∧ S = [T]) := by
 refine zP.forget (zm Tryz.FR (Nat.le_of_ble_eq_true rfl) ?_);unfold Tryz.Hl;refine ze (z8 (yp pC (zf (za (ze (ze (z8 (yp (pP rfl) (yp (pT rfl) ?_)))))))));refine zh (zk (oh hT Y hY) rfl rfl fun r S' h => ?_);obtain ⟨rfl, rfl⟩ := h;cases hb : (V8 L (zx Y)).isSome with
 | true =>
  refine yp (pU rfl) (yp (pExt rfl rfl) (yp (pExt rfl rfl) (yp (pI rfl) (yp (pB rfl) (zf (za (ze (z8 (yp (pB rfl) (yp (pB rfl) (Z0 rfl (Z0 rfl (Z0 rfl (yp (zM rfl rfl) (zf (za (zH rfl (ze (z8 (yp pC (zf (za (zJ (zV ?_))))))))))))))))))))))));exact zI (rI rfl) ⟨_, .of, by rw [if_pos (.inl rfl)], rfl⟩
 | false =>
  refine yp (pU rfl) (yp (pExt rfl rfl) (yp (pExt rfl rfl) (yp (pI rfl) (yp (pB rfl) (zf (za (ze (z8 (yp (pB rfl) (yp (pB rfl) (zZ rfl (Zb (pT rfl) (zZ rfl ?_)))))))))))));refine zk (VU Y hY) rfl rfl fun r S' h => ?_
  obtain ⟨rfl, rfl⟩ := h;cases hv : vG Y with
  | false =>
   refine zZ rfl (Zb (Zi rfl) (yp (zS rfl rfl) (zf (za (zH rfl (ze (z8 (yp pC (zf (za (zJ (zV ?_))))))))))));exact zI (rI rfl) ⟨_, .of, by rw [if_pos (.inr rfl)], rfl⟩
  | true =>
   refine zZ rfl (Zb (Zi rfl) (yp (zS rfl rfl) (zf (za (zA rfl (zu (za (ze (z8 (yp (pT rfl) (yp (uE rfl) ?_)))))))))));rw [qz];refine yp (Vy rfl rfl (by omega)) ?_;refine zh (zk (xW (8 + (Y.length : Int))) rfl rfl fun r S' h => ?_);obtain ⟨rfl, rfl⟩ := h;refine yp (pI rfl) (zf (za (zJ ?_)));exact zI (rI rfl) ⟨_, .of, by rw [if_neg (by simp)], rfl⟩
end Go.Proofs.YtejmbmenbailmaaGreat
namespace Go.Proofs.YtejmbmenbailmaaGreat
open Go.Xs
open Enc (enc)
theorem nA {E : Env} {x y : Operand} {a s : Nat} (h1 : ev E x = .int .i64 (a : Int)) (h2 : ev E y = .int .i64 (s : Int)) (hs : s ≤ 64) (h : a * 2 ^ s < 2 ^ 63) : zl (ev E) (.bin .shl x y) = some (.int .i64 ((a * 2 ^ s : Nat) : Int)) := by
 have hm : Nat.min ((s : Int).toNat) IntKind.i64.bits = s := by show Nat.min s 64 = s; exact Nat.min_eq_left hs
 have e : (a : Int) * 2 ^ s = ((a * 2 ^ s : Nat) : Int) := by push_cast; rfl
 simp only [zl, h1, h2, Ws, vF, hm, e];rw [wrap_i64 (by have : ((a * 2 ^ s : Nat) : Int) < ((2 ^ 63 : Nat) : Int) := Int.ofNat_lt.2 h; omega)];simp
theorem Bq {E : Env} {x y : Operand} {a b : Nat} (h1 : ev E x = .int .i64 (a : Int)) (h2 : ev E y = .int .i64 (b : Int)) (h : (a ||| b) < 2 ^ 63) (ha : a < 2 ^ 63) (hb : b < 2 ^ 63) : zl (ev E) (.bin .or x y) = some (.int .i64 ((a ||| b : Nat) : Int)) := by
 have e : uj .or .i64 (a : Int) (b : Int) = ((a ||| b : Nat) : Int) := by
  unfold uj;simp only;have e1 : (BitVec.ofInt IntKind.i64.bits (a : Int) ||| BitVec.ofInt IntKind.i64.bits (b : Int)).toNat = a ||| b := by
   show (BitVec.ofInt 64 (a : Int) ||| BitVec.ofInt 64 (b : Int)).toNat = a ||| b;rw [BitVec.toNat_or, BitVec.toNat_ofInt, BitVec.toNat_ofInt];congr 1
   ·omega
   ·omega
  rw [e1, wrap_i64 (by omega)]
 simp [zl, h1, h2, Ws, vF, e]
theorem dM {a b i : Nat} (h : a < 2 ^ i) : a ||| (b * 2 ^ i) = a + b * 2 ^ i := by
 rw [Nat.or_comm, Nat.mul_comm b, ← Nat.two_pow_add_eq_or_of_lt h b, Nat.add_comm]
theorem yI {L : List Nm} {i : Int} {e : Nm} (h : yV L i = some e) : ∃ j, VA i L = some j ∧ L[j]? = some e ∧ e.id = i := by
 unfold yV at h;cases hx : VA i L with
 | none => rw [hx] at h; cases h
 | some j =>
  obtain ⟨e', h1, h2⟩ := uW hx;rw [hx] at h;simp only [Option.bind_some, h1] at h;obtain rfl := Option.some.inj h;exact ⟨j, rfl, h1, h2⟩
theorem jH {L : List Nm} {i : Int} (h : yV L i = none) : VA i L = none := by
 unfold yV at h;cases hx : VA i L with
 | none => rfl
 | some j =>
  obtain ⟨e', h1, h2⟩ := uW hx;rw [hx] at h;simp only [Option.bind_some, h1] at h;cases h
theorem YN (L : List Nm) (i : Int) : ((WE L i).map Vv.vv).getD (.bool false) = .bool (yV L i).isSome := by
 cases hb : yV L i with
 | none => unfold WE; rw [jH hb]; rfl
 | some e => obtain ⟨j, h1, _, _⟩ := yI hb; unfold WE; rw [h1]; rfl
theorem Ke {L : List Nm} {i : Int} {e : Nm} (h : yV L i = some e) : e ∈ L ∧ e.id = i := by
 obtain ⟨j, _, h2, h3⟩ := yI h;exact ⟨List.mem_of_getElem? h2, h3⟩
/-- the first eight bytes of a name's block, the others -/
theorem ak {D : List (Option Bt)} {i : Int} {u : Nat} {n : Bs} (h : Zh D i = some (V4 u ++ n)) : ZL D i 0 8 = 0 ∧ UA D i 0 8 = V4 u := by
 have hl : (V4 u ++ n).length = 8 + n.length := by rw [List.length_append, ZC]
 have hp : ZL D i 0 8 = 0 := by unfold ZL; rw [h]; exact if_neg (by omega)
 refine ⟨hp, ?_⟩;unfold UA;rw [if_pos hp, h];show ((V4 u ++ n).drop 0).take 8 = V4 u;rw [List.drop_zero, ← ZC u, List.take_left]
theorem aj {D : List (Option Bt)} {i : Int} {u : Nat} {n : Bs} (h : Zh D i = some (V4 u ++ n)) : ZL D i 8 (n.length : Int) = 0 ∧ UA D i 8 (n.length : Int) = n := by
 have hl : (V4 u ++ n).length = 8 + n.length := by rw [List.length_append, ZC]
 have hp : ZL D i 8 (n.length : Int) = 0 := by unfold ZL; rw [h]; exact if_neg (by omega)
 refine ⟨hp, ?_⟩;unfold UA;rw [if_pos hp, h];show ((V4 u ++ n).drop 8).take (n.length : Int).toNat = n;have : (V4 u ++ n).drop 8 = n := by
  have := List.drop_left (l₁ := V4 u) (l₂ := n);rw [ZC] at this; exact this
 rw [this, Int.toNat_natCast, List.take_length]
theorem bE {tb ab N : Nat} {D : List (Option Bt)} {H : List Chunk} {L : List Nm} {T : List Chunk} {B : List (Int × Bs)} (hT : Tb tb ab L T) (hA : Ar ab N D H) (hI : WQ D L B) (i : Int) : zP Tryz.prog 105 #[.pointer (some ⟨tb, 0, none⟩), .int .i64 i] [T, H]
 (fun r S => r = .int .i64 (((yV L i).map (·.u)).getD 0 : Nat) ∧ S = [T, H]) := by
 obtain ⟨ib, lb, HI, HG, hMI, hMG, rfl⟩ := hT;refine zP.forget (zP.perm (S := [wU tb ab ib lb, HI, HG, H]) (by simp) (zm Tryz.DK (Nat.le_of_ble_eq_true rfl) ?_));unfold Tryz.AB;have hback : ∀ {S' : zo}, zC S' [wU tb ab ib lb, HI, HG, H] → zC S' [wU tb ab ib lb ++ HI ++ HG, H] := fun h => h.trans ⟨[], by simp⟩
 refine ze (z8 (yp pC (zf (za (ze (ze (z8 (yp (pP rfl) ?_))))))));refine zh (zk (ku (tb := tb) (ab := ab) (ib := ib) (lb := lb)) rfl rfl fun r S' h => ?_);obtain ⟨rfl, rfl⟩ := h;refine yp (pB rfl) (zZ rfl (Zb (pP rfl) (zZ rfl (Zb (zG rfl) (zZ rfl (Zb (zn rfl) (zZ rfl ?_)))))));refine (zB rfl rfl ?_);refine zZ rfl (Zb (pI rfl) (zZ rfl (Vj hMG (by simp) i kr kg Xh rfl rfl (YN L i) ?_)));cases hb : yV L i with
 | none =>
  refine zZ rfl (Zb (Zi rfl) (yp (zS rfl rfl) (zf (za (zH rfl (ze (z8 (yp pC (zf (za (zJ (zV ?_))))))))))));exact zI (rI rfl) ⟨_, hback .of, rfl, rfl⟩
 | some e =>
  obtain ⟨hem, rfl⟩ := Ke hb;have hblk := hI.blk e hem;have hu := hI.us e hem;obtain ⟨hp8, hr8⟩ := ak hblk;refine zZ rfl (Zb (Zi rfl) (yp (zS rfl rfl) (zf (za (zA rfl (zu (za (ze (z8 (yp (pP rfl) (yp (zG rfl) (yp (zn rfl) ?_))))))))))));refine zh (zB rfl rfl ?_);refine yp (pI rfl) ?_;refine zh (zk (JV hA e.id 0 8) rfl rfl fun r S' h => ?_);obtain ⟨v, Ho, rfl, hLo, rfl⟩ := h;rw [hp8];rw [hr8] at hLo;obtain ⟨va, vc, rfl⟩ := hLo.isSlice;have hl8 := ZC e.u;rw [hl8] at hLo;rw [hl8];refine yp (pU rfl) (yp (pExt rfl rfl) (yp (pExt rfl rfl) (yp (pS rfl) (yp (pI rfl) (zf (za (ze (z8 (yp pC (zf (za (ze (ze (z8 (yp (pS rfl) (yp (ZP rfl) (yp pC (zf (za (zw ?_))))))))))))))))))));refine Z9 (σ := Nat) (fun k E S => Has E [(7, .int .i64 ((e.u % 2 ^ (8 * k) : Nat) : Int)), (30, .slice va 8 vc), (31, .int .i64 8), (32, .int .i64 (k : Int))] ∧ k ≤ 8 ∧ zC S [Ho, wU tb ab ib lb, HI, HG, H]) (fun k => 8 - k) 0 ⟨⟨by rw [Nat.mul_zero, Nat.pow_zero, Nat.mod_one]; rfl, rfl, rfl, rfl, trivial⟩, Nat.zero_le _, .of⟩ fun k E S ⟨hE, hk, hJ⟩ => ?_
  obtain ⟨E0, e0⟩ := zy hE; subst e0; clear hE;refine zq hJ (ze (z8 (yp (ZO rfl rfl) (zf (za (ze ?_))))));refine zQ rfl (fun h => ?_) (fun h => ?_)
  ·have hlt : k < 8 := by omega
   have hg := Q6 e.u k hlt;have hkl : k < (V4 e.u).length := by omega
   obtain ⟨b, sp, fz, hz, hae, _, hce, rfl⟩ := hLo.at' (by intro h; rw [h] at hl8; simp at hl8);subst hae;have hld : ((cells (V4 e.u ++ sp)).toArray.toList)[0 + k * 1 + 0]? = some (.int .u8 ((UInt8.ofNat (e.u / 2 ^ (8 * k))).toNat : Int)) := (wB (kk := 1) (j := 0) hkl rfl (by omega)).trans (by rw [List.getElem?_eq_getElem hkl] at hg; rw [Option.some.inj hg]; rfl);have hby : (UInt8.ofNat (e.u / 2 ^ (8 * k))).toNat = e.u / 2 ^ (8 * k) % 256 := by simp
   have hmod : e.u % 2 ^ (8 * (k + 1)) = e.u % 2 ^ (8 * k) + e.u / 2 ^ (8 * k) % 256 * 2 ^ (8 * k) := by
    have e1 : 2 ^ (8 * (k + 1)) = 2 ^ (8 * k) * 256 := by rw [show 8 * (k + 1) = 8 * k + 8 from by omega, Nat.pow_add]
    rw [e1, Nat.mod_mul, Nat.mul_comm (e.u / 2 ^ (8 * k) % 256)]
   have hsm : e.u % 2 ^ (8 * (k + 1)) < 2 ^ 60 := Nat.lt_of_le_of_lt (Nat.mod_le _ _) hu;have hlt2 : e.u % 2 ^ (8 * k) < 2 ^ (8 * k) := Nat.mod_lt _ (Nat.pow_pos (by decide));have hor := dM (b := e.u / 2 ^ (8 * k) % 256) hlt2;rw [← hmod] at hor;have hpr : e.u / 2 ^ (8 * k) % 256 * 2 ^ (8 * k) ≤ e.u % 2 ^ (8 * (k + 1)) := by rw [hmod]; exact Nat.le_add_left _ _
   have hpl : e.u % 2 ^ (8 * k) ≤ e.u % 2 ^ (8 * (k + 1)) := by rw [hmod]; exact Nat.le_add_right _ _
   refine zu (za (ze (zw (ze (z8 (yp (pI rfl) (yp (zU rfl rfl (by omega)) ?_)))))));refine zh (zB (v := .int .u8 ((UInt8.ofNat (e.u / 2 ^ (8 * k))).toNat : Int)) rfl hld ?_);refine yp (pI rfl) (yp (pI rfl) (zf (za (z8 (yp (pI rfl) (yp (pI rfl) (yp (l9 rfl) ?_)))))));rw [hby];refine yp (pI rfl) (yp (UG (j := 8) (k := k) rfl rfl (by omega)) (yp (nA rfl rfl (by omega) (by omega)) (yp (Bq rfl rfl (by rw [hor]; omega) (by omega) (by omega)) ?_)));rw [hor];refine yp (pI rfl) (zf (zT (za (z8 (yp (Zg rfl rfl (by omega)) (yp (pI rfl) (zf (za ?_))))))));exact ⟨k + 1, ⟨⟨rfl, rfl, rfl, rfl, trivial⟩, by omega, .of⟩, by omega⟩
  ·have hk8 : k = 8 := by omega
   subst hk8;have hmodu : e.u % 2 ^ (8 * 8) = e.u := Nat.mod_eq_of_lt (by omega);rw [hmodu];refine Z4 (zF (zF (Z5 (za (ze (z8 (yp (pI rfl) (yp (pI rfl) (zf (za (zJ ?_)))))))))));exact zI (rI rfl) ⟨_, hback .of, rfl, rfl⟩
theorem J8 {tb ab N : Nat} {D : List (Option Bt)} {H : List Chunk} {L : List Nm} {T : List Chunk} {B : List (Int × Bs)} (hT : Tb tb ab L T) (hA : Ar ab N D H) (hI : WQ D L B) (i : Int) : zP Tryz.prog 110 #[.pointer (some ⟨tb, 0, none⟩), .int .i64 i] [T, H]
 (fun r S => r = .tuple #[sv (((yV L i).map (·.n)).getD []), .bool (yV L i).isSome] ∧ S = [T, H]) := by
 obtain ⟨ib, lb, HI, HG, hMI, hMG, rfl⟩ := hT;refine zP.forget (zP.perm (S := [wU tb ab ib lb, HI, HG, H]) (by simp) (zm Tryz.Dz (Nat.le_of_ble_eq_true rfl) ?_));unfold Tryz.Au;have hback : ∀ {S' : zo}, zC S' [wU tb ab ib lb, HI, HG, H] → zC S' [wU tb ab ib lb ++ HI ++ HG, H] := fun h => h.trans ⟨[], by simp⟩
 refine ze (z8 (yp pC (yp pC (zf (za (ze (ze (z8 (yp (pP rfl) ?_)))))))));refine zh (zk (ku (tb := tb) (ab := ab) (ib := ib) (lb := lb)) rfl rfl fun r S' h => ?_);obtain ⟨rfl, rfl⟩ := h;refine yp (pB rfl) (zZ rfl (Zb (pP rfl) (zZ rfl (Zb (zG rfl) (zZ rfl (Zb (zn rfl) (zZ rfl ?_)))))));refine (zB rfl rfl ?_);refine zZ rfl (Zb (pI rfl) (zZ rfl (Vj hMG (by simp) i kr kg Xh rfl rfl (YN L i) ?_)));have rTB : ∀ {E : Env} {S : zo} {t u : Tmp} {s : ByteArray} {b : Bool}, E t = .string s → E u = .bool b → X9 Tryz.prog #[.tmp t, .tmp u] E S (.tuple #[.string s, .bool b]) := fun h1 h2 => res2 h1 h2
 cases hb : yV L i with
 | none =>
  refine zZ rfl (Zb (Zi rfl) (yp (zS rfl rfl) (zf (za (zH rfl (ze (z8 (yp pC (yp pC (zf (za (zJ (zV ?_)))))))))))));exact zI (rTB rfl rfl) ⟨_, hback .of, rfl, rfl⟩
 | some e =>
  obtain ⟨hem, rfl⟩ := Ke hb;have hblk := hI.blk e hem;have hnl := (hA.ok).each;obtain ⟨hpn, hrn⟩ := aj hblk;have hsz : XJ D e.id = (((8 + e.n.length : Nat) : Int), true) := by
   unfold XJ; rw [hblk]; simp only; rw [List.length_append, ZC]
  obtain ⟨q, _, hq⟩ := VH hblk;have h4 := hnl q _ hq;rw [List.length_append, ZC] at h4;refine zZ rfl (Zb (Zi rfl) (yp (zS rfl rfl) (zf (za (zA rfl (zu (za (ze (z8 (yp (pP rfl) (yp (zG rfl) (yp (zn rfl) ?_))))))))))));refine zh (zB rfl rfl ?_);refine yp (pI rfl) ?_;refine zh (zk (gD hA e.id) rfl rfl fun r S' h => ?_);obtain ⟨rfl, rfl⟩ := h;rw [hsz];refine yp (pU rfl) (yp (pExt rfl rfl) (yp (pExt rfl rfl) (yp (pI rfl) (yp (pB rfl) (zf (za (ze (z8 (yp (pP rfl) (yp (zG rfl) (yp (zn rfl) ?_)))))))))));refine zh (zB rfl rfl ?_);refine yp (pI rfl) (yp (pI rfl) (yp (ZH rfl rfl (by omega)) ?_));rw [show ((8 + e.n.length : Nat) : Int) - 8 = (e.n.length : Int) from by omega];refine zh (zk (JV hA e.id 8 (e.n.length : Int)) rfl rfl fun r S' h => ?_);obtain ⟨v, Ho, rfl, hLo, rfl⟩ := h;rw [hpn];rw [hrn] at hLo;obtain ⟨va, vc, rfl⟩ := hLo.isSlice;refine yp (pU rfl) (yp (pExt rfl rfl) (yp (pExt rfl rfl) (yp (pS rfl) (yp (pI rfl) (zf (za (ze (z8 (yp (pS rfl) ?_)))))))));refine zh (Qu rfl (hLo.src (by simp)) ?_);refine yp (pI rfl) (yp (Wi rfl rfl) (yp (pT rfl) (yp (pB rfl) (zf (za (zJ ?_))))));exact zI (rTB rfl rfl) ⟨_, hback .of, rfl, rfl⟩
theorem KX {E : Env} {x y : Operand} {a s : Nat} (h1 : ev E x = .int .i64 (a : Int)) (h2 : ev E y = .int .i64 (s : Int)) (hs : s ≤ 64) : zl (ev E) (.bin .shr x y) = some (.int .i64 ((a / 2 ^ s : Nat) : Int)) := by
 rw [dD h1 h2 (by omega)];have hm : Nat.min ((s : Int).toNat) IntKind.i64.bits = s := by show Nat.min s 64 = s; exact Nat.min_eq_left hs
 rw [hm, Int.fdiv_eq_ediv_of_nonneg _ (by exact Int.pow_nonneg (by decide))];congr 2
theorem Bv {E : Env} {x : Operand} {a : Nat} (h1 : ev E x = .int .i64 (a : Int)) : zl (ev E) (.conv .u8 x) = some (.int .u8 ((UInt8.ofNat a).toNat : Int)) := by
 rw [pO h1, XI];have : (UInt8.ofNat a).toNat = a % 256 := by simp
 rw [this]; congr 2
def yL (n k : Nat) : Bs := (V4 n).take k ++ List.replicate (8 - k) 0
theorem jK {n k : Nat} (h : k ≤ 8) : (yL n k).length = 8 := by simp [yL, ZC]; omega
theorem gu (n : Nat) : yL n 8 = V4 n := by
 unfold yL;rw [List.take_of_length_le (by rw [ZC]; exact Nat.le_refl _)]; simp
theorem gq {n k : Nat} (h : k < 8) : (yL n k).set k (UInt8.ofNat (n / 2 ^ (8 * k))) = yL n (k + 1) := by
 refine List.ext_getElem? fun j => ?_
 have hg := Q6 n k h;have hl := ZC n;have hget : ∀ k j, k ≤ 8 → (yL n k)[j]? = if j < k then (V4 n)[j]? else if j < 8 then some 0 else none := fun k j hk => by
  unfold yL;rw [List.getElem?_append, List.length_take, hl, Nat.min_eq_left hk, List.getElem?_take, List.getElem?_replicate];by_cases h1 : j < k
  ·rw [if_pos h1, if_pos h1, if_pos h1]
  ·rw [if_neg h1, if_neg h1];by_cases h2 : j < 8
   ·rw [if_pos h2, if_pos (by omega)]
   ·rw [if_neg h2, if_neg (by omega)]
 rw [List.getElem?_set, hget _ _ (by omega), hget _ _ (by omega), jK (by omega)];by_cases hj : k = j
 ·subst hj;rw [if_pos rfl, if_pos h, if_pos (by omega), hg]
 ·rw [if_neg hj];by_cases h1 : j < k
  ·rw [if_pos h1, if_pos (by omega)]
  ·rw [if_neg h1, if_neg (show ¬ j < k + 1 from by omega)]
theorem JR {D : List (Option Bt)} {i : Int} {u v : Nat} {n : Bs} (h : Zh D i = some (V4 u ++ n)) : ZL D i 0 ((V4 v).length : Nat) = 0 ∧ VN D i 0 (V4 v) = D.set (i - 1).toNat (some (V4 v ++ n)) := by
 have hl : (V4 u ++ n).length = 8 + n.length := by rw [List.length_append, ZC]
 have hl8 := ZC v;have hp : ZL D i 0 ((V4 v).length : Nat) = 0 := by unfold ZL; rw [h]; exact if_neg (by omega)
 refine ⟨hp, ?_⟩;unfold VN;rw [if_pos hp, h];refine congrArg (fun z => D.set (i - 1).toNat (some z)) ?_;show spl (V4 u ++ n) 0 (V4 v) = _;unfold spl;have : (V4 u ++ n).drop 8 = n := by
  have := List.drop_left (l₁ := V4 u) (l₂ := n);rw [ZC] at this; exact this
 rw [List.take_zero, hl8, Nat.zero_add, this]; rfl
set_option maxRecDepth 10000 in
theorem mV {tb ab ib lb N : Nat} {D : List (Option Bt)} {H : List Chunk} (hA : Ar ab N D H) {i : Int} {u : Nat} {n : Bs} (hb : Zh D i = some (V4 u ++ n)) (v : Nat) (_hv : v < 2 ^ 60) : zP Tryz.prog 104 #[.pointer (some ⟨tb, 0, none⟩), .int .i64 i, .int .i64 (v : Int)] [wU tb ab ib lb, H]
 (fun r S => r = .tuple #[] ∧ ∃ H', Ar ab N (D.set (i - 1).toNat (some (V4 v ++ n))) H' ∧ S = [wU tb ab ib lb, H']) := by
 refine zP.forget (zm Tryz.DL (Nat.le_of_ble_eq_true rfl) ?_);unfold Tryz.x104;have hz8 : ([.int .u8 0, .int .u8 0, .int .u8 0, .int .u8 0, .int .u8 0, .int .u8 0, .int .u8 0, .int .u8 0] : List Value) = cells (yL v 0) := rfl;rw [hz8];refine ze (z8 ?_);refine zh (Ze fun p6 => ?_);refine zf (za (ze (ze (z8 (yp pC (zf (za (zw ?_))))))));refine Z9 (σ := Nat) (fun k E S => Has E [(0, .pointer (some ⟨tb, 0, none⟩)), (1, .int .i64 i), (2, .int .i64 (v : Int)), (6, .pointer (some ⟨p6, 0, none⟩)), (8, .int .i64 (k : Int))] ∧ k ≤ 8 ∧ zC S [[(p6, .cells (cells (yL v k)).toArray 204)], wU tb ab ib lb, H]) (fun k => 8 - k) 0 ⟨⟨rfl, rfl, rfl, rfl, rfl, trivial⟩, Nat.zero_le _, .of⟩ fun k E S ⟨hE, hk, hJ⟩ => ?_
 have hal := jK (n := v) hk;obtain ⟨E0, e0⟩ := zy hE; subst e0; clear hE;refine zq hJ (ze (z8 (yp (ZO rfl rfl) (zf (za (ze ?_))))));refine zQ rfl (fun h => ?_) (fun h => ?_)
 ·have hlt : k < 8 := by omega
  refine zu (za (ze (zw (ze (z8 (yp (pI rfl) (yp (pI rfl) (zf (za (z8 (yp (pI rfl) (yp (pI rfl) (yp (pI rfl) (yp (UG (j := 8) (k := k) rfl rfl (by omega)) (yp (KX rfl rfl (by omega)) (yp (Bv rfl) (yp (Ip (k := (k : Int)) rfl rfl (by omega)) ?_)))))))))))))))));rw [Int.toNat_natCast];refine zh (Zj (M := yL v k) (i := k) (y := UInt8.ofNat (v / 2 ^ (8 * k))) rfl (by omega) rfl rfl (.inl rfl) ?_);rw [gq hlt];refine zf (zT (za (z8 (yp (Zg rfl rfl (by omega)) (yp (pI rfl) (zf (za ?_)))))));exact ⟨k + 1, ⟨⟨rfl, rfl, rfl, rfl, rfl, trivial⟩, by omega, .of⟩, by omega⟩
 ·have hk8 : k = 8 := by omega
  subst hk8;rw [gu];obtain ⟨hp, hw⟩ := JR (v := v) hb;refine Z4 (zF (zF (Z5 (za (zX (zi (pP rfl) (zi (zG rfl) (zi (zn rfl) (Z7 rfl rfl (zi (pI rfl) (zi (v := .slice (some ⟨p6, 0, none⟩) 8 8) rfl ?_)))))))))));refine zN (zk (Ki (S0 := [[(p6, .cells (cells (V4 v)).toArray 204)]]) hA i 0 (Y := V4 v) (.EX List.mem_cons_self (ZC v).symm) (by rw [ZC]; decide)) rfl rfl fun r S' h => ?_) zO;obtain ⟨rfl, H2, hA2, rfl⟩ := h;rw [hw] at hA2;refine zL ?_;exact ZW w9 ⟨_, .of, rfl, H2, hA2, rfl⟩
end Go.Proofs.YtejmbmenbailmaaGreat
namespace Go.Proofs.YtejmbmenbailmaaGreat
open Go.Xs
open Enc (enc)
/-- which blocks there are, and how big -/
def aI (D : List (Option Bt)) : List (Option Nat) := D.map (Option.map List.length)
theorem Xo {D : List (Option Bt)} {h : Int} {b Y : Bt} (hg : Zh D h = some b) (hl : Y.length = b.length) : aI (D.set (h - 1).toNat (some Y)) = aI D := by
 obtain ⟨j, rfl, hj⟩ := VH hg;rw [show ((j : Int) + 1 - 1).toNat = j from by omega];unfold aI;refine List.ext_getElem? fun i => ?_
 rw [List.getElem?_map, List.getElem?_map, List.getElem?_set];split
 ·next h => subst h; rw [if_pos (List.getElem?_eq_some_iff.1 hj).1, hj]; simp [hl]
 ·rfl
/-! ### small letters once and again -/
theorem lI (b : UInt8) : low (low b) = low b := by
 unfold low;by_cases h : 65 ≤ b.toNat ∧ b.toNat ≤ 90
 ·rw [if_pos h];have : (UInt8.ofNat (b.toNat + 32)).toNat = (b.toNat + 32) % 256 := by simp
  rw [if_neg (by rw [this]; omega)]
 ·rw [if_neg h, if_neg h]
theorem Q7 : ∀ (f : Nat) (Y : Bs) (a : Nat), Xe f (Y.map low) a = Xe f Y a
 | 0, _, _ => rfl
 | f + 1, Y, a => by
  unfold Xe;rw [List.getElem?_map];cases hy : Y[a]? with
  | none => rfl
  | some b =>
   simp only [Option.map_some];have hlow : (low b).toNat = b.toNat ∨ (63 < (low b).toNat ∧ 63 < b.toNat) := by
    unfold low;by_cases h : 65 ≤ b.toNat ∧ b.toNat ≤ 90
    ·rw [if_pos h];have : (UInt8.ofNat (b.toNat + 32)).toNat = (b.toNat + 32) % 256 := by simp
     right; omega
    ·rw [if_neg h]; exact .inl rfl
   by_cases h1 : 255 ≤ a
   ·rw [if_pos h1, if_pos h1]
   ·rw [if_neg h1, if_neg h1];rcases hlow with h | ⟨h2, h3⟩
    ·rw [h, Q7 f Y]
    ·rw [if_neg (show ¬ (low b).toNat = 0 from by omega), if_pos h2, if_neg (show ¬ b.toNat = 0 from by omega), if_pos h3]
theorem qw (Y : Bs) : vG (Y.map low) = vG Y := by
 unfold vG lead;rw [Q7, List.length_map]
theorem Vw (Y : Bs) : vG (zx Y) = vG Y := by
 unfold zx;split
 ·exact qw Y
 ·rfl
theorem xP (Y : Bs) : zx (zx Y) = zx Y := by
 unfold zx;by_cases h : vG Y = true
 ·rw [if_pos h, if_pos (by rw [qw]; exact h), List.map_map];exact List.map_congr_left fun b _ => lI b
 ·rw [if_neg h, if_neg h]
/-! ### Add -/
def Wx (N : Nat) (D : List (Option Bt)) (L : List Nm) (Y : Bs) : Int := if vG Y = false then 2 else if (V8 L (zx Y)).isSome then 0 else ZA N D (8 + (Y.length : Int))
def ZG (D : List (Option Bt)) (L : List Nm) (n : Bs) : List Nm := match Vo n L with
 | some j => (match L[j]? with | some e => reuse L j e (e.u + 1) | none => L)
 | none => L ++ [⟨((hnd D : Nat) : Int), n, 1⟩]
def uN (D : List (Option Bt)) (L : List Nm) (n : Bs) : Int := ((V8 L n).map (·.id)).getD ((hnd D : Nat) : Int)
def Wy (D : List (Option Bt)) (L : List Nm) (n : Bs) : List (Option Bt) := if (V8 L n).isSome then D else ZB D (8 + n.length)
theorem vw {L : List Nm} {n : Bs} {e : Nm} (h : V8 L n = some e) : ∃ j, Vo n L = some j ∧ L[j]? = some e ∧ e.n = n := by
 unfold V8 at h;cases hx : Vo n L with
 | none => rw [hx] at h; cases h
 | some j =>
  obtain ⟨e', h1, h2⟩ := UL hx;rw [hx] at h;simp only [Option.bind_some, h1] at h;obtain rfl := Option.some.inj h;exact ⟨j, rfl, h1, h2⟩
theorem Ww {L : List Nm} {n : Bs} (h : V8 L n = none) : Vo n L = none := by
 unfold V8 at h;cases hx : Vo n L with
 | none => rfl
 | some j =>
  obtain ⟨e', h1, h2⟩ := UL hx;rw [hx] at h;simp only [Option.bind_some, h1] at h;cases h
/-- a name's uses change, in the arena and in the list -/
theorem WQ.reuse {D : List (Option Bt)} {L : List Nm} {B : List (Int × Bs)} (h : WQ D L B) {j : Nat} {e : Nm} {v : Nat} (he : L[j]? = some e) (hv : v < 2 ^ 60) : WQ (D.set (e.id - 1).toNat (some (V4 v ++ e.n))) (reuse L j e v) B := by
 have hem := List.mem_of_getElem? he;have hb := h.blk e hem;refine ⟨h.dis.reuse he, fun x hx => ?_, fun x hx => ⟨?_, fun y hy => ?_⟩, fun i b hib => ?_, fun x hx => ?_, fun x hx => ?_⟩
 ·rw [Wu hb];obtain ⟨i, hi⟩ := List.mem_iff_getElem?.1 hx;unfold Proofs.YtejmbmenbailmaaGreat.reuse at hi;rw [List.getElem?_set] at hi;split at hi
  ·next hij =>
   subst hij;rw [if_pos (List.getElem?_eq_some_iff.1 he).1] at hi;obtain rfl := (Option.some.inj hi).symm;rw [if_pos rfl]
  ·next hij =>
   have hne : x.id ≠ e.id := fun h2 => by
    have h3 : (L.map (·.id))[i]? = some e.id := by rw [List.getElem?_map, hi, Option.map_some, h2]
    have h4 : (L.map (·.id))[j]? = some e.id := by rw [List.getElem?_map, he, Option.map_some]
    exact hij ((List.getElem?_inj (List.getElem?_eq_some_iff.1 h3).1 h.dis.ids).1 (h3.trans h4.symm)).symm
   rw [if_neg hne];exact h.blk x (List.mem_of_getElem? hi)
 ·rw [Wu hb, if_neg fun h2 => (h.oth x hx).2 e hem h2.symm]; exact (h.oth x hx).1
 ·obtain ⟨z, hz, h2, _⟩ := VD he hy;rw [← h2]; exact (h.oth x hx).2 z hz
 ·rw [Wu hb] at hib;have hin : ∀ y ∈ L, y.id = i → ∃ x ∈ Proofs.YtejmbmenbailmaaGreat.reuse L j e v, x.id = i := fun y hy hyi => by
   obtain ⟨x, hx, h2, _⟩ := WH (u := v) he hy;exact ⟨x, hx, h2.trans hyi⟩
  by_cases h2 : i = e.id
  ·exact .inl (hin e hem h2.symm)
  ·rw [if_neg h2] at hib;rcases h.all i b hib with ⟨y, hy, hyi⟩ | hx
   ·exact .inl (hin y hy hyi)
   ·exact .inr hx
 ·unfold Proofs.YtejmbmenbailmaaGreat.reuse at hx;rcases List.mem_or_eq_of_mem_set hx with hx | rfl
  ·exact h.us x hx
  ·exact hv
 ·obtain ⟨y, hy, _, h2⟩ := VD he hx;rw [← h2]; exact h.fold y hy
/-- a new name, not yet used -/
theorem WQ.new {D : List (Option Bt)} {L : List Nm} {B : List (Int × Bs)} (h : WQ D L B) {n : Bs} (hn : Vo n L = none) (hv : vG n = true) (hf : zx n = n) :
 WQ ((ZB D (8 + n.length)).set (hnd D - 1) (some (V4 0 ++ n))) (L ++ [⟨((hnd D : Nat) : Int), n, 0⟩]) B := by
 have hno : Zh D ((hnd D : Nat) : Int) = none := by
  have := WZ D;have hp := wH D;rw [show ((hnd D : Nat) : Int) = ((hnd D - 1 : Nat) : Int) + 1 from by omega, Zy]; exact this
 have hid : ∀ x ∈ L, x.id ≠ ((hnd D : Nat) : Int) := fun x hx e => by
  have := h.blk x hx;rw [e, hno] at this; cases this
 have hg := wO D (8 + n.length);have hidx : (((hnd D : Nat) : Int) - 1).toNat = hnd D - 1 := by have := wH D; omega
 have hset := fun k => Wu (Y := V4 0 ++ n) hg k
 rw [hidx] at hset;refine ⟨h.dis.add hid (vX hn), fun x hx => ?_, fun x hx => ?_, fun i b hib => ?_, fun x hx => ?_, fun x hx => ?_⟩
 ·rw [hset];rcases List.mem_append.1 hx with hx | hx
  ·rw [if_neg (hid x hx), Zu (hid x hx)]; exact h.blk x hx
  ·rw [List.mem_singleton.1 hx, if_pos rfl]
 ·obtain ⟨h1, h2⟩ := h.oth x hx;have hne : x.1 ≠ ((hnd D : Nat) : Int) := fun e => by rw [e, hno] at h1; cases h1
  refine ⟨?_, fun e he => ?_⟩
  ·rw [hset, if_neg hne, Zu hne]; exact h1
  ·rcases List.mem_append.1 he with he | he
   ·exact h2 e he
   ·rw [List.mem_singleton.1 he]; exact fun h3 => hne h3.symm
 ·rw [hset] at hib;by_cases h2 : i = ((hnd D : Nat) : Int)
  ·exact .inl ⟨⟨((hnd D : Nat) : Int), n, 0⟩, by simp, h2.symm⟩
  ·rw [if_neg h2, Zu h2] at hib;rcases h.all i b hib with ⟨y, hy, hyi⟩ | hx
   ·exact .inl ⟨y, List.mem_append.2 (.inl hy), hyi⟩
   ·exact .inr hx
 ·rcases List.mem_append.1 hx with hx | hx
  ·exact h.us x hx
  ·rw [List.mem_singleton.1 hx]; exact Nat.pow_pos (by decide)
 ·rcases List.mem_append.1 hx with hx | hx
  ·exact h.fold x hx
  ·rw [List.mem_singleton.1 hx]; exact ⟨hv, hf⟩
theorem Tb.reuse {tb ab : Nat} {L : List Nm} {T : List Chunk} (h : Tb tb ab L T) (hd : xw L) {j : Nat} {e : Nm} {v : Nat} (he : L[j]? = some e) : Tb tb ab (reuse L j e v) T := by
 obtain ⟨ib, lb, HI, HG, h1, h2, rfl⟩ := h;refine ⟨ib, lb, HI, HG, ?_, ?_, rfl⟩
 ·rw [JB hd he]; unfold Proofs.YtejmbmenbailmaaGreat.reuse; rw [List.length_set]; exact h1
 ·rw [jO he]; unfold Proofs.YtejmbmenbailmaaGreat.reuse; rw [List.length_set]; exact h2
end Go.Proofs.YtejmbmenbailmaaGreat
namespace Go.Proofs.YtejmbmenbailmaaGreat
open Go.Xs
open Enc (enc)
theorem QT {Y : Bs} (h : vG Y = true) : vG (zx Y) = true ∧ zx (zx Y) = zx Y := ⟨by rw [Vw]; exact h, xP Y⟩
set_option maxRecDepth 10000 in
set_option maxHeartbeats 1000000 in
theorem AO {tb ab N : Nat} {D : List (Option Bt)} {H : List Chunk} {L : List Nm} {T : List Chunk} {B : List (Int × Bs)} (hT : Tb tb ab L T) (hA : Ar ab N D H) (hI : WQ D L B) (hu : ∀ e ∈ L, e.u + 1 < 2 ^ 60) (Y : Bs) (hY : Y.length < 2 ^ 62) :
 zP Tryz.prog 59 #[.pointer (some ⟨tb, 0, none⟩), sv Y] [T, H] (fun r S =>
  (Wx N D L Y ≠ 0 ∧ r = .tuple #[.int .i64 0, .int .i64 (Wx N D L Y)] ∧ S = [T, H]) ∨
  (Wx N D L Y = 0 ∧ ∃ (T' H' : List Chunk) (D' : List (Option Bt)), r = .tuple #[.int .i64 (uN D L (zx Y)), .int .i64 0] ∧ Tb tb ab (ZG D L (zx Y)) T' ∧ Ar ab N D' H' ∧ WQ D' (ZG D L (zx Y)) B ∧ aI D' = aI (Wy D L (zx Y)) ∧ S = [T', H'])) := by
 obtain ⟨ib, lb, HI, HG, hMI, hMG, rfl⟩ := hT;refine zP.forget (zP.perm (S := [wU tb ab ib lb, HI, HG, H]) (by simp) (zm Tryz.FQ (Nat.le_of_ble_eq_true rfl) ?_));unfold Tryz.Hg;have hback : ∀ {S' : zo}, zC S' [wU tb ab ib lb, HI, HG, H] → zC S' [wU tb ab ib lb ++ HI ++ HG, H] := fun h => h.trans ⟨[], by simp⟩
 refine ze (z8 (yp pC (yp pC (zf (za (ze (zw (ze (z8 (yp (pT rfl) ?_))))))))));refine zh (zk (VU Y hY) rfl rfl fun r S' h => ?_);obtain ⟨rfl, rfl⟩ := h;cases hv : vG Y with
 | false =>
  have hE : Wx N D L Y = 2 := by unfold Wx; rw [if_pos hv]
  refine yp (Zi rfl) (yp (pB rfl) (zf (za (zH rfl (ze (z8 (yp pC (yp pC (zf (za (zJ (bret (zV ?_)))))))))))));exact zI (KW rfl rfl) ⟨_, hback .of, .inl ⟨by rw [hE]; decide, by rw [hE], rfl⟩⟩
 | true =>
 obtain ⟨hvn, hfn⟩ := QT hv;have hfl := wS Y;have h255 := Wt hv;refine yp (Zi rfl) (yp (pB rfl) (zf (za (zA rfl (ze (z8 (yp (pP rfl) ?_)))))));refine zh (zk (ku (tb := tb) (ab := ab) (ib := ib) (lb := lb)) rfl rfl fun r S' h => ?_);obtain ⟨rfl, rfl⟩ := h;refine yp (pB rfl) (zf (za (zA rfl (zu (zT (za (ze (z8 (yp (pT rfl) ?_)))))))));refine zh (zk (kW Y hY) rfl rfl fun r S' h => ?_);obtain ⟨rfl, rfl⟩ := h;have hid : uq L ⟨(zx Y).toArray⟩ = (V8 L (zx Y)).map (·.id) := by
  unfold uq V8;cases Vo (zx Y) L <;> rfl
 generalize hn : zx Y = n at *
 refine yp (pT rfl) (zf (za (ze (z8 (yp (pP rfl) (yp (zG rfl) (yp (zn rfl) ?_)))))));refine zh (zB rfl rfl ?_);refine yp (pT rfl) ?_;refine zh (aS (v := .int .i64 (((V8 L n).map (·.id)).getD 0)) (bl := (V8 L n).isSome) hMI (by simp) (⟨n.toArray⟩ : ByteArray) ko xD J2 rfl rfl ?_ ?_ ?_)
 ·rw [hid]; cases V8 L n <;> rfl
 ·rw [hid]; cases V8 L n <;> rfl
 refine yp (pU rfl) (yp (pExt rfl rfl) (yp (pExt rfl rfl) (yp (pI rfl) (yp (pB rfl) (zf (za ?_))))));refine Y7 (fun E S' => ∃ (ib lb : Nat) (L1 : List Nm) (HI HG H1 : List Chunk) (D1 : List (Option Bt)) (j : Nat) (e : Nm), Has E [(0, .pointer (some ⟨tb, 0, none⟩)), (6, .int .i64 e.id)] ∧ Mp ib (uq L1) L1.length HI ∧ Mp lb (WE L1) L1.length HG ∧ Ar ab N D1 H1 ∧ WQ D1 L1 B ∧ L1[j]? = some e ∧ e.u + 1 < 2 ^ 60 ∧
  Wx N D L Y = 0 ∧ e.id = uN D L n ∧ reuse L1 j e (e.u + 1) = ZG D L n ∧ aI D1 = aI (Wy D L n) ∧ zC S' [wU tb ab ib lb, HI, HG, H1]) ?_ ?_
 ·cases hb : V8 L n with
  | some e =>
   obtain ⟨j, h1, h2, h3⟩ := vw hb;have hE : Wx N D L Y = 0 := by unfold Wx; rw [if_neg (by rw [hv]; decide), hn, hb]; rfl
   refine ze (z8 (yp (pB rfl) (yp (Zi rfl) (zf (za (zA rfl (zu (za ?_))))))));refine ⟨ib, lb, L, HI, HG, H, D, j, e, ⟨rfl, rfl, trivial⟩, hMI, hMG, hA, hI, h2, hu e (List.mem_of_getElem? h2), hE, ?_, ?_, ?_, .of⟩
   ·unfold uN; rw [hb]; rfl
   ·unfold ZG; rw [h1]; simp only [h2]
   ·unfold Wy; rw [hb]; rfl
  | none =>
   have h1 := Ww hb;have hEa : Wx N D L Y = ZA N D (8 + (n.length : Int)) := by unfold Wx; rw [if_neg (by rw [hv]; decide), hn, hb, if_neg (by decide), hfl]
   refine ze (z8 (yp (pB rfl) (yp (Zi rfl) (zf (za (zH rfl (ze (z8 (yp (pP rfl) (yp (zG rfl) (yp (zn rfl) ?_)))))))))));refine zh (zB rfl rfl ?_);refine yp (pT rfl) (yp (uE rfl) ?_);rw [qz];refine yp (Vy rfl rfl (by omega)) ?_;refine zh (zk (Kk hA ((8 + n.length : Nat) : Int)) rfl rfl fun r S' h => ?_);rw [show ((8 + n.length : Nat) : Int) = 8 + (n.length : Int) from by omega] at h;rcases h with ⟨he, rfl, rfl⟩ | ⟨he, m, H1, hm, rfl, hA1, rfl⟩
   ·rw [← hEa] at he ⊢;refine yp (pU rfl) (yp (pExt rfl rfl) (yp (pExt rfl rfl) (yp (pI rfl) (yp (pI rfl) (zf (za (ze (ze (z8 (yp (pI rfl) (yp (Xb rfl rfl) (zf (za ?_)))))))))))));refine Vl rfl (fun _ => ?_) (fun h2 => absurd h2 he);refine ze (z8 (yp (pI rfl) (yp pC (yp (pI rfl) (zf (za (zJ (zV (zV ?_)))))))));exact zI (KW rfl rfl) ⟨_, hback .of, .inl ⟨he, rfl, rfl⟩⟩
   obtain rfl : m = 8 + n.length := by omega
   have hnew := hI.new h1 hvn (by rw [← hn]; exact xP Y);have hno : Zh D ((hnd D : Nat) : Int) = none := by
    have := WZ D;have hp := wH D;rw [show ((hnd D : Nat) : Int) = ((hnd D - 1 : Nat) : Int) + 1 from by omega, Zy]; exact this
   have hidn : ∀ x ∈ L, x.id ≠ (⟨((hnd D : Nat) : Int), n, 0⟩ : Nm).id := fun x hx e => by
    have := hI.blk x hx;rw [e, hno] at this; cases this
   have hnn : ∀ x ∈ L, x.n ≠ (⟨((hnd D : Nat) : Int), n, 0⟩ : Nm).n := vX h1;have hf1 := eT hI.dis hidn hnn;have hf2 := aD (L := L) (e := ⟨((hnd D : Nat) : Int), n, 0⟩);have hi0 : uq L ⟨n.toArray⟩ = none := by rw [hid, hb]; rfl
   have ha0 : WE L ((hnd D : Nat) : Int) = none := by
    cases hx : WE L ((hnd D : Nat) : Int) with
    | none => rfl
    | some b => obtain ⟨_, x, hx1, hx2⟩ := Wp.1 hx; exact absurd hx2 (hidn x hx1)
   refine yp (pU rfl) (yp (pExt rfl rfl) (yp (pExt rfl rfl) (yp (pI rfl) (yp (pI rfl) (zf (za (ze ?_)))))))
   skip
   refine ze (z8 (yp (pI rfl) (yp (Xb rfl rfl) (zf (za (zA rfl (zu (za (ze (Vk (R := [wU tb ab ib lb]) (by simp) (zi (pP rfl) (zi (zG rfl) (zi (zn rfl) (Z7 rfl rfl (zi (pT rfl) (zi (pP rfl) (zi (zG rfl) (zi (zn rfl) (Z7 rfl rfl (zi (pI rfl) (zi (pI rfl) (zi (pI rfl) (zi (pI rfl) ?_)))))))))))))))))))))));refine zN (Y6 (z0 := (0 : Int)) hMI (⟨n.toArray⟩ : ByteArray) ko xD J2 rfl rfl fun s1 HI1 hS1 => ?_) zO;refine zi (pExt rfl rfl) ?_;refine zN (xY (v := ((hnd D : Nat) : Int)) hS1 rfl rfl rfl fun HI2 hMI2 => ?_) zO;refine zN (Y6 (z0 := false) hMG ((hnd D : Nat) : Int) kr kg Xh rfl rfl fun s2 HG1 hS2 => ?_) zO;refine zi (pExt rfl rfl) ?_;refine zN (xY (v := true) hS2 rfl rfl rfl fun HG2 hMG2 => ?_) zO;rw [QI] at hMI2 hMG2;have hc1 : Xc (uq L) (⟨n.toArray⟩ : ByteArray) L.length = (L ++ [(⟨((hnd D : Nat) : Int), n, 0⟩ : Nm)]).length := by unfold Xc; rw [hi0]; simp
   have hc2 : Xc (WE L) ((hnd D : Nat) : Int) L.length = (L ++ [(⟨((hnd D : Nat) : Int), n, 0⟩ : Nm)]).length := by unfold Xc; rw [ha0]; simp
   rw [hc1, ← hf1] at hMI2;rw [hc2, ← hf2] at hMG2;refine zL (za (z8 (yp (pP rfl) (yp (zG rfl) (yp (zn rfl) ?_)))));refine zh (zB rfl rfl ?_);refine yp (pI rfl) (yp (pT rfl) ?_);refine zh (sK rfl fun v Hs hLs => ?_);have hLs : Zc 5 v n Hs := hLs
   skip
   have hg := wO D (8 + n.length);have hp : ZL (ZB D (8 + n.length)) ((hnd D : Nat) : Int) 8 (n.length : Nat) = 0 := by
    unfold ZL; rw [hg]; exact if_neg (by rw [aN]; omega)
   have hw : VN (ZB D (8 + n.length)) ((hnd D : Nat) : Int) 8 n = (ZB D (8 + n.length)).set (hnd D - 1) (some (V4 0 ++ n)) := by
    unfold VN;rw [if_pos hp, hg];have hidx : (((hnd D : Nat) : Int) - 1).toNat = hnd D - 1 := by have := wH D; omega
    rw [hidx];refine congrArg (fun z => (ZB D (8 + n.length)).set (hnd D - 1) (some z)) ?_;show spl (zeros (8 + n.length)) 8 n = V4 0 ++ n;unfold spl zeros;rw [List.take_replicate, List.drop_replicate, Nat.min_eq_left (by omega), Nat.sub_self, List.replicate_zero, List.append_nil];rfl
   refine zh (zk (Ki (S0 := [Hs]) hA1 ((hnd D : Nat) : Int) 8 (Y := n) (hLs.src (by simp)) (by show n.length ≤ 9223372036854775807; omega)) rfl rfl fun r S' h => ?_);obtain ⟨rfl, H2, hA2, rfl⟩ := h;rw [hw] at hA2;refine zf (za ?_);refine ⟨ib, lb, L ++ [⟨((hnd D : Nat) : Int), n, 0⟩], HI2, HG2, H2, _, L.length, ⟨((hnd D : Nat) : Int), n, 0⟩, ⟨rfl, rfl, trivial⟩, hMI2, hMG2, hA2, hnew, by simp, (by show 0 + 1 < 2 ^ 60; decide), by rw [hEa]; exact he, ?_, ?_, ?_, .of⟩
   ·unfold uN; rw [hb]; rfl
   ·unfold ZG reuse; rw [h1]; simp
   ·have hlen : (V4 0 ++ n).length = (zeros (8 + n.length)).length := by rw [List.length_append, ZC, aN]
    have hidx : (((hnd D : Nat) : Int) - 1).toNat = hnd D - 1 := by have := wH D; omega
    have := Xo (Y := V4 0 ++ n) hg hlen;rw [hidx] at this;rw [this]; unfold Wy; rw [hb]; rfl
 clear hback hMI hMG;intro E S' ⟨ib, lb, L1, HI1, HG1, H1, D1, j, e, hE, hMI1, hMG1, hA1, hI1, hj, heu, hE0, hea, hre, hsh, hJ⟩;have hem := List.mem_of_getElem? hj;have hblk := hI1.blk e hem;obtain ⟨E0, e0⟩ := zy hE; subst e0; clear hE;refine zq hJ (zq (zC.re (S1 := [wU tb ab ib lb, HI1, HG1, H1]) (S2 := [wU tb ab ib lb ++ HI1 ++ HG1, H1]) (by simp)) ?_);have hby : yV L1 e.id = some e := by unfold yV; rw [qY hI1.dis.ids hj]; exact hj
 refine ze (z8 (yp (pP rfl) (yp (pI rfl) (yp (pP rfl) (yp (pI rfl) ?_)))));refine zh (zk (bE (Tb.mk hMI1 hMG1) hA1 hI1 e.id) rfl rfl fun r S' h => ?_);obtain ⟨rfl, rfl⟩ := h;rw [hby];refine XD (zC.re (S1 := [wU tb ab ib lb ++ HI1 ++ HG1, H1]) (S2 := [wU tb ab ib lb, HI1, HG1, H1]) (by simp)) ?_;have heu2 : e.u < 2 ^ 60 := by omega
 show YL _ _ _ _ _ (Zf _ (.int .i64 (e.u : Int)) _) _;refine yp (Zg rfl rfl (by omega)) ?_;refine zh (zk (mV (tb := tb) (ib := ib) (lb := lb) hA1 hblk (e.u + 1) heu) rfl rfl fun r S' h => ?_);obtain ⟨rfl, H2, hA2, rfl⟩ := h;have hlen : (V4 (e.u + 1) ++ e.n).length = (V4 e.u ++ e.n).length := by rw [List.length_append, List.length_append, ZC, ZC]
 have hI2 := hI1.reuse hj heu;have hT2 := Tb.reuse (v := e.u + 1) (Tb.mk (tb := tb) (ab := ab) hMI1 hMG1) hI1.dis hj;have hs2 := Xo hblk hlen;rw [hre] at hI2 hT2;refine zf (za (ze (z8 (yp (pI rfl) (yp (pI rfl) (yp pC (zf (za (zJ ?_)))))))));exact zI (KW rfl rfl) ⟨[wU tb ab ib lb ++ HI1 ++ HG1, H2], zC.re (S1 := [wU tb ab ib lb, HI1, HG1, H2]) (by simp), .inr ⟨hE0, _, H2, _, by rw [hea], hT2, hA2, hI2, hs2.trans hsh, rfl⟩⟩
end Go.Proofs.YtejmbmenbailmaaGreat
namespace Go.Proofs.YtejmbmenbailmaaGreat
open Go.Xs
open Enc (enc)
def Pos (L : List Nm) : Prop := ∀ e ∈ L, 1 ≤ e.u
def Qi (L : List Nm) (i : Int) : Int := if (yV L i).isSome then 0 else 5
def vg (L : List Nm) (i : Int) : List Nm := match VA i L with
 | some j => (match L[j]? with | some e => if e.u = 1 then L.eraseIdx j else reuse L j e (e.u - 1) | none => L)
 | none => L
def Ua (D : List (Option Bt)) (L : List Nm) (i : Int) : List (Option Bt) := match yV L i with
 | some e => if e.u = 1 then WA D i else D
 | none => D
theorem Yw {D : List (Option Bt)} {i : Int} {b : Bt} (hb : Zh D i = some b) : Zh (WA D i) i = none := by
 obtain ⟨j, rfl, hj⟩ := VH hb;unfold WA;rw [hb, if_pos (show (some b).isSome = true from rfl), Zy, show ((j : Int) + 1 - 1).toNat = j from by omega, List.getElem?_set_self (List.getElem?_eq_some_iff.1 hj).1]; rfl
theorem WQ.drop {D : List (Option Bt)} {L : List Nm} {B : List (Int × Bs)} (h : WQ D L B) {j : Nat} {e : Nm} (he : L[j]? = some e) : WQ (WA D e.id) (L.eraseIdx j) B := by
 have hb := h.blk e (List.mem_of_getElem? he);have hself := Yw hb;refine ⟨h.dis.erase j, fun x hx => ?_, fun x hx => ⟨?_, fun y hy => ?_⟩, fun i b hib => ?_, fun x hx => ?_, fun x hx => ?_⟩
 ·obtain ⟨h1, h2, _⟩ := Wo h.dis he hx;rw [ZT h2]; exact h.blk x h1
 ·rw [ZT fun h2 => (h.oth x hx).2 e (List.mem_of_getElem? he) h2.symm]; exact (h.oth x hx).1
 ·exact (h.oth x hx).2 y (Wo h.dis he hy).1
 ·by_cases h2 : i = e.id
  ·rw [h2, hself] at hib; cases hib
  ·rw [ZT h2] at hib;rcases h.all i b hib with ⟨y, hy, hyi⟩ | hx
   ·exact .inl ⟨y, mem_erase he hy (.inl fun h3 => h2 (hyi.symm.trans h3)), hyi⟩
   ·exact .inr hx
 ·exact h.us x (Wo h.dis he hx).1
 ·exact h.fold x (Wo h.dis he hx).1
theorem fu {D : List (Option Bt)} {i : Int} {b Y : Bt} (hb : Zh D i = some b) : WA (D.set (i - 1).toNat (some Y)) i = WA D i := by
 have h1 := Wu (Y := Y) hb i;rw [if_pos rfl] at h1;unfold WA;rw [h1, hb, if_pos (show (some Y).isSome = true from rfl), if_pos (show (some b).isSome = true from rfl), List.set_set]
set_option maxRecDepth 10000 in
set_option maxHeartbeats 1000000 in
theorem bF {tb ab N : Nat} {D : List (Option Bt)} {H : List Chunk} {L : List Nm} {T : List Chunk} {B : List (Int × Bs)} (hT : Tb tb ab L T) (hA : Ar ab N D H) (hI : WQ D L B) (hP : Pos L) (i : Int) :
 zP Tryz.prog 61 #[.pointer (some ⟨tb, 0, none⟩), .int .i64 i] [T, H] (fun r S => r = .int .i64 (Qi L i) ∧ ∃ (T' H' : List Chunk) (D' : List (Option Bt)), Tb tb ab (vg L i) T' ∧ Ar ab N D' H' ∧ WQ D' (vg L i) B ∧ aI D' = aI (Ua D L i) ∧ S = [T', H']) := by
 refine zP.forget (zm Tryz.FN (Nat.le_of_ble_eq_true rfl) ?_);unfold Tryz.He;refine ze (z8 (yp pC (zf (za (ze (z8 (yp (pP rfl) (yp (pI rfl) ?_))))))));refine zh (zk (J8 hT hA hI i) rfl rfl fun r S' h => ?_);obtain ⟨rfl, rfl⟩ := h;cases hb : yV L i with
 | none =>
  have h1 := jH hb;refine yp (pU rfl) (yp (pExt rfl rfl) (yp (pExt rfl rfl) (yp (pT rfl) (yp (pB rfl) (zf (za (ze (ze (z8 (yp (pB rfl) (yp (Zi rfl) (zf (za (zH rfl (ze (z8 (yp pC (zf (za (zJ (zV ?_)))))))))))))))))))));refine zI (rI rfl) ⟨_, .of, by unfold Qi; rw [hb]; rfl, T, H, D, ?_, hA, ?_, ?_, rfl⟩
  ·unfold vg; rw [h1]; exact hT
  ·unfold vg; rw [h1]; exact hI
  ·unfold Ua; rw [hb]
 | some e =>
  obtain ⟨j, h1, h2, rfl⟩ := yI hb;have hem := List.mem_of_getElem? h2;have hpos := hP e hem;have hblk := hI.blk e hem;have hus := hI.us e hem;have hu1 : e.u - 1 < 2 ^ 60 := by omega
  have hlen : (V4 (e.u - 1) ++ e.n).length = (V4 e.u ++ e.n).length := by rw [List.length_append, List.length_append, ZC, ZC]
  have hR : Qi L e.id = 0 := by unfold Qi; rw [hb]; rfl
  have hLd : vg L e.id = if e.u = 1 then L.eraseIdx j else reuse L j e (e.u - 1) := by unfold vg; rw [h1]; simp only [h2]
  have hDd : Ua D L e.id = if e.u = 1 then WA D e.id else D := by unfold Ua; rw [hb]
  refine yp (pU rfl) (yp (pExt rfl rfl) (yp (pExt rfl rfl) (yp (pT rfl) (yp (pB rfl) (zf (za (ze (ze (z8 (yp (pB rfl) (yp (Zi rfl) (zf (za (zA rfl (zu (za (ze (z8 (yp (pP rfl) (yp (pI rfl) ?_))))))))))))))))))));refine zh (zk (bE hT hA hI e.id) rfl rfl fun r S' h => ?_);obtain ⟨rfl, rfl⟩ := h;rw [hb];have hT0 := hT;obtain ⟨ib, lb, HI, HG, hMI, hMG, rfl⟩ := hT;refine XD (zC.re (S1 := [wU tb ab ib lb ++ HI ++ HG, H]) (S2 := [wU tb ab ib lb, HI, HG, H]) (by simp)) ?_;show YL _ _ _ _ _ (Zf _ (.int .i64 (e.u : Int)) _) _;refine yp (wh rfl rfl (by omega)) (yp (pI rfl) (zf (za (ze (z8 (yp (pP rfl) (yp (pI rfl) (yp (pI rfl) ?_))))))));refine zh (zk (mV (tb := tb) (ib := ib) (lb := lb) hA hblk (e.u - 1) hu1) rfl rfl fun r S' h => ?_);obtain ⟨rfl, H2, hA2, rfl⟩ := h;refine zf (za (ze (ze (z8 (yp (pI rfl) (yp (Wi rfl rfl) (zf (za ?_))))))));by_cases hu : e.u = 1
  ·rw [if_pos hu] at hLd hDd;rw [decide_eq_true (show ((e.u - 1 : Nat) : Int) = 0 from by omega)];refine zH rfl (ze (z8 (yp (pP rfl) (yp (zG rfl) (yp (zn rfl) ?_)))));refine zh (zB rfl rfl ?_);refine yp (pT rfl) ?_;refine zh (aR hMI (⟨e.n.toArray⟩ : ByteArray) ko xD rfl rfl fun HI2 hMI2 => ?_);refine zf (za (ze (z8 (yp (pP rfl) (yp (zG rfl) (yp (zn rfl) ?_))))));refine zh (zB rfl rfl ?_);refine yp (pI rfl) ?_;refine zh (aR hMG e.id kr kg rfl rfl fun HG2 hMG2 => ?_);refine zf (za (z8 (yp (pP rfl) (yp (zG rfl) (yp (zn rfl) ?_)))));refine zh (zB rfl rfl ?_);refine yp (pI rfl) ?_;refine zh (zk (gI hA2 e.id) rfl rfl fun r S' h => ?_);obtain ⟨rfl, H3, hA3, rfl⟩ := h;rw [fu hblk] at hA3;have hc1 : kX (uq L) (⟨e.n.toArray⟩ : ByteArray) L.length = (L.eraseIdx j).length := by
    unfold kX;rw [(V6 hI.dis).2 ⟨e, hem, rfl, rfl⟩, List.length_eraseIdx, if_pos (List.getElem?_eq_some_iff.1 h2).1]; rfl
   have hc2 : kX (WE L) e.id L.length = (L.eraseIdx j).length := by
    unfold kX;rw [Wp.2 ⟨rfl, e, hem, rfl⟩, List.length_eraseIdx, if_pos (List.getElem?_eq_some_iff.1 h2).1]; rfl
   rw [hc1, ← JC hI.dis h2] at hMI2;rw [hc2, ← jP hI.dis h2] at hMG2;refine zf (za (ze (z8 (yp pC (zf (za (zJ ?_)))))));exact zI (rI rfl) ⟨[wU tb ab ib lb ++ HI2 ++ HG2, H3], zC.re (S1 := [wU tb ab ib lb, HI2, HG2, H3]) (by simp), by rw [hR], _, H3, _, hLd ▸ Tb.mk hMI2 hMG2, hA3, hLd ▸ hI.drop h2, by rw [hDd], rfl⟩
  ·rw [if_neg hu] at hLd hDd;rw [decide_eq_false (show ¬ ((e.u - 1 : Nat) : Int) = 0 from by omega)];refine zA rfl (zu (za (ze (z8 (yp pC (zf (za (zJ ?_))))))));exact zI (rI rfl) ⟨[wU tb ab ib lb ++ HI ++ HG, H2], zC.re (S1 := [wU tb ab ib lb, HI, HG, H2]) (by simp), by rw [hR], _, H2, _, hLd ▸ Tb.reuse hT0 hI.dis h2, hA2, hLd ▸ hI.reuse h2 hu1, by rw [hDd]; exact Xo hblk hlen, rfl⟩
end Go.Proofs.YtejmbmenbailmaaGreat
namespace Go.Proofs.YtejmbmenbailmaaGreat
open Go.Xs
open Enc (enc)
theorem WQ.nil : WQ [] [] [] := ⟨⟨List.nodup_nil, List.nodup_nil⟩, fun e he => by simp at he, fun e he => by simp at he, fun i b h => by unfold Zh at h; split at h <;> simp at h, fun e he => by simp at he, fun e he => by simp at he⟩
theorem Pos.nil : Pos [] := fun e he => by simp at he
end Go.Proofs.YtejmbmenbailmaaGreat
namespace Go.Proofs.YtejmbmenbailmaaGreat
open Go.Xs
open Enc (enc)
theorem JO {L : List Nm} {e : Nm} (he : e ∈ L) : (V8 L e.n).isSome = true := by
 cases hb : V8 L e.n with
 | some x => rfl
 | none => exact absurd rfl (vX (Ww hb) e he)
theorem gL {D : List (Option Bt)} {L : List Nm} {n : Bs} {k : Nat} (h : ∀ e ∈ L, e.u ≤ k) : ∀ e ∈ ZG D L n, e.u ≤ k + 1 := fun e he => by
 cases hb : V8 L n with
 | some x =>
  obtain ⟨j, h1, h2, rfl⟩ := vw hb;have : ZG D L x.n = reuse L j x (x.u + 1) := by unfold ZG; rw [h1]; simp only [h2]
  rw [this] at he;unfold reuse at he;rcases List.mem_or_eq_of_mem_set he with he | rfl
  ·have := h e he; omega
  ·have := h x (List.mem_of_getElem? h2); show x.u + 1 ≤ k + 1; omega
 | none =>
  have : ZG D L n = L ++ [⟨((hnd D : Nat) : Int), n, 1⟩] := by unfold ZG; rw [Ww hb]
  rw [this] at he;rcases List.mem_append.1 he with he | he
  ·have := h e he; omega
  ·rw [List.mem_singleton.1 he]; show 1 ≤ k + 1; omega
theorem gM {D : List (Option Bt)} {L : List Nm} {n : Bs} (h : Pos L) : Pos (ZG D L n) := fun e he => by
 cases hb : V8 L n with
 | some x =>
  obtain ⟨j, h1, h2, rfl⟩ := vw hb;have : ZG D L x.n = reuse L j x (x.u + 1) := by unfold ZG; rw [h1]; simp only [h2]
  rw [this] at he;unfold reuse at he;rcases List.mem_or_eq_of_mem_set he with he | rfl
  ·exact h e he
  ·show 1 ≤ x.u + 1; omega
 | none =>
  have : ZG D L n = L ++ [⟨((hnd D : Nat) : Int), n, 1⟩] := by unfold ZG; rw [Ww hb]
  rw [this] at he;rcases List.mem_append.1 he with he | he
  ·exact h e he
  ·rw [List.mem_singleton.1 he]; exact Nat.le_refl _
theorem QW {L : List Nm} {i : Int} (h : Pos L) : Pos (vg L i) := fun e he => by
 unfold vg at he;split at he
 ·split at he
  ·next x hx =>
   split at he
   ·exact h e ((List.eraseIdx_sublist _ _).subset he)
   ·next hu =>
    unfold reuse at he;rcases List.mem_or_eq_of_mem_set he with he | rfl
    ·exact h e he
    ·have := h x (List.mem_of_getElem? hx); show 1 ≤ x.u - 1; omega
  ·exact h e he
 ·exact h e he
end Go.Proofs.YtejmbmenbailmaaGreat
