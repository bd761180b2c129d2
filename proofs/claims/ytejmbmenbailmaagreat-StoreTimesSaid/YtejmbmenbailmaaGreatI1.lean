/- The table of names (chapter 7): contracts of its functions. The table of names (chapter 7): uses, names, Add and Drop. The table of names (chapter 7): Add and Drop. The table of names (chapter 7): what Add does. The table of names (chapter 7): Drop; awake. The table of names (chapter 7): Add, once more. The table of names (chapter 7), beside the document's: what Add and Drop leave. -/
import Derived.Test.YtejmbmenbailmaaGreatN1
import Derived.Test.YtejmbmenbailmaaGreatFIntern
namespace Go.Proofs.YtejmbmenbailmaaGreat
open Go.Xs
open Enc (enc)
theorem kN : Tryz.prog.underlying 120 = some (.map 9 3) := by kernel_rfl
theorem kP : Tryz.prog.underlying 121 = some (.map 3 4) := by kernel_rfl
theorem xH : Tryz.prog.underlying 9 = some .string := by kernel_rfl
theorem kM : Tryz.prog.underlying 3 = some (.int .i64) := by kernel_rfl
theorem Jj : (Tryz.prog.info? 3).bind (·.zero) = some (.int .i64 0) := by kernel_rfl
theorem Xv : (Tryz.prog.info? 4).bind (·.zero) = some (.bool false) := by kernel_rfl
abbrev wY (tb ab ib lb : Nat) : List Chunk := [(tb, .cells #[.pointer (some ⟨ab, 0, none⟩), .map (some ib), .map (some lb)] 123)]
/-- the table, as one piece of memory -/
def Tb (tb ab : Nat) (L : List Nm) (T : List Chunk) : Prop :=
 ∃ (ib lb : Nat) (HI HG : List Chunk), Mp ib (uF L) L.length HI ∧ Mp lb (WK L) L.length HG ∧ T = wY tb ab ib lb ++ HI ++ HG
/-- the names stand in the arena, and blocks of others; nothing else does -/
structure WX (D : List (Option Bt)) (L : List Nm) (B : List (Int × Bs)) : Prop where
 dis : xD L
 blk : ∀ e ∈ L, Zh D e.id = some (Vf e.u ++ e.n)
 oth : ∀ x ∈ B, Zh D x.1 = some x.2 ∧ ∀ e ∈ L, e.id ≠ x.1
 all : ∀ i b, Zh D i = some b → (∃ e ∈ L, e.id = i) ∨ ∃ x ∈ B, x.1 = i
 us : ∀ e ∈ L, e.u < 2 ^ 60
 fold : ∀ e ∈ L, vL e.n = true ∧ zx e.n = e.n
theorem kQ {tb ab ib lb : Nat} : Tri Tryz.prog 67 #[.pointer (some ⟨tb, 0, none⟩)] [wY tb ab ib lb] (fun r S => r = .bool false ∧ S = [wY tb ab ib lb]) := by
 refine Tri.forget (zm Tryz.GL (Nat.le_of_ble_eq_true rfl) ?_);unfold Tryz.IX;refine ze (z8 (yp pC (zf (za (ze (z8 (yp (pP rfl) (yp (ZM rfl rfl) (yp (pB rfl) (Z4 rfl (Z9 (pP rfl) (Z4 rfl (Z9 (zG rfl) (Z4 rfl (Z9 (zn rfl) (Z4 rfl ?_))))))))))))))));refine (zD rfl rfl ?_);refine Z4 rfl (Z9 (ZM rfl rfl) (yp (zS rfl rfl) (yp (pB rfl) (zf (za (zJ ?_))))));exact zI (rB rfl) ⟨_, .of, rfl, rfl⟩
theorem Tb.mk {tb ab ib lb : Nat} {L : List Nm} {HI HG : List Chunk} (h1 : Mp ib (uF L) L.length HI) (h2 : Mp lb (WK L) L.length HG) : Tb tb ab L (wY tb ab ib lb ++ HI ++ HG) := ⟨ib, lb, HI, HG, h1, h2, rfl⟩
theorem BS {ab : Nat} : Tri Tryz.prog 46 #[.pointer (some ⟨ab, 0, none⟩)] [] (fun r S => ∃ tb T, r = .pointer (some ⟨tb, 0, none⟩) ∧ Tb tb ab [] T ∧ S = [T]) := by
 refine Tri.forget (zm Tryz.Hl (Nat.le_of_ble_eq_true rfl) ?_);unfold Tryz.Li;refine ze (z8 (yp pC (zf (za (ze (z8 (yp (pP rfl) ?_)))))));refine zh (kH ByteArray Int fun ib HI hI => ?_);refine zh (kH Int Bool fun lb HG hG => ?_);refine yp (mI (Jd rfl) (LP rfl) (LP rfl)) ?_;refine zh (Zq rfl fun p7 => ?_);refine yp (pP rfl) (zf (za (zJ ?_)));exact zI (rP rfl) ⟨[wY p7 ab ib lb ++ HI ++ HG], zB.vG, p7, _, rfl, Tb.mk (L := []) hI hG, rfl⟩
/-- the one of these letters -/
def Vj (L : List Nm) (n : Bs) : Option Nm := (Vy n L).bind fun j => L[j]?
def Yb (L : List Nm) (i : Int) : Option Nm := (VJ i L).bind fun j => L[j]?
theorem r9 {tb ab : Nat} {L : List Nm} {T : List Chunk} (hT : Tb tb ab L T) (Y : Bs) (hY : Y.length < 2 ^ 62) : Tri Tryz.prog 102 #[.pointer (some ⟨tb, 0, none⟩), sv Y] [T]
 (fun r S => r = .tuple #[.int .i64 (((Vj L (zx Y)).map (·.id)).getD 0), .bool (Vj L (zx Y)).isSome] ∧ S = [T]) := by
 obtain ⟨ib, lb, HI, HG, hI, hG, rfl⟩ := hT;refine Tri.vR (Tri.forget (zm Tryz.EN (Nat.le_of_ble_eq_true rfl) ?_));unfold Tryz.x102;refine ze (z8 (yp pC (yp pC (zf (za (ze (ze (z8 (yp (pP rfl) ?_)))))))));refine zh (zk (kQ (tb := tb) (ab := ab) (ib := ib) (lb := lb)) rfl rfl fun r S' h => ?_);obtain ⟨rfl, rfl⟩ := h;refine zf (za (zA rfl (zq (za (ze (zX (zi (pP rfl) (zi (zG rfl) (zi (zn rfl) (Z5 rfl rfl (zi (pT rfl) ?_)))))))))));refine Zj (zk (Kh Y hY) rfl rfl fun r S' h => ?_) zO;obtain ⟨rfl, rfl⟩ := h;refine ⟨by simp, ?_⟩;have hid : uF L ⟨(zx Y).toArray⟩ = (Vj L (zx Y)).map (·.id) := by
  unfold uF Vj;cases Vy (zx Y) L <;> rfl
 refine zP (bJ (v := .int .i64 (((Vj L (zx Y)).map (·.id)).getD 0)) (bl := (Vj L (zx Y)).isSome) hI (by simp) (⟨(zx Y).toArray⟩ : ByteArray) kN xH Jj rfl rfl ?_ ?_ ?_) zO
 ·rw [hid]; cases Vj L (zx Y) <;> rfl
 ·rw [hid]; cases Vj L (zx Y) <;> rfl
 refine zi (pU rfl) (zi (pExt rfl rfl) (zi (pExt rfl rfl) (zi (pI rfl) (zi (pB rfl) (zL (za (ze (z8 (yp (pI rfl) (yp (pB rfl) (yp (pI rfl) (yp (pB rfl) (zf (za (zJ ?_)))))))))))))));exact zI (mh rfl rfl) ⟨_, zB.vG, rfl, rfl⟩
theorem ru {tb ab : Nat} {L : List Nm} {T : List Chunk} (hT : Tb tb ab L T) (Y : Bs) (hY : Y.length < 2 ^ 62) : Tri Tryz.prog 54 #[.pointer (some ⟨tb, 0, none⟩), sv Y] [T]
 (fun r S => r = .int .i64 (if (Vj L (zx Y)).isSome = true ∨ vL Y = false then 0 else cost (8 + Y.length)) ∧ S = [T]) := by
 refine Tri.forget (zm Tryz.GX (Nat.le_of_ble_eq_true rfl) ?_);unfold Tryz.La;refine ze (z8 (yp pC (zf (za (ze (ze (z8 (yp (pP rfl) (yp (pT rfl) ?_)))))))));refine zh (zk (r9 hT Y hY) rfl rfl fun r S' h => ?_);obtain ⟨rfl, rfl⟩ := h;cases hb : (Vj L (zx Y)).isSome with
 | true =>
  refine yp (pU rfl) (yp (pExt rfl rfl) (yp (pExt rfl rfl) (yp (pI rfl) (yp (pB rfl) (zf (za (ze (z8 (yp (pB rfl) (yp (pB rfl) (zW rfl (zW rfl (zW rfl (yp (zM rfl rfl) (zf (za (zH rfl (ze (z8 (yp pC (zf (za (zJ (zU ?_))))))))))))))))))))))));exact zI (rI rfl) ⟨_, .of, by rw [if_pos (.inl rfl)], rfl⟩
 | false =>
  refine yp (pU rfl) (yp (pExt rfl rfl) (yp (pExt rfl rfl) (yp (pI rfl) (yp (pB rfl) (zf (za (ze (z8 (yp (pB rfl) (yp (pB rfl) (Z4 rfl (Z9 (pT rfl) (Z4 rfl ?_)))))))))))));refine zk (u7 Y hY) rfl rfl fun r S' h => ?_
  obtain ⟨rfl, rfl⟩ := h;cases hv : vL Y with
  | false =>
   refine Z4 rfl (Z9 (Zg rfl) (yp (zS rfl rfl) (zf (za (zH rfl (ze (z8 (yp pC (zf (za (zJ (zU ?_))))))))))));exact zI (rI rfl) ⟨_, .of, by rw [if_pos (.inr rfl)], rfl⟩
  | true =>
   refine Z4 rfl (Z9 (Zg rfl) (yp (zS rfl rfl) (zf (za (zA rfl (zq (za (ze (z8 (yp (pT rfl) (yp (uO rfl) ?_)))))))))));rw [qN];refine yp (Wv rfl rfl (by omega)) ?_;refine zh (zk (X5 (8 + (Y.length : Int))) rfl rfl fun r S' h => ?_);obtain ⟨rfl, rfl⟩ := h;refine yp (pI rfl) (zf (za (zJ ?_)));exact zI (rI rfl) ⟨_, .of, by rw [if_neg (by simp)], rfl⟩
end Go.Proofs.YtejmbmenbailmaaGreat
namespace Go.Proofs.YtejmbmenbailmaaGreat
open Go.Xs
open Enc (enc)
theorem oC {E : Env} {x y : Operand} {a s : Nat} (h1 : ev E x = .int .i64 (a : Int)) (h2 : ev E y = .int .i64 (s : Int)) (hs : s ≤ 64) (h : a * 2 ^ s < 2 ^ 63) : zl (ev E) (.bin .shl x y) = some (.int .i64 ((a * 2 ^ s : Nat) : Int)) := by
 have hm : Nat.min ((s : Int).toNat) IntKind.i64.bits = s := by show Nat.min s 64 = s; exact Nat.min_eq_left hs
 have e : (a : Int) * 2 ^ s = ((a * 2 ^ s : Nat) : Int) := by push_cast; rfl
 simp only [zl, h1, h2, Wu, vB, hm, e];rw [wrap_i64 (by have : ((a * 2 ^ s : Nat) : Int) < ((2 ^ 63 : Nat) : Int) := Int.ofNat_lt.2 h; omega)];simp
theorem Cv {E : Env} {x y : Operand} {a b : Nat} (h1 : ev E x = .int .i64 (a : Int)) (h2 : ev E y = .int .i64 (b : Int)) (h : (a ||| b) < 2 ^ 63) (ha : a < 2 ^ 63) (hb : b < 2 ^ 63) : zl (ev E) (.bin .or x y) = some (.int .i64 ((a ||| b : Nat) : Int)) := by
 have e : uz .or .i64 (a : Int) (b : Int) = ((a ||| b : Nat) : Int) := by
  unfold uz;simp only;have e1 : (BitVec.ofInt IntKind.i64.bits (a : Int) ||| BitVec.ofInt IntKind.i64.bits (b : Int)).toNat = a ||| b := by
   show (BitVec.ofInt 64 (a : Int) ||| BitVec.ofInt 64 (b : Int)).toNat = a ||| b;rw [BitVec.toNat_or, BitVec.toNat_ofInt, BitVec.toNat_ofInt];congr 1
   ·omega
   ·omega
  rw [e1, wrap_i64 (by omega)]
 simp [zl, h1, h2, Wu, vB, e]
theorem eY {a b i : Nat} (h : a < 2 ^ i) : a ||| (b * 2 ^ i) = a + b * 2 ^ i := by
 rw [Nat.or_comm, Nat.mul_comm b, ← Nat.two_pow_add_eq_or_of_lt h b, Nat.add_comm]
theorem yU {L : List Nm} {i : Int} {e : Nm} (h : Yb L i = some e) : ∃ j, VJ i L = some j ∧ L[j]? = some e ∧ e.id = i := by
 unfold Yb at h;cases hx : VJ i L with
 | none => rw [hx] at h; cases h
 | some j =>
  obtain ⟨e', h1, h2⟩ := U4 hx;rw [hx] at h;simp only [Option.bind_some, h1] at h;obtain rfl := Option.some.inj h;exact ⟨j, rfl, h1, h2⟩
theorem jZ {L : List Nm} {i : Int} (h : Yb L i = none) : VJ i L = none := by
 unfold Yb at h;cases hx : VJ i L with
 | none => rfl
 | some j =>
  obtain ⟨e', h1, h2⟩ := U4 hx;rw [hx] at h;simp only [Option.bind_some, h1] at h;cases h
theorem kC (L : List Nm) (i : Int) : ((WK L i).map Vv.vv).getD (.bool false) = .bool (Yb L i).isSome := by
 cases hb : Yb L i with
 | none => unfold WK; rw [jZ hb]; rfl
 | some e => obtain ⟨j, h1, _, _⟩ := yU hb; unfold WK; rw [h1]; rfl
theorem Kw {L : List Nm} {i : Int} {e : Nm} (h : Yb L i = some e) : e ∈ L ∧ e.id = i := by
 obtain ⟨j, _, h2, h3⟩ := yU h;exact ⟨List.mem_of_getElem? h2, h3⟩
/-- the first eight bytes of a name's block, the others -/
theorem aQ {D : List (Option Bt)} {i : Int} {u : Nat} {n : Bs} (h : Zh D i = some (Vf u ++ n)) : ZL D i 0 8 = 0 ∧ UK D i 0 8 = Vf u := by
 have hl : (Vf u ++ n).length = 8 + n.length := by rw [List.length_append, ZC]
 have hp : ZL D i 0 8 = 0 := by unfold ZL; rw [h]; exact if_neg (by omega)
 refine ⟨hp, ?_⟩;unfold UK;rw [if_pos hp, h];show ((Vf u ++ n).drop 0).take 8 = Vf u;rw [List.drop_zero, ← ZC u, List.take_left]
theorem aP {D : List (Option Bt)} {i : Int} {u : Nat} {n : Bs} (h : Zh D i = some (Vf u ++ n)) : ZL D i 8 (n.length : Int) = 0 ∧ UK D i 8 (n.length : Int) = n := by
 have hl : (Vf u ++ n).length = 8 + n.length := by rw [List.length_append, ZC]
 have hp : ZL D i 8 (n.length : Int) = 0 := by unfold ZL; rw [h]; exact if_neg (by omega)
 refine ⟨hp, ?_⟩;unfold UK;rw [if_pos hp, h];show ((Vf u ++ n).drop 8).take (n.length : Int).toNat = n;have : (Vf u ++ n).drop 8 = n := by
  have := List.drop_left (l₁ := Vf u) (l₂ := n);rw [ZC] at this; exact this
 rw [this, Int.toNat_natCast, List.take_length]
theorem cK {tb ab N : Nat} {D : List (Option Bt)} {H : List Chunk} {L : List Nm} {T : List Chunk} {B : List (Int × Bs)} (hT : Tb tb ab L T) (hA : Ar ab N D H) (hI : WX D L B) (i : Int) : Tri Tryz.prog 105 #[.pointer (some ⟨tb, 0, none⟩), .int .i64 i] [T, H]
 (fun r S => r = .int .i64 (((Yb L i).map (·.u)).getD 0 : Nat) ∧ S = [T, H]) := by
 obtain ⟨ib, lb, HI, HG, hMI, hMG, rfl⟩ := hT;refine Tri.forget (Tri.perm (S := [wY tb ab ib lb, HI, HG, H]) (by simp) (zm Tryz.EL (Nat.le_of_ble_eq_true rfl) ?_));unfold Tryz.BP;have hback : ∀ {S' : zu}, zB S' [wY tb ab ib lb, HI, HG, H] → zB S' [wY tb ab ib lb ++ HI ++ HG, H] := fun h => h.trans ⟨[], by simp⟩
 refine ze (z8 (yp pC (zf (za (ze (ze (z8 (yp (pP rfl) ?_))))))));refine zh (zk (kQ (tb := tb) (ab := ab) (ib := ib) (lb := lb)) rfl rfl fun r S' h => ?_);obtain ⟨rfl, rfl⟩ := h;refine yp (pB rfl) (Z4 rfl (Z9 (pP rfl) (Z4 rfl (Z9 (zG rfl) (Z4 rfl (Z9 (zn rfl) (Z4 rfl ?_)))))));refine (zD rfl rfl ?_);refine Z4 rfl (Z9 (pI rfl) (Z4 rfl (Vs hMG (by simp) i kP kM Xv rfl rfl (kC L i) ?_)));cases hb : Yb L i with
 | none =>
  refine Z4 rfl (Z9 (Zg rfl) (yp (zS rfl rfl) (zf (za (zH rfl (ze (z8 (yp pC (zf (za (zJ (zU ?_))))))))))));exact zI (rI rfl) ⟨_, hback .of, rfl, rfl⟩
 | some e =>
  obtain ⟨hem, rfl⟩ := Kw hb;have hblk := hI.blk e hem;have hu := hI.us e hem;obtain ⟨hp8, hr8⟩ := aQ hblk;refine Z4 rfl (Z9 (Zg rfl) (yp (zS rfl rfl) (zf (za (zA rfl (zq (za (ze (z8 (yp (pP rfl) (yp (zG rfl) (yp (zn rfl) ?_))))))))))));refine zh (zD rfl rfl ?_);refine yp (pI rfl) ?_;refine zh (zk (ql hA e.id 0 8) rfl rfl fun r S' h => ?_);obtain ⟨v, Ho, rfl, hLo, rfl⟩ := h;rw [hp8];rw [hr8] at hLo;obtain ⟨va, vc, rfl⟩ := hLo.isSlice;have hl8 := ZC e.u;rw [hl8] at hLo;rw [hl8];refine yp (pU rfl) (yp (pExt rfl rfl) (yp (pExt rfl rfl) (yp (pS rfl) (yp (pI rfl) (zf (za (ze (z8 (yp pC (zf (za (ze (ze (z8 (yp (pS rfl) (yp (Zu rfl) (yp pC (zf (za (zw ?_))))))))))))))))))));refine Z7 (σ := Nat) (fun k E S => Has E [(7, .int .i64 ((e.u % 2 ^ (8 * k) : Nat) : Int)), (30, .slice va 8 vc), (31, .int .i64 8), (32, .int .i64 (k : Int))] ∧ k ≤ 8 ∧ zB S [Ho, wY tb ab ib lb, HI, HG, H]) (fun k => 8 - k) 0 ⟨⟨by rw [Nat.mul_zero, Nat.pow_zero, Nat.mod_one]; rfl, rfl, rfl, rfl, trivial⟩, Nat.zero_le _, .of⟩ fun k E S ⟨hE, hk, hJ⟩ => ?_
  obtain ⟨E0, e0⟩ := zy hE; subst e0; clear hE;refine zo hJ (ze (z8 (yp (ZP rfl rfl) (zf (za (ze ?_))))));refine zQ rfl (fun h => ?_) (fun h => ?_)
  ·have hlt : k < 8 := by omega
   have hg := Qk e.u k hlt;have hkl : k < (Vf e.u).length := by omega
   obtain ⟨b, sp, fz, hz, hae, _, hce, rfl⟩ := hLo.at' (by intro h; rw [h] at hl8; simp at hl8);subst hae;have hld : ((cells (Vf e.u ++ sp)).toArray.toList)[0 + k * 1 + 0]? = some (.int .u8 ((UInt8.ofNat (e.u / 2 ^ (8 * k))).toNat : Int)) := (wC (kk := 1) (j := 0) hkl rfl (by omega)).trans (by rw [List.getElem?_eq_getElem hkl] at hg; rw [Option.some.inj hg]; rfl);have hby : (UInt8.ofNat (e.u / 2 ^ (8 * k))).toNat = e.u / 2 ^ (8 * k) % 256 := by simp
   have hmod : e.u % 2 ^ (8 * (k + 1)) = e.u % 2 ^ (8 * k) + e.u / 2 ^ (8 * k) % 256 * 2 ^ (8 * k) := by
    have e1 : 2 ^ (8 * (k + 1)) = 2 ^ (8 * k) * 256 := by rw [show 8 * (k + 1) = 8 * k + 8 from by omega, Nat.pow_add]
    rw [e1, Nat.mod_mul, Nat.mul_comm (e.u / 2 ^ (8 * k) % 256)]
   have hsm : e.u % 2 ^ (8 * (k + 1)) < 2 ^ 60 := Nat.lt_of_le_of_lt (Nat.mod_le _ _) hu;have hlt2 : e.u % 2 ^ (8 * k) < 2 ^ (8 * k) := Nat.mod_lt _ (Nat.pow_pos (by decide));have hor := eY (b := e.u / 2 ^ (8 * k) % 256) hlt2;rw [← hmod] at hor;have hpr : e.u / 2 ^ (8 * k) % 256 * 2 ^ (8 * k) ≤ e.u % 2 ^ (8 * (k + 1)) := by rw [hmod]; exact Nat.le_add_left _ _
   have hpl : e.u % 2 ^ (8 * k) ≤ e.u % 2 ^ (8 * (k + 1)) := by rw [hmod]; exact Nat.le_add_right _ _
   refine zq (za (ze (zw (ze (z8 (yp (pI rfl) (yp (zT rfl rfl (by omega)) ?_)))))));refine zh (zD (v := .int .u8 ((UInt8.ofNat (e.u / 2 ^ (8 * k))).toNat : Int)) rfl hld ?_);refine yp (pI rfl) (yp (pI rfl) (zf (za (z8 (yp (pI rfl) (yp (pI rfl) (yp (mH rfl) ?_)))))));rw [hby];refine yp (pI rfl) (yp (UO (j := 8) (k := k) rfl rfl (by omega)) (yp (oC rfl rfl (by omega) (by omega)) (yp (Cv rfl rfl (by rw [hor]; omega) (by omega) (by omega)) ?_)));rw [hor];refine yp (pI rfl) (zf (zR (za (z8 (yp (Ze rfl rfl (by omega)) (yp (pI rfl) (zf (za ?_))))))));exact ⟨k + 1, ⟨⟨rfl, rfl, rfl, rfl, trivial⟩, by omega, .of⟩, by omega⟩
  ·have hk8 : k = 8 := by omega
   subst hk8;have hmodu : e.u % 2 ^ (8 * 8) = e.u := Nat.mod_eq_of_lt (by omega);rw [hmodu];refine zZ (zF (zF (Z0 (za (ze (z8 (yp (pI rfl) (yp (pI rfl) (zf (za (zJ ?_)))))))))));exact zI (rI rfl) ⟨_, hback .of, rfl, rfl⟩
theorem Jr {tb ab N : Nat} {D : List (Option Bt)} {H : List Chunk} {L : List Nm} {T : List Chunk} {B : List (Int × Bs)} (hT : Tb tb ab L T) (hA : Ar ab N D H) (hI : WX D L B) (i : Int) : Tri Tryz.prog 110 #[.pointer (some ⟨tb, 0, none⟩), .int .i64 i] [T, H]
 (fun r S => r = .tuple #[sv (((Yb L i).map (·.n)).getD []), .bool (Yb L i).isSome] ∧ S = [T, H]) := by
 obtain ⟨ib, lb, HI, HG, hMI, hMG, rfl⟩ := hT;refine Tri.forget (Tri.perm (S := [wY tb ab ib lb, HI, HG, H]) (by simp) (zm Tryz.EG (Nat.le_of_ble_eq_true rfl) ?_));unfold Tryz.BK;have hback : ∀ {S' : zu}, zB S' [wY tb ab ib lb, HI, HG, H] → zB S' [wY tb ab ib lb ++ HI ++ HG, H] := fun h => h.trans ⟨[], by simp⟩
 refine ze (z8 (yp pC (yp pC (zf (za (ze (ze (z8 (yp (pP rfl) ?_)))))))));refine zh (zk (kQ (tb := tb) (ab := ab) (ib := ib) (lb := lb)) rfl rfl fun r S' h => ?_);obtain ⟨rfl, rfl⟩ := h;refine yp (pB rfl) (Z4 rfl (Z9 (pP rfl) (Z4 rfl (Z9 (zG rfl) (Z4 rfl (Z9 (zn rfl) (Z4 rfl ?_)))))));refine (zD rfl rfl ?_);refine Z4 rfl (Z9 (pI rfl) (Z4 rfl (Vs hMG (by simp) i kP kM Xv rfl rfl (kC L i) ?_)));have rTB : ∀ {E : Env} {S : zu} {t u : Tmp} {s : ByteArray} {b : Bool}, E t = .string s → E u = .bool b → Xl Tryz.prog #[.tmp t, .tmp u] E S (.tuple #[.string s, .bool b]) := fun h1 h2 => res2 h1 h2
 cases hb : Yb L i with
 | none =>
  refine Z4 rfl (Z9 (Zg rfl) (yp (zS rfl rfl) (zf (za (zH rfl (ze (z8 (yp pC (yp pC (zf (za (zJ (zU ?_)))))))))))));exact zI (rTB rfl rfl) ⟨_, hback .of, rfl, rfl⟩
 | some e =>
  obtain ⟨hem, rfl⟩ := Kw hb;have hblk := hI.blk e hem;have hnl := (hA.ok).each;obtain ⟨hpn, hrn⟩ := aP hblk;have hsz : XV D e.id = (((8 + e.n.length : Nat) : Int), true) := by
   unfold XV; rw [hblk]; simp only; rw [List.length_append, ZC]
  obtain ⟨q, _, hq⟩ := VQ hblk;have h4 := hnl q _ hq;rw [List.length_append, ZC] at h4;refine Z4 rfl (Z9 (Zg rfl) (yp (zS rfl rfl) (zf (za (zA rfl (zq (za (ze (z8 (yp (pP rfl) (yp (zG rfl) (yp (zn rfl) ?_))))))))))));refine zh (zD rfl rfl ?_);refine yp (pI rfl) ?_;refine zh (zk (iH hA e.id) rfl rfl fun r S' h => ?_);obtain ⟨rfl, rfl⟩ := h;rw [hsz];refine yp (pU rfl) (yp (pExt rfl rfl) (yp (pExt rfl rfl) (yp (pI rfl) (yp (pB rfl) (zf (za (ze (z8 (yp (pP rfl) (yp (zG rfl) (yp (zn rfl) ?_)))))))))));refine zh (zD rfl rfl ?_);refine yp (pI rfl) (yp (pI rfl) (yp (ZH rfl rfl (by omega)) ?_));rw [show ((8 + e.n.length : Nat) : Int) - 8 = (e.n.length : Int) from by omega];refine zh (zk (ql hA e.id 8 (e.n.length : Int)) rfl rfl fun r S' h => ?_);obtain ⟨v, Ho, rfl, hLo, rfl⟩ := h;rw [hpn];rw [hrn] at hLo;obtain ⟨va, vc, rfl⟩ := hLo.isSlice;refine yp (pU rfl) (yp (pExt rfl rfl) (yp (pExt rfl rfl) (yp (pS rfl) (yp (pI rfl) (zf (za (ze (z8 (yp (pS rfl) ?_)))))))));refine zh (Yc rfl (hLo.src (by simp)) ?_);refine yp (pI rfl) (yp (vg rfl rfl) (yp (pT rfl) (yp (pB rfl) (zf (za (zJ ?_))))));exact zI (rTB rfl rfl) ⟨_, hback .of, rfl, rfl⟩
theorem jv {E : Env} {x y : Operand} {a s : Nat} (h1 : ev E x = .int .i64 (a : Int)) (h2 : ev E y = .int .i64 (s : Int)) (hs : s ≤ 64) : zl (ev E) (.bin .shr x y) = some (.int .i64 ((a / 2 ^ s : Nat) : Int)) := by
 rw [eF h1 h2 (by omega)];have hm : Nat.min ((s : Int).toNat) IntKind.i64.bits = s := by show Nat.min s 64 = s; exact Nat.min_eq_left hs
 rw [hm, Int.fdiv_eq_ediv_of_nonneg _ (by exact Int.pow_nonneg (by decide))];congr 2
theorem CG {E : Env} {x : Operand} {a : Nat} (h1 : ev E x = .int .i64 (a : Int)) : zl (ev E) (.conv .u8 x) = some (.int .u8 ((UInt8.ofNat a).toNat : Int)) := by
 rw [sM h1, XU];have : (UInt8.ofNat a).toNat = a % 256 := by simp
 rw [this]; congr 2
def yY (n k : Nat) : Bs := (Vf n).take k ++ List.replicate (8 - k) 0
theorem J4 {n k : Nat} (h : k ≤ 8) : (yY n k).length = 8 := by simp [yY, ZC]; omega
theorem iF (n : Nat) : yY n 8 = Vf n := by
 unfold yY;rw [List.take_of_length_le (by rw [ZC]; exact Nat.le_refl _)]; simp
theorem iE {n k : Nat} (h : k < 8) : (yY n k).set k (UInt8.ofNat (n / 2 ^ (8 * k))) = yY n (k + 1) := by
 refine List.ext_getElem? fun j => ?_
 have hg := Qk n k h;have hl := ZC n;have hget : ∀ k j, k ≤ 8 → (yY n k)[j]? = if j < k then (Vf n)[j]? else if j < 8 then some 0 else none := fun k j hk => by
  unfold yY;rw [List.getElem?_append, List.length_take, hl, Nat.min_eq_left hk, List.getElem?_take, List.getElem?_replicate];by_cases h1 : j < k
  ·rw [if_pos h1, if_pos h1, if_pos h1]
  ·rw [if_neg h1, if_neg h1];by_cases h2 : j < 8
   ·rw [if_pos h2, if_pos (by omega)]
   ·rw [if_neg h2, if_neg (by omega)]
 rw [List.getElem?_set, hget _ _ (by omega), hget _ _ (by omega), J4 (by omega)];by_cases hj : k = j
 ·subst hj;rw [if_pos rfl, if_pos h, if_pos (by omega), hg]
 ·rw [if_neg hj];by_cases h1 : j < k
  ·rw [if_pos h1, if_pos (by omega)]
  ·rw [if_neg h1, if_neg (show ¬ j < k + 1 from by omega)]
theorem qj {D : List (Option Bt)} {i : Int} {u v : Nat} {n : Bs} (h : Zh D i = some (Vf u ++ n)) : ZL D i 0 ((Vf v).length : Nat) = 0 ∧ VW D i 0 (Vf v) = D.set (i - 1).toNat (some (Vf v ++ n)) := by
 have hl : (Vf u ++ n).length = 8 + n.length := by rw [List.length_append, ZC]
 have hl8 := ZC v;have hp : ZL D i 0 ((Vf v).length : Nat) = 0 := by unfold ZL; rw [h]; exact if_neg (by omega)
 refine ⟨hp, ?_⟩;unfold VW;rw [if_pos hp, h];refine congrArg (fun z => D.set (i - 1).toNat (some z)) ?_;show spl (Vf u ++ n) 0 (Vf v) = _;unfold spl;have : (Vf u ++ n).drop 8 = n := by
  have := List.drop_left (l₁ := Vf u) (l₂ := n);rw [ZC] at this; exact this
 rw [List.take_zero, hl8, Nat.zero_add, this]; rfl
set_option maxRecDepth 10000 in
theorem o7 {tb ab ib lb N : Nat} {D : List (Option Bt)} {H : List Chunk} (hA : Ar ab N D H) {i : Int} {u : Nat} {n : Bs} (hb : Zh D i = some (Vf u ++ n)) (v : Nat) (_hv : v < 2 ^ 60) : Tri Tryz.prog 104 #[.pointer (some ⟨tb, 0, none⟩), .int .i64 i, .int .i64 (v : Int)] [wY tb ab ib lb, H]
 (fun r S => r = .tuple #[] ∧ ∃ H', Ar ab N (D.set (i - 1).toNat (some (Vf v ++ n))) H' ∧ S = [wY tb ab ib lb, H']) := by
 refine Tri.forget (zm Tryz.EM (Nat.le_of_ble_eq_true rfl) ?_);unfold Tryz.x104;have hz8 : ([.int .u8 0, .int .u8 0, .int .u8 0, .int .u8 0, .int .u8 0, .int .u8 0, .int .u8 0, .int .u8 0] : List Value) = cells (yY v 0) := rfl;rw [hz8];refine ze (z8 ?_);refine zh (Zf fun p6 => ?_);refine zf (za (ze (ze (z8 (yp pC (zf (za (zw ?_))))))));refine Z7 (σ := Nat) (fun k E S => Has E [(0, .pointer (some ⟨tb, 0, none⟩)), (1, .int .i64 i), (2, .int .i64 (v : Int)), (6, .pointer (some ⟨p6, 0, none⟩)), (8, .int .i64 (k : Int))] ∧ k ≤ 8 ∧ zB S [[(p6, .cells (cells (yY v k)).toArray 204)], wY tb ab ib lb, H]) (fun k => 8 - k) 0 ⟨⟨rfl, rfl, rfl, rfl, rfl, trivial⟩, Nat.zero_le _, .of⟩ fun k E S ⟨hE, hk, hJ⟩ => ?_
 have hal := J4 (n := v) hk;obtain ⟨E0, e0⟩ := zy hE; subst e0; clear hE;refine zo hJ (ze (z8 (yp (ZP rfl rfl) (zf (za (ze ?_))))));refine zQ rfl (fun h => ?_) (fun h => ?_)
 ·have hlt : k < 8 := by omega
  refine zq (za (ze (zw (ze (z8 (yp (pI rfl) (yp (pI rfl) (zf (za (z8 (yp (pI rfl) (yp (pI rfl) (yp (pI rfl) (yp (UO (j := 8) (k := k) rfl rfl (by omega)) (yp (jv rfl rfl (by omega)) (yp (CG rfl) (yp (LZ (k := (k : Int)) rfl rfl (by omega)) ?_)))))))))))))))));rw [Int.toNat_natCast];refine zh (Zi (M := yY v k) (i := k) (y := UInt8.ofNat (v / 2 ^ (8 * k))) rfl (by omega) rfl rfl (.inl rfl) ?_);rw [iE hlt];refine zf (zR (za (z8 (yp (Ze rfl rfl (by omega)) (yp (pI rfl) (zf (za ?_)))))));exact ⟨k + 1, ⟨⟨rfl, rfl, rfl, rfl, rfl, trivial⟩, by omega, .of⟩, by omega⟩
 ·have hk8 : k = 8 := by omega
  subst hk8;rw [iF];obtain ⟨hp, hw⟩ := qj (v := v) hb;refine zZ (zF (zF (Z0 (za (zX (zi (pP rfl) (zi (zG rfl) (zi (zn rfl) (Z5 rfl rfl (zi (pI rfl) (zi (v := .slice (some ⟨p6, 0, none⟩) 8 8) rfl ?_)))))))))));refine zP (zk (KD (S0 := [[(p6, .cells (cells (Vf v)).toArray 204)]]) hA i 0 (Y := Vf v) (.Gg List.mem_cons_self (ZC v).symm) (by rw [ZC]; decide)) rfl rfl fun r S' h => ?_) zO;obtain ⟨rfl, H2, hA2, rfl⟩ := h;rw [hw] at hA2;refine zL ?_;exact ZV ZY ⟨_, .of, rfl, H2, hA2, rfl⟩
end Go.Proofs.YtejmbmenbailmaaGreat
namespace Go.Proofs.YtejmbmenbailmaaGreat
open Go.Xs
open Enc (enc)
/-- which blocks there are, and how big -/
def bq (D : List (Option Bt)) : List (Option Nat) := D.map (Option.map List.length)
theorem XB {D : List (Option Bt)} {h : Int} {b Y : Bt} (hg : Zh D h = some b) (hl : Y.length = b.length) : bq (D.set (h - 1).toNat (some Y)) = bq D := by
 obtain ⟨j, rfl, hj⟩ := VQ hg;rw [show ((j : Int) + 1 - 1).toNat = j from by omega];unfold bq;refine List.ext_getElem? fun i => ?_
 rw [List.getElem?_map, List.getElem?_map, List.getElem?_set];split
 ·next h => subst h; rw [if_pos (List.getElem?_eq_some_iff.1 hj).1, hj]; simp [hl]
 ·rfl
/-! ### small letters once and again -/
theorem mW (b : UInt8) : low (low b) = low b := by
 unfold low;by_cases h : 65 ≤ b.toNat ∧ b.toNat ≤ 90
 ·rw [if_pos h];have : (UInt8.ofNat (b.toNat + 32)).toNat = (b.toNat + 32) % 256 := by simp
  rw [if_neg (by rw [this]; omega)]
 ·rw [if_neg h, if_neg h]
theorem Ql : ∀ (f : Nat) (Y : Bs) (a : Nat), Xq f (Y.map low) a = Xq f Y a
 | 0, _, _ => rfl
 | f + 1, Y, a => by
  unfold Xq;rw [List.getElem?_map];cases hy : Y[a]? with
  | none => rfl
  | some b =>
   simp only [Option.map_some];have hlow : (low b).toNat = b.toNat ∨ (63 < (low b).toNat ∧ 63 < b.toNat) := by
    unfold low;by_cases h : 65 ≤ b.toNat ∧ b.toNat ≤ 90
    ·rw [if_pos h];have : (UInt8.ofNat (b.toNat + 32)).toNat = (b.toNat + 32) % 256 := by simp
     right; omega
    ·rw [if_neg h]; exact .inl rfl
   by_cases h1 : 255 ≤ a
   ·rw [if_pos h1, if_pos h1]
   ·rw [if_neg h1, if_neg h1];rcases hlow with h | ⟨h2, h3⟩
    ·rw [h, Ql f Y]
    ·rw [if_neg (show ¬ (low b).toNat = 0 from by omega), if_pos h2, if_neg (show ¬ b.toNat = 0 from by omega), if_pos h3]
theorem qJ (Y : Bs) : vL (Y.map low) = vL Y := by
 unfold vL lead;rw [Ql, List.length_map]
theorem VF (Y : Bs) : vL (zx Y) = vL Y := by
 unfold zx;split
 ·exact qJ Y
 ·rfl
theorem xU (Y : Bs) : zx (zx Y) = zx Y := by
 unfold zx;by_cases h : vL Y = true
 ·rw [if_pos h, if_pos (by rw [qJ]; exact h), List.map_map];exact List.map_congr_left fun b _ => mW b
 ·rw [if_neg h, if_neg h]
/-! ### Add -/
def WC (N : Nat) (D : List (Option Bt)) (L : List Nm) (Y : Bs) : Int := if vL Y = false then 2 else if (Vj L (zx Y)).isSome then 0 else ZA N D (8 + (Y.length : Int))
def ZG (D : List (Option Bt)) (L : List Nm) (n : Bs) : List Nm := match Vy n L with
 | some j => (match L[j]? with | some e => reuse L j e (e.u + 1) | none => L)
 | none => L ++ [⟨((hnd D : Nat) : Int), n, 1⟩]
def uW (D : List (Option Bt)) (L : List Nm) (n : Bs) : Int := ((Vj L n).map (·.id)).getD ((hnd D : Nat) : Int)
def WE (D : List (Option Bt)) (L : List Nm) (n : Bs) : List (Option Bt) := if (Vj L n).isSome then D else ZB D (8 + n.length)
theorem vK {L : List Nm} {n : Bs} {e : Nm} (h : Vj L n = some e) : ∃ j, Vy n L = some j ∧ L[j]? = some e ∧ e.n = n := by
 unfold Vj at h;cases hx : Vy n L with
 | none => rw [hx] at h; cases h
 | some j =>
  obtain ⟨e', h1, h2⟩ := UU hx;rw [hx] at h;simp only [Option.bind_some, h1] at h;obtain rfl := Option.some.inj h;exact ⟨j, rfl, h1, h2⟩
theorem WA {L : List Nm} {n : Bs} (h : Vj L n = none) : Vy n L = none := by
 unfold Vj at h;cases hx : Vy n L with
 | none => rfl
 | some j =>
  obtain ⟨e', h1, h2⟩ := UU hx;rw [hx] at h;simp only [Option.bind_some, h1] at h;cases h
/-- a name's uses change, in the arena and in the list -/
theorem WX.reuse {D : List (Option Bt)} {L : List Nm} {B : List (Int × Bs)} (h : WX D L B) {j : Nat} {e : Nm} {v : Nat} (he : L[j]? = some e) (hv : v < 2 ^ 60) : WX (D.set (e.id - 1).toNat (some (Vf v ++ e.n))) (reuse L j e v) B := by
 have hem := List.mem_of_getElem? he;have hb := h.blk e hem;refine ⟨h.dis.reuse he, fun x hx => ?_, fun x hx => ⟨?_, fun y hy => ?_⟩, fun i b hib => ?_, fun x hx => ?_, fun x hx => ?_⟩
 ·rw [Wy hb];obtain ⟨i, hi⟩ := List.mem_iff_getElem?.1 hx;unfold Proofs.YtejmbmenbailmaaGreat.reuse at hi;rw [List.getElem?_set] at hi;split at hi
  ·next hij =>
   subst hij;rw [if_pos (List.getElem?_eq_some_iff.1 he).1] at hi;obtain rfl := (Option.some.inj hi).symm;rw [if_pos rfl]
  ·next hij =>
   have hne : x.id ≠ e.id := fun h2 => by
    have h3 : (L.map (·.id))[i]? = some e.id := by rw [List.getElem?_map, hi, Option.map_some, h2]
    have h4 : (L.map (·.id))[j]? = some e.id := by rw [List.getElem?_map, he, Option.map_some]
    exact hij ((List.getElem?_inj (List.getElem?_eq_some_iff.1 h3).1 h.dis.ids).1 (h3.trans h4.symm)).symm
   rw [if_neg hne];exact h.blk x (List.mem_of_getElem? hi)
 ·rw [Wy hb, if_neg fun h2 => (h.oth x hx).2 e hem h2.symm]; exact (h.oth x hx).1
 ·obtain ⟨z, hz, h2, _⟩ := VL he hy;rw [← h2]; exact (h.oth x hx).2 z hz
 ·rw [Wy hb] at hib;have hin : ∀ y ∈ L, y.id = i → ∃ x ∈ Proofs.YtejmbmenbailmaaGreat.reuse L j e v, x.id = i := fun y hy hyi => by
   obtain ⟨x, hx, h2, _⟩ := WQ (u := v) he hy;exact ⟨x, hx, h2.trans hyi⟩
  by_cases h2 : i = e.id
  ·exact .inl (hin e hem h2.symm)
  ·rw [if_neg h2] at hib;rcases h.all i b hib with ⟨y, hy, hyi⟩ | hx
   ·exact .inl (hin y hy hyi)
   ·exact .inr hx
 ·unfold Proofs.YtejmbmenbailmaaGreat.reuse at hx;rcases List.mem_or_eq_of_mem_set hx with hx | rfl
  ·exact h.us x hx
  ·exact hv
 ·obtain ⟨y, hy, _, h2⟩ := VL he hx;rw [← h2]; exact h.fold y hy
/-- a new name, not yet used -/
theorem WX.new {D : List (Option Bt)} {L : List Nm} {B : List (Int × Bs)} (h : WX D L B) {n : Bs} (hn : Vy n L = none) (hv : vL n = true) (hf : zx n = n) :
 WX ((ZB D (8 + n.length)).set (hnd D - 1) (some (Vf 0 ++ n))) (L ++ [⟨((hnd D : Nat) : Int), n, 0⟩]) B := by
 have hno : Zh D ((hnd D : Nat) : Int) = none := by
  have := vH D;have hp := wJ D;rw [show ((hnd D : Nat) : Int) = ((hnd D - 1 : Nat) : Int) + 1 from by omega, Zz]; exact this
 have hid : ∀ x ∈ L, x.id ≠ ((hnd D : Nat) : Int) := fun x hx e => by
  have := h.blk x hx;rw [e, hno] at this; cases this
 have hg := wR D (8 + n.length);have hidx : (((hnd D : Nat) : Int) - 1).toNat = hnd D - 1 := by have := wJ D; omega
 have hset := fun k => Wy (Y := Vf 0 ++ n) hg k
 rw [hidx] at hset;refine ⟨h.dis.add hid (V9 hn), fun x hx => ?_, fun x hx => ?_, fun i b hib => ?_, fun x hx => ?_, fun x hx => ?_⟩
 ·rw [hset];rcases List.mem_append.1 hx with hx | hx
  ·rw [if_neg (hid x hx), Zt (hid x hx)]; exact h.blk x hx
  ·rw [List.mem_singleton.1 hx, if_pos rfl]
 ·obtain ⟨h1, h2⟩ := h.oth x hx;have hne : x.1 ≠ ((hnd D : Nat) : Int) := fun e => by rw [e, hno] at h1; cases h1
  refine ⟨?_, fun e he => ?_⟩
  ·rw [hset, if_neg hne, Zt hne]; exact h1
  ·rcases List.mem_append.1 he with he | he
   ·exact h2 e he
   ·rw [List.mem_singleton.1 he]; exact fun h3 => hne h3.symm
 ·rw [hset] at hib;by_cases h2 : i = ((hnd D : Nat) : Int)
  ·exact .inl ⟨⟨((hnd D : Nat) : Int), n, 0⟩, by simp, h2.symm⟩
  ·rw [if_neg h2, Zt h2] at hib;rcases h.all i b hib with ⟨y, hy, hyi⟩ | hx
   ·exact .inl ⟨y, List.mem_append.2 (.inl hy), hyi⟩
   ·exact .inr hx
 ·rcases List.mem_append.1 hx with hx | hx
  ·exact h.us x hx
  ·rw [List.mem_singleton.1 hx]; exact Nat.pow_pos (by decide)
 ·rcases List.mem_append.1 hx with hx | hx
  ·exact h.fold x hx
  ·rw [List.mem_singleton.1 hx]; exact ⟨hv, hf⟩
theorem Tb.reuse {tb ab : Nat} {L : List Nm} {T : List Chunk} (h : Tb tb ab L T) (hd : xD L) {j : Nat} {e : Nm} {v : Nat} (he : L[j]? = some e) : Tb tb ab (reuse L j e v) T := by
 obtain ⟨ib, lb, HI, HG, h1, h2, rfl⟩ := h;refine ⟨ib, lb, HI, HG, ?_, ?_, rfl⟩
 ·rw [JQ hd he]; unfold Proofs.YtejmbmenbailmaaGreat.reuse; rw [List.length_set]; exact h1
 ·rw [J8 he]; unfold Proofs.YtejmbmenbailmaaGreat.reuse; rw [List.length_set]; exact h2
end Go.Proofs.YtejmbmenbailmaaGreat
namespace Go.Proofs.YtejmbmenbailmaaGreat
open Go.Xs
open Enc (enc)
theorem aJ {Y : Bs} (h : vL Y = true) : vL (zx Y) = true ∧ zx (zx Y) = zx Y := ⟨by rw [VF]; exact h, xU Y⟩
set_option maxRecDepth 10000 in
set_option maxHeartbeats 1000000 in
theorem BU {tb ab N : Nat} {D : List (Option Bt)} {H : List Chunk} {L : List Nm} {T : List Chunk} {B : List (Int × Bs)} (hT : Tb tb ab L T) (hA : Ar ab N D H) (hI : WX D L B) (hu : ∀ e ∈ L, e.u + 1 < 2 ^ 60) (Y : Bs) (hY : Y.length < 2 ^ 62) :
 Tri Tryz.prog 59 #[.pointer (some ⟨tb, 0, none⟩), sv Y] [T, H] (fun r S =>
  (WC N D L Y ≠ 0 ∧ r = .tuple #[.int .i64 0, .int .i64 (WC N D L Y)] ∧ S = [T, H]) ∨
  (WC N D L Y = 0 ∧ ∃ (T' H' : List Chunk) (D' : List (Option Bt)), r = .tuple #[.int .i64 (uW D L (zx Y)), .int .i64 0] ∧ Tb tb ab (ZG D L (zx Y)) T' ∧ Ar ab N D' H' ∧ WX D' (ZG D L (zx Y)) B ∧ bq D' = bq (WE D L (zx Y)) ∧ S = [T', H'])) := by
 obtain ⟨ib, lb, HI, HG, hMI, hMG, rfl⟩ := hT;refine Tri.forget (Tri.perm (S := [wY tb ab ib lb, HI, HG, H]) (by simp) (zm Tryz.GV (Nat.le_of_ble_eq_true rfl) ?_));unfold Tryz.L9;have hback : ∀ {S' : zu}, zB S' [wY tb ab ib lb, HI, HG, H] → zB S' [wY tb ab ib lb ++ HI ++ HG, H] := fun h => h.trans ⟨[], by simp⟩
 refine ze (z8 (yp pC (yp pC (zf (za (ze (zw (ze (z8 (yp (pT rfl) ?_))))))))));refine zh (zk (u7 Y hY) rfl rfl fun r S' h => ?_);obtain ⟨rfl, rfl⟩ := h;cases hv : vL Y with
 | false =>
  have hE : WC N D L Y = 2 := by unfold WC; rw [if_pos hv]
  refine yp (Zg rfl) (yp (pB rfl) (zf (za (zH rfl (ze (z8 (yp pC (yp pC (zf (za (zJ (bret (zU ?_)))))))))))));exact zI (jo rfl rfl) ⟨_, hback .of, .inl ⟨by rw [hE]; decide, by rw [hE], rfl⟩⟩
 | true =>
 obtain ⟨hvn, hfn⟩ := aJ hv;have hfl := wV Y;have h255 := Wx hv;refine yp (Zg rfl) (yp (pB rfl) (zf (za (zA rfl (ze (z8 (yp (pP rfl) ?_)))))));refine zh (zk (kQ (tb := tb) (ab := ab) (ib := ib) (lb := lb)) rfl rfl fun r S' h => ?_);obtain ⟨rfl, rfl⟩ := h;refine yp (pB rfl) (zf (za (zA rfl (zq (zR (za (ze (z8 (yp (pT rfl) ?_)))))))));refine zh (zk (Kh Y hY) rfl rfl fun r S' h => ?_);obtain ⟨rfl, rfl⟩ := h;have hid : uF L ⟨(zx Y).toArray⟩ = (Vj L (zx Y)).map (·.id) := by
  unfold uF Vj;cases Vy (zx Y) L <;> rfl
 generalize hn : zx Y = n at *
 refine yp (pT rfl) (zf (za (ze (z8 (yp (pP rfl) (yp (zG rfl) (yp (zn rfl) ?_)))))));refine zh (zD rfl rfl ?_);refine yp (pT rfl) ?_;refine zh (bJ (v := .int .i64 (((Vj L n).map (·.id)).getD 0)) (bl := (Vj L n).isSome) hMI (by simp) (⟨n.toArray⟩ : ByteArray) kN xH Jj rfl rfl ?_ ?_ ?_)
 ·rw [hid]; cases Vj L n <;> rfl
 ·rw [hid]; cases Vj L n <;> rfl
 refine yp (pU rfl) (yp (pExt rfl rfl) (yp (pExt rfl rfl) (yp (pI rfl) (yp (pB rfl) (zf (za ?_))))));refine Yl (fun E S' => ∃ (ib lb : Nat) (L1 : List Nm) (HI HG H1 : List Chunk) (D1 : List (Option Bt)) (j : Nat) (e : Nm), Has E [(0, .pointer (some ⟨tb, 0, none⟩)), (6, .int .i64 e.id)] ∧ Mp ib (uF L1) L1.length HI ∧ Mp lb (WK L1) L1.length HG ∧ Ar ab N D1 H1 ∧ WX D1 L1 B ∧ L1[j]? = some e ∧ e.u + 1 < 2 ^ 60 ∧
  WC N D L Y = 0 ∧ e.id = uW D L n ∧ reuse L1 j e (e.u + 1) = ZG D L n ∧ bq D1 = bq (WE D L n) ∧ zB S' [wY tb ab ib lb, HI, HG, H1]) ?_ ?_
 ·cases hb : Vj L n with
  | some e =>
   obtain ⟨j, h1, h2, h3⟩ := vK hb;have hE : WC N D L Y = 0 := by unfold WC; rw [if_neg (by rw [hv]; decide), hn, hb]; rfl
   refine ze (z8 (yp (pB rfl) (yp (Zg rfl) (zf (za (zA rfl (zq (za ?_))))))));refine ⟨ib, lb, L, HI, HG, H, D, j, e, ⟨rfl, rfl, trivial⟩, hMI, hMG, hA, hI, h2, hu e (List.mem_of_getElem? h2), hE, ?_, ?_, ?_, .of⟩
   ·unfold uW; rw [hb]; rfl
   ·unfold ZG; rw [h1]; simp only [h2]
   ·unfold WE; rw [hb]; rfl
  | none =>
   have h1 := WA hb;have hEa : WC N D L Y = ZA N D (8 + (n.length : Int)) := by unfold WC; rw [if_neg (by rw [hv]; decide), hn, hb, if_neg (by decide), hfl]
   refine ze (z8 (yp (pB rfl) (yp (Zg rfl) (zf (za (zH rfl (ze (z8 (yp (pP rfl) (yp (zG rfl) (yp (zn rfl) ?_)))))))))));refine zh (zD rfl rfl ?_);refine yp (pT rfl) (yp (uO rfl) ?_);rw [qN];refine yp (Wv rfl rfl (by omega)) ?_;refine zh (zk (KF hA ((8 + n.length : Nat) : Int)) rfl rfl fun r S' h => ?_);rw [show ((8 + n.length : Nat) : Int) = 8 + (n.length : Int) from by omega] at h;rcases h with ⟨he, rfl, rfl⟩ | ⟨he, m, H1, hm, rfl, hA1, rfl⟩
   ·rw [← hEa] at he ⊢;refine yp (pU rfl) (yp (pExt rfl rfl) (yp (pExt rfl rfl) (yp (pI rfl) (yp (pI rfl) (zf (za (ze (ze (z8 (yp (pI rfl) (yp (Xd rfl rfl) (zf (za ?_)))))))))))));refine Ve rfl (fun _ => ?_) (fun h2 => absurd h2 he);refine ze (z8 (yp (pI rfl) (yp pC (yp (pI rfl) (zf (za (zJ (zU (zU ?_)))))))));exact zI (jo rfl rfl) ⟨_, hback .of, .inl ⟨he, rfl, rfl⟩⟩
   obtain rfl : m = 8 + n.length := by omega
   have hnew := hI.new h1 hvn (by rw [← hn]; exact xU Y);have hno : Zh D ((hnd D : Nat) : Int) = none := by
    have := vH D;have hp := wJ D;rw [show ((hnd D : Nat) : Int) = ((hnd D - 1 : Nat) : Int) + 1 from by omega, Zz]; exact this
   have hidn : ∀ x ∈ L, x.id ≠ (⟨((hnd D : Nat) : Int), n, 0⟩ : Nm).id := fun x hx e => by
    have := hI.blk x hx;rw [e, hno] at this; cases this
   have hnn : ∀ x ∈ L, x.n ≠ (⟨((hnd D : Nat) : Int), n, 0⟩ : Nm).n := V9 h1;have hf1 := gD hI.dis hidn hnn;have hf2 := aX (L := L) (e := ⟨((hnd D : Nat) : Int), n, 0⟩);have hi0 : uF L ⟨n.toArray⟩ = none := by rw [hid, hb]; rfl
   have ha0 : WK L ((hnd D : Nat) : Int) = none := by
    cases hx : WK L ((hnd D : Nat) : Int) with
    | none => rfl
    | some b => obtain ⟨_, x, hx1, hx2⟩ := Wt.1 hx; exact absurd hx2 (hidn x hx1)
   refine yp (pU rfl) (yp (pExt rfl rfl) (yp (pExt rfl rfl) (yp (pI rfl) (yp (pI rfl) (zf (za (ze ?_)))))))
   skip
   refine ze (z8 (yp (pI rfl) (yp (Xd rfl rfl) (zf (za (zA rfl (zq (za (ze (vP (R := [wY tb ab ib lb]) (by simp) (zi (pP rfl) (zi (zG rfl) (zi (zn rfl) (Z5 rfl rfl (zi (pT rfl) (zi (pP rfl) (zi (zG rfl) (zi (zn rfl) (Z5 rfl rfl (zi (pI rfl) (zi (pI rfl) (zi (pI rfl) (zi (pI rfl) ?_)))))))))))))))))))))));refine zP (Yk (z0 := (0 : Int)) hMI (⟨n.toArray⟩ : ByteArray) kN xH Jj rfl rfl fun s1 HI1 hS1 => ?_) zO;refine zi (pExt rfl rfl) ?_;refine zP (X7 (v := ((hnd D : Nat) : Int)) hS1 rfl rfl rfl fun HI2 hMI2 => ?_) zO;refine zP (Yk (z0 := false) hMG ((hnd D : Nat) : Int) kP kM Xv rfl rfl fun s2 HG1 hS2 => ?_) zO;refine zi (pExt rfl rfl) ?_;refine zP (X7 (v := true) hS2 rfl rfl rfl fun HG2 hMG2 => ?_) zO;rw [ay] at hMI2 hMG2;have hc1 : Xo (uF L) (⟨n.toArray⟩ : ByteArray) L.length = (L ++ [(⟨((hnd D : Nat) : Int), n, 0⟩ : Nm)]).length := by unfold Xo; rw [hi0]; simp
   have hc2 : Xo (WK L) ((hnd D : Nat) : Int) L.length = (L ++ [(⟨((hnd D : Nat) : Int), n, 0⟩ : Nm)]).length := by unfold Xo; rw [ha0]; simp
   rw [hc1, ← hf1] at hMI2;rw [hc2, ← hf2] at hMG2;refine zL (za (z8 (yp (pP rfl) (yp (zG rfl) (yp (zn rfl) ?_)))));refine zh (zD rfl rfl ?_);refine yp (pI rfl) (yp (pT rfl) ?_);refine zh (Ap rfl fun v Hs hLs => ?_);have hLs : Zb 5 v n Hs := hLs
   skip
   have hg := wR D (8 + n.length);have hp : ZL (ZB D (8 + n.length)) ((hnd D : Nat) : Int) 8 (n.length : Nat) = 0 := by
    unfold ZL; rw [hg]; exact if_neg (by rw [bE]; omega)
   have hw : VW (ZB D (8 + n.length)) ((hnd D : Nat) : Int) 8 n = (ZB D (8 + n.length)).set (hnd D - 1) (some (Vf 0 ++ n)) := by
    unfold VW;rw [if_pos hp, hg];have hidx : (((hnd D : Nat) : Int) - 1).toNat = hnd D - 1 := by have := wJ D; omega
    rw [hidx];refine congrArg (fun z => (ZB D (8 + n.length)).set (hnd D - 1) (some z)) ?_;show spl (zeros (8 + n.length)) 8 n = Vf 0 ++ n;unfold spl zeros;rw [List.take_replicate, List.drop_replicate, Nat.min_eq_left (by omega), Nat.sub_self, List.replicate_zero, List.append_nil];rfl
   refine zh (zk (KD (S0 := [Hs]) hA1 ((hnd D : Nat) : Int) 8 (Y := n) (hLs.src (by simp)) (by show n.length ≤ 9223372036854775807; omega)) rfl rfl fun r S' h => ?_);obtain ⟨rfl, H2, hA2, rfl⟩ := h;rw [hw] at hA2;refine zf (za ?_);refine ⟨ib, lb, L ++ [⟨((hnd D : Nat) : Int), n, 0⟩], HI2, HG2, H2, _, L.length, ⟨((hnd D : Nat) : Int), n, 0⟩, ⟨rfl, rfl, trivial⟩, hMI2, hMG2, hA2, hnew, by simp, (by show 0 + 1 < 2 ^ 60; decide), by rw [hEa]; exact he, ?_, ?_, ?_, .of⟩
   ·unfold uW; rw [hb]; rfl
   ·unfold ZG reuse; rw [h1]; simp
   ·have hlen : (Vf 0 ++ n).length = (zeros (8 + n.length)).length := by rw [List.length_append, ZC, bE]
    have hidx : (((hnd D : Nat) : Int) - 1).toNat = hnd D - 1 := by have := wJ D; omega
    have := XB (Y := Vf 0 ++ n) hg hlen;rw [hidx] at this;rw [this]; unfold WE; rw [hb]; rfl
 clear hback hMI hMG;intro E S' ⟨ib, lb, L1, HI1, HG1, H1, D1, j, e, hE, hMI1, hMG1, hA1, hI1, hj, heu, hE0, hea, hre, hsh, hJ⟩;have hem := List.mem_of_getElem? hj;have hblk := hI1.blk e hem;obtain ⟨E0, e0⟩ := zy hE; subst e0; clear hE;refine zo hJ (zo (zB.re (S1 := [wY tb ab ib lb, HI1, HG1, H1]) (S2 := [wY tb ab ib lb ++ HI1 ++ HG1, H1]) (by simp)) ?_);have hby : Yb L1 e.id = some e := by unfold Yb; rw [Qh hI1.dis.ids hj]; exact hj
 refine ze (z8 (yp (pP rfl) (yp (pI rfl) (yp (pP rfl) (yp (pI rfl) ?_)))));refine zh (zk (cK (Tb.mk hMI1 hMG1) hA1 hI1 e.id) rfl rfl fun r S' h => ?_);obtain ⟨rfl, rfl⟩ := h;rw [hby];refine uI (zB.re (S1 := [wY tb ab ib lb ++ HI1 ++ HG1, H1]) (S2 := [wY tb ab ib lb, HI1, HG1, H1]) (by simp)) ?_;have heu2 : e.u < 2 ^ 60 := by omega
 show YL _ _ _ _ _ (Zc _ (.int .i64 (e.u : Int)) _) _;refine yp (Ze rfl rfl (by omega)) ?_;refine zh (zk (o7 (tb := tb) (ib := ib) (lb := lb) hA1 hblk (e.u + 1) heu) rfl rfl fun r S' h => ?_);obtain ⟨rfl, H2, hA2, rfl⟩ := h;have hlen : (Vf (e.u + 1) ++ e.n).length = (Vf e.u ++ e.n).length := by rw [List.length_append, List.length_append, ZC, ZC]
 have hI2 := hI1.reuse hj heu;have hT2 := Tb.reuse (v := e.u + 1) (Tb.mk (tb := tb) (ab := ab) hMI1 hMG1) hI1.dis hj;have hs2 := XB hblk hlen;rw [hre] at hI2 hT2;refine zf (za (ze (z8 (yp (pI rfl) (yp (pI rfl) (yp pC (zf (za (zJ ?_)))))))));exact zI (jo rfl rfl) ⟨[wY tb ab ib lb ++ HI1 ++ HG1, H2], zB.re (S1 := [wY tb ab ib lb, HI1, HG1, H2]) (by simp), .inr ⟨hE0, _, H2, _, by rw [hea], hT2, hA2, hI2, hs2.trans hsh, rfl⟩⟩
end Go.Proofs.YtejmbmenbailmaaGreat
namespace Go.Proofs.YtejmbmenbailmaaGreat
open Go.Xs
open Enc (enc)
def Pos (L : List Nm) : Prop := ∀ e ∈ L, 1 ≤ e.u
def Qy (L : List Nm) (i : Int) : Int := if (Yb L i).isSome then 0 else 5
def vI (L : List Nm) (i : Int) : List Nm := match VJ i L with
 | some j => (match L[j]? with | some e => if e.u = 1 then L.eraseIdx j else reuse L j e (e.u - 1) | none => L)
 | none => L
def Ug (D : List (Option Bt)) (L : List Nm) (i : Int) : List (Option Bt) := match Yb L i with
 | some e => if e.u = 1 then WH D i else D
 | none => D
theorem YM {D : List (Option Bt)} {i : Int} {b : Bt} (hb : Zh D i = some b) : Zh (WH D i) i = none := by
 obtain ⟨j, rfl, hj⟩ := VQ hb;unfold WH;rw [hb, if_pos (show (some b).isSome = true from rfl), Zz, show ((j : Int) + 1 - 1).toNat = j from by omega, List.getElem?_set_self (List.getElem?_eq_some_iff.1 hj).1]; rfl
theorem WX.drop {D : List (Option Bt)} {L : List Nm} {B : List (Int × Bs)} (h : WX D L B) {j : Nat} {e : Nm} (he : L[j]? = some e) : WX (WH D e.id) (L.eraseIdx j) B := by
 have hb := h.blk e (List.mem_of_getElem? he);have hself := YM hb;refine ⟨h.dis.erase j, fun x hx => ?_, fun x hx => ⟨?_, fun y hy => ?_⟩, fun i b hib => ?_, fun x hx => ?_, fun x hx => ?_⟩
 ·obtain ⟨h1, h2, _⟩ := Ws h.dis he hx;rw [ZR h2]; exact h.blk x h1
 ·rw [ZR fun h2 => (h.oth x hx).2 e (List.mem_of_getElem? he) h2.symm]; exact (h.oth x hx).1
 ·exact (h.oth x hx).2 y (Ws h.dis he hy).1
 ·by_cases h2 : i = e.id
  ·rw [h2, hself] at hib; cases hib
  ·rw [ZR h2] at hib;rcases h.all i b hib with ⟨y, hy, hyi⟩ | hx
   ·exact .inl ⟨y, mem_erase he hy (.inl fun h3 => h2 (hyi.symm.trans h3)), hyi⟩
   ·exact .inr hx
 ·exact h.us x (Ws h.dis he hx).1
 ·exact h.fold x (Ws h.dis he hx).1
theorem gK {D : List (Option Bt)} {i : Int} {b Y : Bt} (hb : Zh D i = some b) : WH (D.set (i - 1).toNat (some Y)) i = WH D i := by
 have h1 := Wy (Y := Y) hb i;rw [if_pos rfl] at h1;unfold WH;rw [h1, hb, if_pos (show (some Y).isSome = true from rfl), if_pos (show (some b).isSome = true from rfl), List.set_set]
set_option maxRecDepth 10000 in
set_option maxHeartbeats 1000000 in
theorem cO {tb ab N : Nat} {D : List (Option Bt)} {H : List Chunk} {L : List Nm} {T : List Chunk} {B : List (Int × Bs)} (hT : Tb tb ab L T) (hA : Ar ab N D H) (hI : WX D L B) (hP : Pos L) (i : Int) :
 Tri Tryz.prog 61 #[.pointer (some ⟨tb, 0, none⟩), .int .i64 i] [T, H] (fun r S => r = .int .i64 (Qy L i) ∧ ∃ (T' H' : List Chunk) (D' : List (Option Bt)), Tb tb ab (vI L i) T' ∧ Ar ab N D' H' ∧ WX D' (vI L i) B ∧ bq D' = bq (Ug D L i) ∧ S = [T', H']) := by
 refine Tri.forget (zm Tryz.GR (Nat.le_of_ble_eq_true rfl) ?_);unfold Tryz.L6;refine ze (z8 (yp pC (zf (za (ze (z8 (yp (pP rfl) (yp (pI rfl) ?_))))))));refine zh (zk (Jr hT hA hI i) rfl rfl fun r S' h => ?_);obtain ⟨rfl, rfl⟩ := h;cases hb : Yb L i with
 | none =>
  have h1 := jZ hb;refine yp (pU rfl) (yp (pExt rfl rfl) (yp (pExt rfl rfl) (yp (pT rfl) (yp (pB rfl) (zf (za (ze (ze (z8 (yp (pB rfl) (yp (Zg rfl) (zf (za (zH rfl (ze (z8 (yp pC (zf (za (zJ (zU ?_)))))))))))))))))))));refine zI (rI rfl) ⟨_, .of, by unfold Qy; rw [hb]; rfl, T, H, D, ?_, hA, ?_, ?_, rfl⟩
  ·unfold vI; rw [h1]; exact hT
  ·unfold vI; rw [h1]; exact hI
  ·unfold Ug; rw [hb]
 | some e =>
  obtain ⟨j, h1, h2, rfl⟩ := yU hb;have hem := List.mem_of_getElem? h2;have hpos := hP e hem;have hblk := hI.blk e hem;have hus := hI.us e hem;have hu1 : e.u - 1 < 2 ^ 60 := by omega
  have hlen : (Vf (e.u - 1) ++ e.n).length = (Vf e.u ++ e.n).length := by rw [List.length_append, List.length_append, ZC, ZC]
  have hR : Qy L e.id = 0 := by unfold Qy; rw [hb]; rfl
  have hLd : vI L e.id = if e.u = 1 then L.eraseIdx j else reuse L j e (e.u - 1) := by unfold vI; rw [h1]; simp only [h2]
  have hDd : Ug D L e.id = if e.u = 1 then WH D e.id else D := by unfold Ug; rw [hb]
  refine yp (pU rfl) (yp (pExt rfl rfl) (yp (pExt rfl rfl) (yp (pT rfl) (yp (pB rfl) (zf (za (ze (ze (z8 (yp (pB rfl) (yp (Zg rfl) (zf (za (zA rfl (zq (za (ze (z8 (yp (pP rfl) (yp (pI rfl) ?_))))))))))))))))))));refine zh (zk (cK hT hA hI e.id) rfl rfl fun r S' h => ?_);obtain ⟨rfl, rfl⟩ := h;rw [hb];have hT0 := hT;obtain ⟨ib, lb, HI, HG, hMI, hMG, rfl⟩ := hT;refine uI (zB.re (S1 := [wY tb ab ib lb ++ HI ++ HG, H]) (S2 := [wY tb ab ib lb, HI, HG, H]) (by simp)) ?_;show YL _ _ _ _ _ (Zc _ (.int .i64 (e.u : Int)) _) _;refine yp (w9 rfl rfl (by omega)) (yp (pI rfl) (zf (za (ze (z8 (yp (pP rfl) (yp (pI rfl) (yp (pI rfl) ?_))))))));refine zh (zk (o7 (tb := tb) (ib := ib) (lb := lb) hA hblk (e.u - 1) hu1) rfl rfl fun r S' h => ?_);obtain ⟨rfl, H2, hA2, rfl⟩ := h;refine zf (za (ze (ze (z8 (yp (pI rfl) (yp (vg rfl rfl) (zf (za ?_))))))));by_cases hu : e.u = 1
  ·rw [if_pos hu] at hLd hDd;rw [decide_eq_true (show ((e.u - 1 : Nat) : Int) = 0 from by omega)];refine zH rfl (ze (z8 (yp (pP rfl) (yp (zG rfl) (yp (zn rfl) ?_)))));refine zh (zD rfl rfl ?_);refine yp (pT rfl) ?_;refine zh (bI hMI (⟨e.n.toArray⟩ : ByteArray) kN xH rfl rfl fun HI2 hMI2 => ?_);refine zf (za (ze (z8 (yp (pP rfl) (yp (zG rfl) (yp (zn rfl) ?_))))));refine zh (zD rfl rfl ?_);refine yp (pI rfl) ?_;refine zh (bI hMG e.id kP kM rfl rfl fun HG2 hMG2 => ?_);refine zf (za (z8 (yp (pP rfl) (yp (zG rfl) (yp (zn rfl) ?_)))));refine zh (zD rfl rfl ?_);refine yp (pI rfl) ?_;refine zh (zk (iL hA2 e.id) rfl rfl fun r S' h => ?_);obtain ⟨rfl, H3, hA3, rfl⟩ := h;rw [gK hblk] at hA3;have hc1 : Ki (uF L) (⟨e.n.toArray⟩ : ByteArray) L.length = (L.eraseIdx j).length := by
    unfold Ki;rw [(Vh hI.dis).2 ⟨e, hem, rfl, rfl⟩, List.length_eraseIdx, if_pos (List.getElem?_eq_some_iff.1 h2).1]; rfl
   have hc2 : Ki (WK L) e.id L.length = (L.eraseIdx j).length := by
    unfold Ki;rw [Wt.2 ⟨rfl, e, hem, rfl⟩, List.length_eraseIdx, if_pos (List.getElem?_eq_some_iff.1 h2).1]; rfl
   rw [hc1, ← JR hI.dis h2] at hMI2;rw [hc2, ← J9 hI.dis h2] at hMG2;refine zf (za (ze (z8 (yp pC (zf (za (zJ ?_)))))));exact zI (rI rfl) ⟨[wY tb ab ib lb ++ HI2 ++ HG2, H3], zB.re (S1 := [wY tb ab ib lb, HI2, HG2, H3]) (by simp), by rw [hR], _, H3, _, hLd ▸ Tb.mk hMI2 hMG2, hA3, hLd ▸ hI.drop h2, by rw [hDd], rfl⟩
  ·rw [if_neg hu] at hLd hDd;rw [decide_eq_false (show ¬ ((e.u - 1 : Nat) : Int) = 0 from by omega)];refine zA rfl (zq (za (ze (z8 (yp pC (zf (za (zJ ?_))))))));exact zI (rI rfl) ⟨[wY tb ab ib lb ++ HI ++ HG, H2], zB.re (S1 := [wY tb ab ib lb, HI, HG, H2]) (by simp), by rw [hR], _, H2, _, hLd ▸ Tb.reuse hT0 hI.dis h2, hA2, hLd ▸ hI.reuse h2 hu1, by rw [hDd]; exact XB hblk hlen, rfl⟩
end Go.Proofs.YtejmbmenbailmaaGreat
namespace Go.Proofs.YtejmbmenbailmaaGreat
open Go.Xs
open Enc (enc)
theorem WX.nil : WX [] [] [] := ⟨⟨List.nodup_nil, List.nodup_nil⟩, fun e he => by simp at he, fun e he => by simp at he, fun i b h => by unfold Zh at h; split at h <;> simp at h, fun e he => by simp at he, fun e he => by simp at he⟩
theorem Pos.nil : Pos [] := fun e he => by simp at he
end Go.Proofs.YtejmbmenbailmaaGreat
namespace Go.Proofs.YtejmbmenbailmaaGreat
open Go.Xs
open Enc (enc)
theorem qg {L : List Nm} {e : Nm} (he : e ∈ L) : (Vj L e.n).isSome = true := by
 cases hb : Vj L e.n with
 | some x => rfl
 | none => exact absurd rfl (V9 (WA hb) e he)
theorem iO {D : List (Option Bt)} {L : List Nm} {n : Bs} {k : Nat} (h : ∀ e ∈ L, e.u ≤ k) : ∀ e ∈ ZG D L n, e.u ≤ k + 1 := fun e he => by
 cases hb : Vj L n with
 | some x =>
  obtain ⟨j, h1, h2, rfl⟩ := vK hb;have : ZG D L x.n = reuse L j x (x.u + 1) := by unfold ZG; rw [h1]; simp only [h2]
  rw [this] at he;unfold reuse at he;rcases List.mem_or_eq_of_mem_set he with he | rfl
  ·have := h e he; omega
  ·have := h x (List.mem_of_getElem? h2); show x.u + 1 ≤ k + 1; omega
 | none =>
  have : ZG D L n = L ++ [⟨((hnd D : Nat) : Int), n, 1⟩] := by unfold ZG; rw [WA hb]
  rw [this] at he;rcases List.mem_append.1 he with he | he
  ·have := h e he; omega
  ·rw [List.mem_singleton.1 he]; show 1 ≤ k + 1; omega
theorem iP {D : List (Option Bt)} {L : List Nm} {n : Bs} (h : Pos L) : Pos (ZG D L n) := fun e he => by
 cases hb : Vj L n with
 | some x =>
  obtain ⟨j, h1, h2, rfl⟩ := vK hb;have : ZG D L x.n = reuse L j x (x.u + 1) := by unfold ZG; rw [h1]; simp only [h2]
  rw [this] at he;unfold reuse at he;rcases List.mem_or_eq_of_mem_set he with he | rfl
  ·exact h e he
  ·show 1 ≤ x.u + 1; omega
 | none =>
  have : ZG D L n = L ++ [⟨((hnd D : Nat) : Int), n, 1⟩] := by unfold ZG; rw [WA hb]
  rw [this] at he;rcases List.mem_append.1 he with he | he
  ·exact h e he
  ·rw [List.mem_singleton.1 he]; exact Nat.le_refl _
theorem aL {L : List Nm} {i : Int} (h : Pos L) : Pos (vI L i) := fun e he => by
 unfold vI at he;split at he
 ·split at he
  ·next x hx =>
   split at he
   ·exact h e ((List.eraseIdx_sublist _ _).subset he)
   ·next hu =>
    unfold reuse at he;rcases List.mem_or_eq_of_mem_set he with he | rfl
    ·exact h e he
    ·have := h x (List.mem_of_getElem? hx); show 1 ≤ x.u - 1; omega
  ·exact h e he
 ·exact h e he
end Go.Proofs.YtejmbmenbailmaaGreat
