/- The table of names (chapter 7): contracts of its functions. The table of names (chapter 7): uses, names, Add and Drop. The table of names (chapter 7): Add and Drop. The table of names (chapter 7): what Add does. The table of names (chapter 7): Drop; awake. The table of names (chapter 7): Add, once more. The table of names (chapter 7), beside the document's: what Add and Drop leave. -/
import Derived.Test.YtejmbmenbailmaaN1
import Derived.Test.YtejmbmenbailmaaFIntern
namespace Go.Proofs.Ytejmbmenbailmaa
open Go.Xs
open Enc (enc)

theorem undIds : Try.prog.underlying 81 = some (.map 9 3) := by kernel_rfl
theorem undAll : Try.prog.underlying 82 = some (.map 3 4) := by kernel_rfl
theorem undStr : Try.prog.underlying 9 = some .string := by kernel_rfl
theorem undInt : Try.prog.underlying 3 = some (.int .i64) := by kernel_rfl
theorem zerInt : (Try.prog.info? 3).bind (·.zero) = some (.int .i64 0) := by kernel_rfl
theorem zerBool : (Try.prog.info? 4).bind (·.zero) = some (.bool false) := by kernel_rfl

abbrev tseg (tb ab ib lb : Nat) : List Chunk := [(tb, .cells #[.pointer (some ⟨ab, 0, none⟩), .map (some ib), .map (some lb)] 84)]
/-- the table, as one piece of memory -/
def Tb (tb ab : Nat) (L : List Nm) (T : List Chunk) : Prop :=
  ∃ (ib lb : Nat) (HI HG : List Chunk), Mp ib (idOf L) L.length HI ∧ Mp lb (allOf L) L.length HG ∧ T = tseg tb ab ib lb ++ HI ++ HG
/-- the names stand in the arena, and blocks of others; nothing else does -/
structure Inn (D : List (Option Bt)) (L : List Nm) (B : List (Int × Bs)) : Prop where
  dis : Dis L
  blk : ∀ e ∈ L, getB D e.id = some (le8 e.u ++ e.n)
  oth : ∀ x ∈ B, getB D x.1 = some x.2 ∧ ∀ e ∈ L, e.id ≠ x.1
  all : ∀ i b, getB D i = some b → (∃ e ∈ L, e.id = i) ∨ ∃ x ∈ B, x.1 = i
  us : ∀ e ∈ L, e.u < 2 ^ 60
  fold : ∀ e ∈ L, vld e.n = true ∧ foldB e.n = e.n

theorem tbNone {tb ab ib lb : Nat} : Tri Try.prog 39 #[.pointer (some ⟨tb, 0, none⟩)] [tseg tb ab ib lb] (fun r S => r = .bool false ∧ S = [tseg tb ab ib lb]) := by
  refine Tri.forget (ycallee Try.fx39 (Nat.le_of_ble_eq_true rfl) ?_)
  unfold Try.x39
  refine yseq (yregion (yp pC (ynil (tnorm (yseq (yregion (yp (pP rfl) (yp (pNilP rfl rfl) (yp (pB rfl) (ygT rfl (yop (pP rfl) (ygT rfl (yop (pNilc rfl) (ygT rfl (yop (pFadr rfl) (ygT rfl ?_))))))))))))))))
  refine (yload1 rfl rfl ?_)
  refine ygT rfl (yop (pNilP rfl rfl) (yp (pPickF rfl rfl) (yp (pB rfl) (ynil (tnorm (yret ?_))))))
  exact yfin (rB rfl) ⟨_, .of, rfl, rfl⟩
theorem Tb.mk {tb ab ib lb : Nat} {L : List Nm} {HI HG : List Chunk} (h1 : Mp ib (idOf L) L.length HI) (h2 : Mp lb (allOf L) L.length HG) : Tb tb ab L (tseg tb ab ib lb ++ HI ++ HG) := ⟨ib, lb, HI, HG, h1, h2, rfl⟩
theorem tbNew {ab : Nat} : Tri Try.prog 26 #[.pointer (some ⟨ab, 0, none⟩)] [] (fun r S => ∃ tb T, r = .pointer (some ⟨tb, 0, none⟩) ∧ Tb tb ab [] T ∧ S = [T]) := by
  refine Tri.forget (ycallee Try.fx26 (Nat.le_of_ble_eq_true rfl) ?_)
  unfold Try.x26
  refine yseq (yregion (yp pC (ynil (tnorm (yseq (yregion (yp (pP rfl) ?_)))))))
  refine ycons (ymkmap ByteArray Int fun ib HI hI => ?_)
  refine ycons (ymkmap Int Bool fun lb HG hG => ?_)
  refine yp (pBuild3 (scP rfl) (scM rfl) (scM rfl)) ?_
  refine ycons (yboxG rfl fun p7 => ?_)
  refine yp (pP rfl) (ynil (tnorm (yret ?_)))
  exact yfin (rP rfl) ⟨[tseg p7 ab ib lb ++ HI ++ HG], Junk.join3, p7, _, rfl, Tb.mk (L := []) hI hG, rfl⟩
theorem tbCount {tb ab : Nat} {L : List Nm} {T : List Chunk} (hT : Tb tb ab L T) : Tri Try.prog 15 #[.pointer (some ⟨tb, 0, none⟩)] [T] (fun r S => r = .int .i64 (L.length : Int) ∧ S = [T]) := by
  obtain ⟨ib, lb, HI, HG, hI, hG, rfl⟩ := hT
  refine Tri.split3 (Tri.forget (ycallee Try.fx15 (Nat.le_of_ble_eq_true rfl) ?_))
  unfold Try.x15
  refine yseq (yregion (yp pC (ynil (tnorm (yseq (yseq (yregion (yp (pP rfl) ?_))))))))
  refine ycons (ycall (tbNone (tb := tb) (ab := ab) (ib := ib) (lb := lb)) rfl rfl fun r S' h => ?_)
  obtain ⟨rfl, rfl⟩ := h
  refine ynil (tnorm (ycondF rfl (yskip (tnorm (yseq (yregion (yp (pP rfl) (yp (pNilc rfl) (yp (pFadr rfl) ?_)))))))))
  refine ycons (yload1 rfl rfl ?_)
  refine ycons (ymlen hI (by simp) undIds rfl ?_)
  refine yp (pI rfl) (ynil (tnorm (yret ?_)))
  exact yfin (rI rfl) ⟨_, Junk.join3, rfl, rfl⟩
/-- the one of these letters -/
def byN (L : List Nm) (n : Bs) : Option Nm := (nixN n L).bind fun j => L[j]?
def byI (L : List Nm) (i : Int) : Option Nm := (nixI i L).bind fun j => L[j]?
theorem tbFind {tb ab : Nat} {L : List Nm} {T : List Chunk} (hT : Tb tb ab L T) (Y : Bs) (hY : Y.length < 2 ^ 62) : Tri Try.prog 19 #[.pointer (some ⟨tb, 0, none⟩), sv Y] [T]
    (fun r S => r = .tuple #[.int .i64 (((byN L (foldB Y)).map (·.id)).getD 0), .bool (byN L (foldB Y)).isSome] ∧ S = [T]) := by
  obtain ⟨ib, lb, HI, HG, hI, hG, rfl⟩ := hT
  refine Tri.split3 (Tri.forget (ycallee Try.fx19 (Nat.le_of_ble_eq_true rfl) ?_))
  unfold Try.x19
  refine yseq (yregion (yp pC (yp pC (ynil (tnorm (yseq (yseq (yregion (yp (pP rfl) ?_)))))))))
  refine ycons (ycall (tbNone (tb := tb) (ab := ab) (ib := ib) (lb := lb)) rfl rfl fun r S' h => ?_)
  obtain ⟨rfl, rfl⟩ := h
  refine ynil (tnorm (ycondF rfl (yskip (tnorm (yseq (ydraw (ytq (pP rfl) (ytq (pNilc rfl) (ytq (pFadr rfl) (ytl1 rfl rfl (ytq (pT rfl) ?_)))))))))))
  refine ytaltC (ycall (nmFold Y hY) rfl rfl fun r S' h => ?_) ytno
  obtain ⟨rfl, rfl⟩ := h
  refine ⟨by simp, ?_⟩
  have hid : idOf L ⟨(foldB Y).toArray⟩ = (byN L (foldB Y)).map (·.id) := by
    unfold idOf byN
    cases nixN (foldB Y) L <;> rfl
  refine ytalt (ylook2 (v := .int .i64 (((byN L (foldB Y)).map (·.id)).getD 0)) (bl := (byN L (foldB Y)).isSome) hI (by simp) (⟨(foldB Y).toArray⟩ : ByteArray) undIds undStr zerInt rfl rfl ?_ ?_ ?_) ytno
  · rw [hid]; cases byN L (foldB Y) <;> rfl
  · rw [hid]; cases byN L (foldB Y) <;> rfl
  refine ytq (pU rfl) (ytq (pExt rfl rfl) (ytq (pExt rfl rfl) (ytq (pI rfl) (ytq (pB rfl) (ytdone (tnorm (yseq (yregion (yp (pI rfl) (yp (pB rfl) (yp (pI rfl) (yp (pB rfl) (ynil (tnorm (yret ?_)))))))))))))))
  exact yfin (rIB rfl rfl) ⟨_, Junk.join3, rfl, rfl⟩
theorem tbCost {tb ab : Nat} {L : List Nm} {T : List Chunk} (hT : Tb tb ab L T) (Y : Bs) (hY : Y.length < 2 ^ 62) : Tri Try.prog 36 #[.pointer (some ⟨tb, 0, none⟩), sv Y] [T]
    (fun r S => r = .int .i64 (if (byN L (foldB Y)).isSome = true ∨ vld Y = false then 0 else cost (8 + Y.length)) ∧ S = [T]) := by
  refine Tri.forget (ycallee Try.fx36 (Nat.le_of_ble_eq_true rfl) ?_)
  unfold Try.x36
  refine yseq (yregion (yp pC (ynil (tnorm (yseq (yseq (yregion (yp (pP rfl) (yp (pT rfl) ?_)))))))))
  refine ycons (ycall (tbFind hT Y hY) rfl rfl fun r S' h => ?_)
  obtain ⟨rfl, rfl⟩ := h
  cases hb : (byN L (foldB Y)).isSome with
  | true =>
    refine yp (pU rfl) (yp (pExt rfl rfl) (yp (pExt rfl rfl) (yp (pI rfl) (yp (pB rfl) (ynil (tnorm (yseq (yregion (yp (pB rfl) (yp (pB rfl) (ygF rfl (ygF rfl (ygF rfl (yp (pPickT rfl rfl) (ynil (tnorm (ycondT rfl (yseq (yregion (yp pC (ynil (tnorm (yret (tret ?_))))))))))))))))))))))))
    exact yfin (rI rfl) ⟨_, .of, by rw [if_pos (.inl rfl)], rfl⟩
  | false =>
    refine yp (pU rfl) (yp (pExt rfl rfl) (yp (pExt rfl rfl) (yp (pI rfl) (yp (pB rfl) (ynil (tnorm (yseq (yregion (yp (pB rfl) (yp (pB rfl) (ygT rfl (yop (pT rfl) (ygT rfl ?_)))))))))))))
    refine ycall (nmValid Y hY) rfl rfl fun r S' h => ?_
    obtain ⟨rfl, rfl⟩ := h
    cases hv : vld Y with
    | false =>
      refine ygT rfl (yop (pNot rfl) (yp (pPickF rfl rfl) (ynil (tnorm (ycondT rfl (yseq (yregion (yp pC (ynil (tnorm (yret (tret ?_))))))))))))
      exact yfin (rI rfl) ⟨_, .of, by rw [if_pos (.inr rfl)], rfl⟩
    | true =>
      refine ygT rfl (yop (pNot rfl) (yp (pPickF rfl rfl) (ynil (tnorm (ycondF rfl (yskip (tnorm (yseq (yregion (yp (pT rfl) (yp (pLenS rfl) ?_)))))))))))
      rw [szS]
      refine yp (pAdd rfl rfl (by omega)) ?_
      refine ycons (ycall (arCost (8 + (Y.length : Int))) rfl rfl fun r S' h => ?_)
      obtain ⟨rfl, rfl⟩ := h
      refine yp (pI rfl) (ynil (tnorm (yret ?_)))
      exact yfin (rI rfl) ⟨_, .of, by rw [if_neg (by simp)], rfl⟩
end Go.Proofs.Ytejmbmenbailmaa
namespace Go.Proofs.Ytejmbmenbailmaa
open Go.Xs
open Enc (enc)

theorem pShlN {E : Env} {x y : Operand} {a s : Nat} (h1 : ev E x = .int .i64 (a : Int)) (h2 : ev E y = .int .i64 (s : Int)) (hs : s ≤ 64) (h : a * 2 ^ s < 2 ^ 63) : pstep (ev E) (.bin .shl x y) = some (.int .i64 ((a * 2 ^ s : Nat) : Int)) := by
  have hm : Nat.min ((s : Int).toNat) IntKind.i64.bits = s := by show Nat.min s 64 = s; exact Nat.min_eq_left hs
  have e : (a : Int) * 2 ^ s = ((a * 2 ^ s : Nat) : Int) := by push_cast; rfl
  simp only [pstep, h1, h2, xbin, xint, hm, e]
  rw [wrap_i64 (by have : ((a * 2 ^ s : Nat) : Int) < ((2 ^ 63 : Nat) : Int) := Int.ofNat_lt.2 h; omega)]
  simp
theorem pOrN {E : Env} {x y : Operand} {a b : Nat} (h1 : ev E x = .int .i64 (a : Int)) (h2 : ev E y = .int .i64 (b : Int)) (h : (a ||| b) < 2 ^ 63) (ha : a < 2 ^ 63) (hb : b < 2 ^ 63) : pstep (ev E) (.bin .or x y) = some (.int .i64 ((a ||| b : Nat) : Int)) := by
  have e : xbits .or .i64 (a : Int) (b : Int) = ((a ||| b : Nat) : Int) := by
    unfold xbits
    simp only
    have e1 : (BitVec.ofInt IntKind.i64.bits (a : Int) ||| BitVec.ofInt IntKind.i64.bits (b : Int)).toNat = a ||| b := by
      show (BitVec.ofInt 64 (a : Int) ||| BitVec.ofInt 64 (b : Int)).toNat = a ||| b
      rw [BitVec.toNat_or, BitVec.toNat_ofInt, BitVec.toNat_ofInt]
      congr 1
      · omega
      · omega
    rw [e1, wrap_i64 (by omega)]
  simp [pstep, h1, h2, xbin, xint, e]
theorem or_add {a b i : Nat} (h : a < 2 ^ i) : a ||| (b * 2 ^ i) = a + b * 2 ^ i := by
  rw [Nat.or_comm, Nat.mul_comm b, ← Nat.two_pow_add_eq_or_of_lt h b, Nat.add_comm]

theorem byI_some {L : List Nm} {i : Int} {e : Nm} (h : byI L i = some e) : ∃ j, nixI i L = some j ∧ L[j]? = some e ∧ e.id = i := by
  unfold byI at h
  cases hx : nixI i L with
  | none => rw [hx] at h; cases h
  | some j =>
    obtain ⟨e', h1, h2⟩ := nixI_at hx
    rw [hx] at h
    simp only [Option.bind_some, h1] at h
    obtain rfl := Option.some.inj h
    exact ⟨j, rfl, h1, h2⟩
theorem byI_none {L : List Nm} {i : Int} (h : byI L i = none) : nixI i L = none := by
  unfold byI at h
  cases hx : nixI i L with
  | none => rfl
  | some j =>
    obtain ⟨e', h1, h2⟩ := nixI_at hx
    rw [hx] at h
    simp only [Option.bind_some, h1] at h
    cases h
theorem allOf_byI (L : List Nm) (i : Int) : ((allOf L i).map Vv.vv).getD (.bool false) = .bool (byI L i).isSome := by
  cases hb : byI L i with
  | none => unfold allOf; rw [byI_none hb]; rfl
  | some e => obtain ⟨j, h1, _, _⟩ := byI_some hb; unfold allOf; rw [h1]; rfl
theorem byI_mem {L : List Nm} {i : Int} {e : Nm} (h : byI L i = some e) : e ∈ L ∧ e.id = i := by
  obtain ⟨j, _, h2, h3⟩ := byI_some h
  exact ⟨List.mem_of_getElem? h2, h3⟩
/-- the first eight bytes of a name's block, the others -/
theorem blk_read8 {D : List (Option Bt)} {i : Int} {u : Nat} {n : Bs} (h : getB D i = some (le8 u ++ n)) : partE D i 0 8 = 0 ∧ readB D i 0 8 = le8 u := by
  have hl : (le8 u ++ n).length = 8 + n.length := by rw [List.length_append, le8_len]
  have hp : partE D i 0 8 = 0 := by unfold partE; rw [h]; exact if_neg (by omega)
  refine ⟨hp, ?_⟩
  unfold readB
  rw [if_pos hp, h]
  show ((le8 u ++ n).drop 0).take 8 = le8 u
  rw [List.drop_zero, ← le8_len u, List.take_left]
theorem blk_readN {D : List (Option Bt)} {i : Int} {u : Nat} {n : Bs} (h : getB D i = some (le8 u ++ n)) : partE D i 8 (n.length : Int) = 0 ∧ readB D i 8 (n.length : Int) = n := by
  have hl : (le8 u ++ n).length = 8 + n.length := by rw [List.length_append, le8_len]
  have hp : partE D i 8 (n.length : Int) = 0 := by unfold partE; rw [h]; exact if_neg (by omega)
  refine ⟨hp, ?_⟩
  unfold readB
  rw [if_pos hp, h]
  show ((le8 u ++ n).drop 8).take (n.length : Int).toNat = n
  have : (le8 u ++ n).drop 8 = n := by
    have := List.drop_left (l₁ := le8 u) (l₂ := n)
    rw [le8_len] at this; exact this
  rw [this, Int.toNat_natCast, List.take_length]
theorem tbUses {tb ab N : Nat} {D : List (Option Bt)} {H : List Chunk} {L : List Nm} {T : List Chunk} {B : List (Int × Bs)} (hT : Tb tb ab L T) (hA : Ar ab N D H) (hI : Inn D L B) (i : Int) : Tri Try.prog 20 #[.pointer (some ⟨tb, 0, none⟩), .int .i64 i] [T, H]
    (fun r S => r = .int .i64 (((byI L i).map (·.u)).getD 0 : Nat) ∧ S = [T, H]) := by
  obtain ⟨ib, lb, HI, HG, hMI, hMG, rfl⟩ := hT
  refine Tri.forget (Tri.perm (S := [tseg tb ab ib lb, HI, HG, H]) (by simp) (ycallee Try.fx20 (Nat.le_of_ble_eq_true rfl) ?_))
  unfold Try.x20
  have hback : ∀ {S' : Segs}, Junk S' [tseg tb ab ib lb, HI, HG, H] → Junk S' [tseg tb ab ib lb ++ HI ++ HG, H] := fun h => h.trans ⟨[], by simp⟩
  refine yseq (yregion (yp pC (ynil (tnorm (yseq (yseq (yregion (yp (pP rfl) ?_))))))))
  refine ycons (ycall (tbNone (tb := tb) (ab := ab) (ib := ib) (lb := lb)) rfl rfl fun r S' h => ?_)
  obtain ⟨rfl, rfl⟩ := h
  refine yp (pB rfl) (ygT rfl (yop (pP rfl) (ygT rfl (yop (pNilc rfl) (ygT rfl (yop (pFadr rfl) (ygT rfl ?_)))))))
  refine (yload1 rfl rfl ?_)
  refine ygT rfl (yop (pI rfl) (ygT rfl (ylook1 hMG (by simp) i undAll undInt zerBool rfl rfl (allOf_byI L i) ?_)))
  cases hb : byI L i with
  | none =>
    refine ygT rfl (yop (pNot rfl) (yp (pPickF rfl rfl) (ynil (tnorm (ycondT rfl (yseq (yregion (yp pC (ynil (tnorm (yret (tret ?_))))))))))))
    exact yfin (rI rfl) ⟨_, hback .of, rfl, rfl⟩
  | some e =>
    obtain ⟨hem, rfl⟩ := byI_mem hb
    have hblk := hI.blk e hem
    have hu := hI.us e hem
    obtain ⟨hp8, hr8⟩ := blk_read8 hblk
    refine ygT rfl (yop (pNot rfl) (yp (pPickF rfl rfl) (ynil (tnorm (ycondF rfl (yskip (tnorm (yseq (yregion (yp (pP rfl) (yp (pNilc rfl) (yp (pFadr rfl) ?_))))))))))))
    refine ycons (yload1 rfl rfl ?_)
    refine yp (pI rfl) ?_
    refine ycons (ycall (arRead hA e.id 0 8) rfl rfl fun r S' h => ?_)
    obtain ⟨v, Ho, rfl, hLo, rfl⟩ := h
    rw [hp8]
    rw [hr8] at hLo
    obtain ⟨va, vc, rfl⟩ := hLo.isSlice
    have hl8 := le8_len e.u
    rw [hl8] at hLo
    rw [hl8]
    refine yp (pU rfl) (yp (pExt rfl rfl) (yp (pExt rfl rfl) (yp (pS rfl) (yp (pI rfl) (ynil (tnorm (yseq (yregion (yp pC (ynil (tnorm (yseq (yseq (yregion (yp (pS rfl) (yp (pLen rfl) (yp pC (ynil (tnorm (yblock ?_))))))))))))))))))))
    refine yloop (σ := Nat) (fun k E S => Has E [(7, .int .i64 ((e.u % 2 ^ (8 * k) : Nat) : Int)), (30, .slice va 8 vc), (31, .int .i64 8), (32, .int .i64 (k : Int))] ∧ k ≤ 8 ∧ Junk S [Ho, tseg tb ab ib lb, HI, HG, H]) (fun k => 8 - k) 0 ⟨⟨by rw [Nat.mul_zero, Nat.pow_zero, Nat.mod_one]; rfl, rfl, rfl, rfl, trivial⟩, Nat.zero_le _, .of⟩ fun k E S ⟨hE, hk, hJ⟩ => ?_
    obtain ⟨E0, e0⟩ := has_puts hE; subst e0; clear hE
    refine yforget hJ (yseq (yregion (yp (pLt rfl rfl) (ynil (tnorm (yseq ?_))))))
    refine ycondD rfl (fun h => ?_) (fun h => ?_)
    · have hlt : k < 8 := by omega
      have hg := le8_get e.u k hlt
      have hkl : k < (le8 e.u).length := by omega
      obtain ⟨b, sp, fz, hz, hae, _, hce, rfl⟩ := hLo.at' (by intro h; rw [h] at hl8; simp at hl8)
      subst hae
      have hld : ((cells (le8 e.u ++ sp)).toArray.toList)[0 + k * 1 + 0]? = some (.int .u8 ((UInt8.ofNat (e.u / 2 ^ (8 * k))).toNat : Int)) := (row_cell (kk := 1) (j := 0) hkl rfl (by omega)).trans (by rw [List.getElem?_eq_getElem hkl] at hg; rw [Option.some.inj hg]; rfl)
      have hby : (UInt8.ofNat (e.u / 2 ^ (8 * k))).toNat = e.u / 2 ^ (8 * k) % 256 := by simp
      have hmod : e.u % 2 ^ (8 * (k + 1)) = e.u % 2 ^ (8 * k) + e.u / 2 ^ (8 * k) % 256 * 2 ^ (8 * k) := by
        have e1 : 2 ^ (8 * (k + 1)) = 2 ^ (8 * k) * 256 := by rw [show 8 * (k + 1) = 8 * k + 8 from by omega, Nat.pow_add]
        rw [e1, Nat.mod_mul, Nat.mul_comm (e.u / 2 ^ (8 * k) % 256)]
      have hsm : e.u % 2 ^ (8 * (k + 1)) < 2 ^ 60 := Nat.lt_of_le_of_lt (Nat.mod_le _ _) hu
      have hlt2 : e.u % 2 ^ (8 * k) < 2 ^ (8 * k) := Nat.mod_lt _ (Nat.pow_pos (by decide))
      have hor := or_add (b := e.u / 2 ^ (8 * k) % 256) hlt2
      rw [← hmod] at hor
      have hpr : e.u / 2 ^ (8 * k) % 256 * 2 ^ (8 * k) ≤ e.u % 2 ^ (8 * (k + 1)) := by rw [hmod]; exact Nat.le_add_left _ _
      have hpl : e.u % 2 ^ (8 * k) ≤ e.u % 2 ^ (8 * (k + 1)) := by rw [hmod]; exact Nat.le_add_right _ _
      refine yskip (tnorm (yseq (yblock (yseq (yregion (yp (pI rfl) (yp (pIxN rfl rfl (by omega)) ?_)))))))
      refine ycons (yload1 (v := .int .u8 ((UInt8.ofNat (e.u / 2 ^ (8 * k))).toNat : Int)) rfl hld ?_)
      refine yp (pI rfl) (yp (pI rfl) (ynil (tnorm (yregion (yp (pI rfl) (yp (pI rfl) (yp (pCvB rfl) ?_)))))))
      rw [hby]
      refine yp (pI rfl) (yp (pMulN (j := 8) (k := k) rfl rfl (by omega)) (yp (pShlN rfl rfl (by omega) (by omega)) (yp (pOrN rfl rfl (by rw [hor]; omega) (by omega) (by omega)) ?_)))
      rw [hor]
      refine yp (pI rfl) (ynil (bnorm (tnorm (yregion (yp (pInc rfl rfl (by omega)) (yp (pI rfl) (ynil (tnorm ?_))))))))
      exact ⟨k + 1, ⟨⟨rfl, rfl, rfl, rfl, trivial⟩, by omega, .of⟩, by omega⟩
    · have hk8 : k = 8 := by omega
      subst hk8
      have hmodu : e.u % 2 ^ (8 * 8) = e.u := Nat.mod_eq_of_lt (by omega)
      rw [hmodu]
      refine yexit (texit (texit (bexit (tnorm (yseq (yregion (yp (pI rfl) (yp (pI rfl) (ynil (tnorm (yret ?_)))))))))))
      exact yfin (rI rfl) ⟨_, hback .of, rfl, rfl⟩
theorem tbName {tb ab N : Nat} {D : List (Option Bt)} {H : List Chunk} {L : List Nm} {T : List Chunk} {B : List (Int × Bs)} (hT : Tb tb ab L T) (hA : Ar ab N D H) (hI : Inn D L B) (i : Int) : Tri Try.prog 56 #[.pointer (some ⟨tb, 0, none⟩), .int .i64 i] [T, H]
    (fun r S => r = .tuple #[sv (((byI L i).map (·.n)).getD []), .bool (byI L i).isSome] ∧ S = [T, H]) := by
  obtain ⟨ib, lb, HI, HG, hMI, hMG, rfl⟩ := hT
  refine Tri.forget (Tri.perm (S := [tseg tb ab ib lb, HI, HG, H]) (by simp) (ycallee Try.fx56 (Nat.le_of_ble_eq_true rfl) ?_))
  unfold Try.x56
  have hback : ∀ {S' : Segs}, Junk S' [tseg tb ab ib lb, HI, HG, H] → Junk S' [tseg tb ab ib lb ++ HI ++ HG, H] := fun h => h.trans ⟨[], by simp⟩
  refine yseq (yregion (yp pC (yp pC (ynil (tnorm (yseq (yseq (yregion (yp (pP rfl) ?_)))))))))
  refine ycons (ycall (tbNone (tb := tb) (ab := ab) (ib := ib) (lb := lb)) rfl rfl fun r S' h => ?_)
  obtain ⟨rfl, rfl⟩ := h
  refine yp (pB rfl) (ygT rfl (yop (pP rfl) (ygT rfl (yop (pNilc rfl) (ygT rfl (yop (pFadr rfl) (ygT rfl ?_)))))))
  refine (yload1 rfl rfl ?_)
  refine ygT rfl (yop (pI rfl) (ygT rfl (ylook1 hMG (by simp) i undAll undInt zerBool rfl rfl (allOf_byI L i) ?_)))
  have rTB : ∀ {E : Env} {S : Segs} {t u : Tmp} {s : ByteArray} {b : Bool}, E t = .string s → E u = .bool b → Res Try.prog #[.tmp t, .tmp u] E S (.tuple #[.string s, .bool b]) := fun h1 h2 => res2 h1 h2
  cases hb : byI L i with
  | none =>
    refine ygT rfl (yop (pNot rfl) (yp (pPickF rfl rfl) (ynil (tnorm (ycondT rfl (yseq (yregion (yp pC (yp pC (ynil (tnorm (yret (tret ?_)))))))))))))
    exact yfin (rTB rfl rfl) ⟨_, hback .of, rfl, rfl⟩
  | some e =>
    obtain ⟨hem, rfl⟩ := byI_mem hb
    have hblk := hI.blk e hem
    have hnl := (hA.ok).each
    obtain ⟨hpn, hrn⟩ := blk_readN hblk
    have hsz : sizeR D e.id = (((8 + e.n.length : Nat) : Int), true) := by
      unfold sizeR; rw [hblk]; simp only; rw [List.length_append, le8_len]
    obtain ⟨q, _, hq⟩ := getB_get hblk
    have h4 := hnl q _ hq
    rw [List.length_append, le8_len] at h4
    refine ygT rfl (yop (pNot rfl) (yp (pPickF rfl rfl) (ynil (tnorm (ycondF rfl (yskip (tnorm (yseq (yregion (yp (pP rfl) (yp (pNilc rfl) (yp (pFadr rfl) ?_))))))))))))
    refine ycons (yload1 rfl rfl ?_)
    refine yp (pI rfl) ?_
    refine ycons (ycall (arSize hA e.id) rfl rfl fun r S' h => ?_)
    obtain ⟨rfl, rfl⟩ := h
    rw [hsz]
    refine yp (pU rfl) (yp (pExt rfl rfl) (yp (pExt rfl rfl) (yp (pI rfl) (yp (pB rfl) (ynil (tnorm (yseq (yregion (yp (pP rfl) (yp (pNilc rfl) (yp (pFadr rfl) ?_)))))))))))
    refine ycons (yload1 rfl rfl ?_)
    refine yp (pI rfl) (yp (pI rfl) (yp (pSub rfl rfl (by omega)) ?_))
    rw [show ((8 + e.n.length : Nat) : Int) - 8 = (e.n.length : Int) from by omega]
    refine ycons (ycall (arRead hA e.id 8 (e.n.length : Int)) rfl rfl fun r S' h => ?_)
    obtain ⟨v, Ho, rfl, hLo, rfl⟩ := h
    rw [hpn]
    rw [hrn] at hLo
    obtain ⟨va, vc, rfl⟩ := hLo.isSlice
    refine yp (pU rfl) (yp (pExt rfl rfl) (yp (pExt rfl rfl) (yp (pS rfl) (yp (pI rfl) (ynil (tnorm (yseq (yregion (yp (pS rfl) ?_)))))))))
    refine ycons (yb2s rfl (hLo.src (by simp)) ?_)
    refine yp (pI rfl) (yp (pEq rfl rfl) (yp (pT rfl) (yp (pB rfl) (ynil (tnorm (yret ?_))))))
    exact yfin (rTB rfl rfl) ⟨_, hback .of, rfl, rfl⟩

theorem pShrN {E : Env} {x y : Operand} {a s : Nat} (h1 : ev E x = .int .i64 (a : Int)) (h2 : ev E y = .int .i64 (s : Int)) (hs : s ≤ 64) : pstep (ev E) (.bin .shr x y) = some (.int .i64 ((a / 2 ^ s : Nat) : Int)) := by
  rw [pShrX h1 h2 (by omega)]
  have hm : Nat.min ((s : Int).toNat) IntKind.i64.bits = s := by show Nat.min s 64 = s; exact Nat.min_eq_left hs
  rw [hm, Int.fdiv_eq_ediv_of_nonneg _ (by exact Int.pow_nonneg (by decide))]
  congr 2
theorem pCv8N {E : Env} {x : Operand} {a : Nat} (h1 : ev E x = .int .i64 (a : Int)) : pstep (ev E) (.conv .u8 x) = some (.int .u8 ((UInt8.ofNat a).toNat : Int)) := by
  rw [pCv8 h1, u8wrap]
  have : (UInt8.ofNat a).toNat = a % 256 := by simp
  rw [this]; congr 2
def arr8 (n k : Nat) : Bs := (le8 n).take k ++ List.replicate (8 - k) 0
theorem arr8_len {n k : Nat} (h : k ≤ 8) : (arr8 n k).length = 8 := by simp [arr8, le8_len]; omega
theorem arr8_all (n : Nat) : arr8 n 8 = le8 n := by
  unfold arr8
  rw [List.take_of_length_le (by rw [le8_len]; exact Nat.le_refl _)]; simp
theorem arr8_set {n k : Nat} (h : k < 8) : (arr8 n k).set k (UInt8.ofNat (n / 2 ^ (8 * k))) = arr8 n (k + 1) := by
  refine List.ext_getElem? fun j => ?_
  have hg := le8_get n k h
  have hl := le8_len n
  have hget : ∀ k j, k ≤ 8 → (arr8 n k)[j]? = if j < k then (le8 n)[j]? else if j < 8 then some 0 else none := fun k j hk => by
    unfold arr8
    rw [List.getElem?_append, List.length_take, hl, Nat.min_eq_left hk, List.getElem?_take, List.getElem?_replicate]
    by_cases h1 : j < k
    · rw [if_pos h1, if_pos h1, if_pos h1]
    · rw [if_neg h1, if_neg h1]
      by_cases h2 : j < 8
      · rw [if_pos h2, if_pos (by omega)]
      · rw [if_neg h2, if_neg (by omega)]
  rw [List.getElem?_set, hget _ _ (by omega), hget _ _ (by omega), arr8_len (by omega)]
  by_cases hj : k = j
  · subst hj
    rw [if_pos rfl, if_pos h, if_pos (by omega), hg]
  · rw [if_neg hj]
    by_cases h1 : j < k
    · rw [if_pos h1, if_pos (by omega)]
    · rw [if_neg h1, if_neg (show ¬ j < k + 1 from by omega)]
theorem blk_write8 {D : List (Option Bt)} {i : Int} {u v : Nat} {n : Bs} (h : getB D i = some (le8 u ++ n)) : partE D i 0 ((le8 v).length : Nat) = 0 ∧ writeD D i 0 (le8 v) = D.set (i - 1).toNat (some (le8 v ++ n)) := by
  have hl : (le8 u ++ n).length = 8 + n.length := by rw [List.length_append, le8_len]
  have hl8 := le8_len v
  have hp : partE D i 0 ((le8 v).length : Nat) = 0 := by unfold partE; rw [h]; exact if_neg (by omega)
  refine ⟨hp, ?_⟩
  unfold writeD
  rw [if_pos hp, h]
  refine congrArg (fun z => D.set (i - 1).toNat (some z)) ?_
  show spl (le8 u ++ n) 0 (le8 v) = _
  unfold spl
  have : (le8 u ++ n).drop 8 = n := by
    have := List.drop_left (l₁ := le8 u) (l₂ := n)
    rw [le8_len] at this; exact this
  rw [List.take_zero, hl8, Nat.zero_add, this]; rfl
set_option maxRecDepth 10000 in
theorem tbSet {tb ab ib lb N : Nat} {D : List (Option Bt)} {H : List Chunk} (hA : Ar ab N D H) {i : Int} {u : Nat} {n : Bs} (hb : getB D i = some (le8 u ++ n)) (v : Nat) (_hv : v < 2 ^ 60) : Tri Try.prog 50 #[.pointer (some ⟨tb, 0, none⟩), .int .i64 i, .int .i64 (v : Int)] [tseg tb ab ib lb, H]
    (fun r S => r = .tuple #[] ∧ ∃ H', Ar ab N (D.set (i - 1).toNat (some (le8 v ++ n))) H' ∧ S = [tseg tb ab ib lb, H']) := by
  refine Tri.forget (ycallee Try.fx50 (Nat.le_of_ble_eq_true rfl) ?_)
  unfold Try.x50
  have hz8 : ([.int .u8 0, .int .u8 0, .int .u8 0, .int .u8 0, .int .u8 0, .int .u8 0, .int .u8 0, .int .u8 0] : List Value) = cells (arr8 v 0) := rfl
  rw [hz8]
  refine yseq (yregion ?_)
  refine ycons (yalloc fun p6 => ?_)
  refine ynil (tnorm (yseq (yseq (yregion (yp pC (ynil (tnorm (yblock ?_))))))))
  refine yloop (σ := Nat) (fun k E S => Has E [(0, .pointer (some ⟨tb, 0, none⟩)), (1, .int .i64 i), (2, .int .i64 (v : Int)), (6, .pointer (some ⟨p6, 0, none⟩)), (8, .int .i64 (k : Int))] ∧ k ≤ 8 ∧ Junk S [[(p6, .cells (cells (arr8 v k)).toArray 120)], tseg tb ab ib lb, H]) (fun k => 8 - k) 0 ⟨⟨rfl, rfl, rfl, rfl, rfl, trivial⟩, Nat.zero_le _, .of⟩ fun k E S ⟨hE, hk, hJ⟩ => ?_
  have hal := arr8_len (n := v) hk
  obtain ⟨E0, e0⟩ := has_puts hE; subst e0; clear hE
  refine yforget hJ (yseq (yregion (yp (pLt rfl rfl) (ynil (tnorm (yseq ?_))))))
  refine ycondD rfl (fun h => ?_) (fun h => ?_)
  · have hlt : k < 8 := by omega
    refine yskip (tnorm (yseq (yblock (yseq (yregion (yp (pI rfl) (yp (pI rfl) (ynil (tnorm (yregion (yp (pI rfl) (yp (pI rfl) (yp (pI rfl) (yp (pMulN (j := 8) (k := k) rfl rfl (by omega)) (yp (pShrN rfl rfl (by omega)) (yp (pCv8N rfl) (yp (pAx (k := (k : Int)) rfl rfl (by omega)) ?_)))))))))))))))))
    rw [Int.toNat_natCast]
    refine ycons (ystoreE (M := arr8 v k) (i := k) (y := UInt8.ofNat (v / 2 ^ (8 * k))) rfl (by omega) rfl rfl (.inl rfl) ?_)
    rw [arr8_set hlt]
    refine ynil (bnorm (tnorm (yregion (yp (pInc rfl rfl (by omega)) (yp (pI rfl) (ynil (tnorm ?_)))))))
    exact ⟨k + 1, ⟨⟨rfl, rfl, rfl, rfl, rfl, trivial⟩, by omega, .of⟩, by omega⟩
  · have hk8 : k = 8 := by omega
    subst hk8
    rw [arr8_all]
    obtain ⟨hp, hw⟩ := blk_write8 (v := v) hb
    refine yexit (texit (texit (bexit (tnorm (ydraw (ytq (pP rfl) (ytq (pNilc rfl) (ytq (pFadr rfl) (ytl1 rfl rfl (ytq (pI rfl) (ytq (v := .slice (some ⟨p6, 0, none⟩) 8 8) rfl ?_)))))))))))
    refine ytalt (ycall (arWrite (S0 := [[(p6, .cells (cells (le8 v)).toArray 120)]]) hA i 0 (Y := le8 v) (.litF List.mem_cons_self (le8_len v).symm) (by rw [le8_len]; decide)) rfl rfl fun r S' h => ?_) ytno
    obtain ⟨rfl, H2, hA2, rfl⟩ := h
    rw [hw] at hA2
    refine ytdone ?_
    exact yfinN res0 ⟨_, .of, rfl, H2, hA2, rfl⟩
end Go.Proofs.Ytejmbmenbailmaa
namespace Go.Proofs.Ytejmbmenbailmaa
open Go.Xs
open Enc (enc)

/-- which blocks there are, and how big -/
def shp (D : List (Option Bt)) : List (Option Nat) := D.map (Option.map List.length)
theorem shp_set {D : List (Option Bt)} {h : Int} {b Y : Bt} (hg : getB D h = some b) (hl : Y.length = b.length) : shp (D.set (h - 1).toNat (some Y)) = shp D := by
  obtain ⟨j, rfl, hj⟩ := getB_get hg
  rw [show ((j : Int) + 1 - 1).toNat = j from by omega]
  unfold shp
  refine List.ext_getElem? fun i => ?_
  rw [List.getElem?_map, List.getElem?_map, List.getElem?_set]
  split
  · next h => subst h; rw [if_pos (List.getElem?_eq_some_iff.1 hj).1, hj]; simp [hl]
  · rfl
/-! ### small letters once and again -/
theorem low_low (b : UInt8) : low (low b) = low b := by
  unfold low
  by_cases h : 65 ≤ b.toNat ∧ b.toNat ≤ 90
  · rw [if_pos h]
    have : (UInt8.ofNat (b.toNat + 32)).toNat = (b.toNat + 32) % 256 := by simp
    rw [if_neg (by rw [this]; omega)]
  · rw [if_neg h, if_neg h]
theorem ldF_low : ∀ (f : Nat) (Y : Bs) (a : Nat), ldF f (Y.map low) a = ldF f Y a
  | 0, _, _ => rfl
  | f + 1, Y, a => by
    unfold ldF
    rw [List.getElem?_map]
    cases hy : Y[a]? with
    | none => rfl
    | some b =>
      simp only [Option.map_some]
      have hlow : (low b).toNat = b.toNat ∨ (63 < (low b).toNat ∧ 63 < b.toNat) := by
        unfold low
        by_cases h : 65 ≤ b.toNat ∧ b.toNat ≤ 90
        · rw [if_pos h]
          have : (UInt8.ofNat (b.toNat + 32)).toNat = (b.toNat + 32) % 256 := by simp
          right; omega
        · rw [if_neg h]; exact .inl rfl
      by_cases h1 : 255 ≤ a
      · rw [if_pos h1, if_pos h1]
      · rw [if_neg h1, if_neg h1]
        rcases hlow with h | ⟨h2, h3⟩
        · rw [h, ldF_low f Y]
        · rw [if_neg (show ¬ (low b).toNat = 0 from by omega), if_pos h2, if_neg (show ¬ b.toNat = 0 from by omega), if_pos h3]
theorem vld_low (Y : Bs) : vld (Y.map low) = vld Y := by
  unfold vld lead
  rw [ldF_low, List.length_map]
theorem vld_fold (Y : Bs) : vld (foldB Y) = vld Y := by
  unfold foldB
  split
  · exact vld_low Y
  · rfl
theorem fold_fold (Y : Bs) : foldB (foldB Y) = foldB Y := by
  unfold foldB
  by_cases h : vld Y = true
  · rw [if_pos h, if_pos (by rw [vld_low]; exact h), List.map_map]
    exact List.map_congr_left fun b _ => low_low b
  · rw [if_neg h, if_neg h]

/-! ### Add -/
def addE (N : Nat) (D : List (Option Bt)) (L : List Nm) (Y : Bs) : Int := if vld Y = false then 2 else if (byN L (foldB Y)).isSome then 0 else allocE N D (8 + (Y.length : Int))
def addL (D : List (Option Bt)) (L : List Nm) (n : Bs) : List Nm := match nixN n L with
  | some j => (match L[j]? with | some e => reuse L j e (e.u + 1) | none => L)
  | none => L ++ [⟨((hnd D : Nat) : Int), n, 1⟩]
def addI (D : List (Option Bt)) (L : List Nm) (n : Bs) : Int := ((byN L n).map (·.id)).getD ((hnd D : Nat) : Int)
def addD (D : List (Option Bt)) (L : List Nm) (n : Bs) : List (Option Bt) := if (byN L n).isSome then D else allocD D (8 + n.length)
theorem byN_some {L : List Nm} {n : Bs} {e : Nm} (h : byN L n = some e) : ∃ j, nixN n L = some j ∧ L[j]? = some e ∧ e.n = n := by
  unfold byN at h
  cases hx : nixN n L with
  | none => rw [hx] at h; cases h
  | some j =>
    obtain ⟨e', h1, h2⟩ := nixN_at hx
    rw [hx] at h
    simp only [Option.bind_some, h1] at h
    obtain rfl := Option.some.inj h
    exact ⟨j, rfl, h1, h2⟩
theorem byN_none {L : List Nm} {n : Bs} (h : byN L n = none) : nixN n L = none := by
  unfold byN at h
  cases hx : nixN n L with
  | none => rfl
  | some j =>
    obtain ⟨e', h1, h2⟩ := nixN_at hx
    rw [hx] at h
    simp only [Option.bind_some, h1] at h
    cases h
/-- a name's uses change, in the arena and in the list -/
theorem Inn.reuse {D : List (Option Bt)} {L : List Nm} {B : List (Int × Bs)} (h : Inn D L B) {j : Nat} {e : Nm} {v : Nat} (he : L[j]? = some e) (hv : v < 2 ^ 60) : Inn (D.set (e.id - 1).toNat (some (le8 v ++ e.n))) (reuse L j e v) B := by
  have hem := List.mem_of_getElem? he
  have hb := h.blk e hem
  refine ⟨h.dis.reuse he, fun x hx => ?_, fun x hx => ⟨?_, fun y hy => ?_⟩, fun i b hib => ?_, fun x hx => ?_, fun x hx => ?_⟩
  · rw [set_getB hb]
    obtain ⟨i, hi⟩ := List.mem_iff_getElem?.1 hx
    unfold Proofs.Ytejmbmenbailmaa.reuse at hi
    rw [List.getElem?_set] at hi
    split at hi
    · next hij =>
      subst hij
      rw [if_pos (List.getElem?_eq_some_iff.1 he).1] at hi
      obtain rfl := (Option.some.inj hi).symm
      rw [if_pos rfl]
    · next hij =>
      have hne : x.id ≠ e.id := fun h2 => by
        have h3 : (L.map (·.id))[i]? = some e.id := by rw [List.getElem?_map, hi, Option.map_some, h2]
        have h4 : (L.map (·.id))[j]? = some e.id := by rw [List.getElem?_map, he, Option.map_some]
        exact hij ((List.getElem?_inj (List.getElem?_eq_some_iff.1 h3).1 h.dis.ids).1 (h3.trans h4.symm)).symm
      rw [if_neg hne]
      exact h.blk x (List.mem_of_getElem? hi)
  · rw [set_getB hb, if_neg fun h2 => (h.oth x hx).2 e hem h2.symm]; exact (h.oth x hx).1
  · obtain ⟨z, hz, h2, _⟩ := mem_reuse he hy
    rw [← h2]; exact (h.oth x hx).2 z hz
  · rw [set_getB hb] at hib
    have hin : ∀ y ∈ L, y.id = i → ∃ x ∈ Proofs.Ytejmbmenbailmaa.reuse L j e v, x.id = i := fun y hy hyi => by
      obtain ⟨x, hx, h2, _⟩ := reuse_mem (u := v) he hy
      exact ⟨x, hx, h2.trans hyi⟩
    by_cases h2 : i = e.id
    · exact .inl (hin e hem h2.symm)
    · rw [if_neg h2] at hib
      rcases h.all i b hib with ⟨y, hy, hyi⟩ | hx
      · exact .inl (hin y hy hyi)
      · exact .inr hx
  · unfold Proofs.Ytejmbmenbailmaa.reuse at hx
    rcases List.mem_or_eq_of_mem_set hx with hx | rfl
    · exact h.us x hx
    · exact hv
  · obtain ⟨y, hy, _, h2⟩ := mem_reuse he hx
    rw [← h2]; exact h.fold y hy
/-- a new name, not yet used -/
theorem Inn.new {D : List (Option Bt)} {L : List Nm} {B : List (Int × Bs)} (h : Inn D L B) {n : Bs} (hn : nixN n L = none) (hv : vld n = true) (hf : foldB n = n) :
    Inn ((allocD D (8 + n.length)).set (hnd D - 1) (some (le8 0 ++ n))) (L ++ [⟨((hnd D : Nat) : Int), n, 0⟩]) B := by
  have hno : getB D ((hnd D : Nat) : Int) = none := by
    have := hnd_none D
    have hp := hnd_pos D
    rw [show ((hnd D : Nat) : Int) = ((hnd D - 1 : Nat) : Int) + 1 from by omega, getB_idx]; exact this
  have hid : ∀ x ∈ L, x.id ≠ ((hnd D : Nat) : Int) := fun x hx e => by
    have := h.blk x hx
    rw [e, hno] at this; cases this
  have hg := alloc_getB D (8 + n.length)
  have hidx : (((hnd D : Nat) : Int) - 1).toNat = hnd D - 1 := by have := hnd_pos D; omega
  have hset := fun k => set_getB (Y := le8 0 ++ n) hg k
  rw [hidx] at hset
  refine ⟨h.dis.add hid (nixN_none hn), fun x hx => ?_, fun x hx => ?_, fun i b hib => ?_, fun x hx => ?_, fun x hx => ?_⟩
  · rw [hset]
    rcases List.mem_append.1 hx with hx | hx
    · rw [if_neg (hid x hx), alloc_getB_ne (hid x hx)]; exact h.blk x hx
    · rw [List.mem_singleton.1 hx, if_pos rfl]
  · obtain ⟨h1, h2⟩ := h.oth x hx
    have hne : x.1 ≠ ((hnd D : Nat) : Int) := fun e => by rw [e, hno] at h1; cases h1
    refine ⟨?_, fun e he => ?_⟩
    · rw [hset, if_neg hne, alloc_getB_ne hne]; exact h1
    · rcases List.mem_append.1 he with he | he
      · exact h2 e he
      · rw [List.mem_singleton.1 he]; exact fun h3 => hne h3.symm
  · rw [hset] at hib
    by_cases h2 : i = ((hnd D : Nat) : Int)
    · exact .inl ⟨⟨((hnd D : Nat) : Int), n, 0⟩, by simp, h2.symm⟩
    · rw [if_neg h2, alloc_getB_ne h2] at hib
      rcases h.all i b hib with ⟨y, hy, hyi⟩ | hx
      · exact .inl ⟨y, List.mem_append.2 (.inl hy), hyi⟩
      · exact .inr hx
  · rcases List.mem_append.1 hx with hx | hx
    · exact h.us x hx
    · rw [List.mem_singleton.1 hx]; exact Nat.pow_pos (by decide)
  · rcases List.mem_append.1 hx with hx | hx
    · exact h.fold x hx
    · rw [List.mem_singleton.1 hx]; exact ⟨hv, hf⟩
theorem Tb.reuse {tb ab : Nat} {L : List Nm} {T : List Chunk} (h : Tb tb ab L T) (hd : Dis L) {j : Nat} {e : Nm} {v : Nat} (he : L[j]? = some e) : Tb tb ab (reuse L j e v) T := by
  obtain ⟨ib, lb, HI, HG, h1, h2, rfl⟩ := h
  refine ⟨ib, lb, HI, HG, ?_, ?_, rfl⟩
  · rw [idOf_reuse hd he]; unfold Proofs.Ytejmbmenbailmaa.reuse; rw [List.length_set]; exact h1
  · rw [allOf_reuse he]; unfold Proofs.Ytejmbmenbailmaa.reuse; rw [List.length_set]; exact h2
end Go.Proofs.Ytejmbmenbailmaa
namespace Go.Proofs.Ytejmbmenbailmaa
open Go.Xs
open Enc (enc)

theorem foldB_vld {Y : Bs} (h : vld Y = true) : vld (foldB Y) = true ∧ foldB (foldB Y) = foldB Y := ⟨by rw [vld_fold]; exact h, fold_fold Y⟩
set_option maxRecDepth 10000 in
set_option maxHeartbeats 1000000 in
theorem tbAdd {tb ab N : Nat} {D : List (Option Bt)} {H : List Chunk} {L : List Nm} {T : List Chunk} {B : List (Int × Bs)} (hT : Tb tb ab L T) (hA : Ar ab N D H) (hI : Inn D L B) (hu : ∀ e ∈ L, e.u + 1 < 2 ^ 60) (Y : Bs) (hY : Y.length < 2 ^ 62) :
    Tri Try.prog 30 #[.pointer (some ⟨tb, 0, none⟩), sv Y] [T, H] (fun r S =>
      (addE N D L Y ≠ 0 ∧ r = .tuple #[.int .i64 0, .int .i64 (addE N D L Y)] ∧ S = [T, H]) ∨
      (addE N D L Y = 0 ∧ ∃ (T' H' : List Chunk) (D' : List (Option Bt)), r = .tuple #[.int .i64 (addI D L (foldB Y)), .int .i64 0] ∧ Tb tb ab (addL D L (foldB Y)) T' ∧ Ar ab N D' H' ∧ Inn D' (addL D L (foldB Y)) B ∧ shp D' = shp (addD D L (foldB Y)) ∧ S = [T', H'])) := by
  obtain ⟨ib, lb, HI, HG, hMI, hMG, rfl⟩ := hT
  refine Tri.forget (Tri.perm (S := [tseg tb ab ib lb, HI, HG, H]) (by simp) (ycallee Try.fx30 (Nat.le_of_ble_eq_true rfl) ?_))
  unfold Try.x30
  have hback : ∀ {S' : Segs}, Junk S' [tseg tb ab ib lb, HI, HG, H] → Junk S' [tseg tb ab ib lb ++ HI ++ HG, H] := fun h => h.trans ⟨[], by simp⟩
  refine yseq (yregion (yp pC (yp pC (ynil (tnorm (yseq (yblock (yseq (yregion (yp (pT rfl) ?_))))))))))
  refine ycons (ycall (nmValid Y hY) rfl rfl fun r S' h => ?_)
  obtain ⟨rfl, rfl⟩ := h
  cases hv : vld Y with
  | false =>
    have hE : addE N D L Y = 2 := by unfold addE; rw [if_pos hv]
    refine yp (pNot rfl) (yp (pB rfl) (ynil (tnorm (ycondT rfl (yseq (yregion (yp pC (yp pC (ynil (tnorm (yret (bret (tret ?_)))))))))))))
    exact yfin (rII rfl rfl) ⟨_, hback .of, .inl ⟨by rw [hE]; decide, by rw [hE], rfl⟩⟩
  | true =>
  obtain ⟨hvn, hfn⟩ := foldB_vld hv
  have hfl := foldB_len Y
  have h255 := vld_len hv
  refine yp (pNot rfl) (yp (pB rfl) (ynil (tnorm (ycondF rfl (yseq (yregion (yp (pP rfl) ?_)))))))
  refine ycons (ycall (tbNone (tb := tb) (ab := ab) (ib := ib) (lb := lb)) rfl rfl fun r S' h => ?_)
  obtain ⟨rfl, rfl⟩ := h
  refine yp (pB rfl) (ynil (tnorm (ycondF rfl (yskip (bnorm (tnorm (yseq (yregion (yp (pT rfl) ?_)))))))))
  refine ycons (ycall (nmFold Y hY) rfl rfl fun r S' h => ?_)
  obtain ⟨rfl, rfl⟩ := h
  have hid : idOf L ⟨(foldB Y).toArray⟩ = (byN L (foldB Y)).map (·.id) := by
    unfold idOf byN
    cases nixN (foldB Y) L <;> rfl
  generalize hn : foldB Y = n at *
  refine yp (pT rfl) (ynil (tnorm (yseq (yregion (yp (pP rfl) (yp (pNilc rfl) (yp (pFadr rfl) ?_)))))))
  refine ycons (yload1 rfl rfl ?_)
  refine yp (pT rfl) ?_
  refine ycons (ylook2 (v := .int .i64 (((byN L n).map (·.id)).getD 0)) (bl := (byN L n).isSome) hMI (by simp) (⟨n.toArray⟩ : ByteArray) undIds undStr zerInt rfl rfl ?_ ?_ ?_)
  · rw [hid]; cases byN L n <;> rfl
  · rw [hid]; cases byN L n <;> rfl
  refine yp (pU rfl) (yp (pExt rfl rfl) (yp (pExt rfl rfl) (yp (pI rfl) (yp (pB rfl) (ynil (tnorm ?_))))))
  refine ycutQ (fun E S' => ∃ (ib lb : Nat) (L1 : List Nm) (HI HG H1 : List Chunk) (D1 : List (Option Bt)) (j : Nat) (e : Nm), Has E [(0, .pointer (some ⟨tb, 0, none⟩)), (6, .int .i64 e.id)] ∧ Mp ib (idOf L1) L1.length HI ∧ Mp lb (allOf L1) L1.length HG ∧ Ar ab N D1 H1 ∧ Inn D1 L1 B ∧ L1[j]? = some e ∧ e.u + 1 < 2 ^ 60 ∧
      addE N D L Y = 0 ∧ e.id = addI D L n ∧ reuse L1 j e (e.u + 1) = addL D L n ∧ shp D1 = shp (addD D L n) ∧ Junk S' [tseg tb ab ib lb, HI, HG, H1]) ?_ ?_
  · cases hb : byN L n with
    | some e =>
      obtain ⟨j, h1, h2, h3⟩ := byN_some hb
      have hE : addE N D L Y = 0 := by unfold addE; rw [if_neg (by rw [hv]; decide), hn, hb]; rfl
      refine yseq (yregion (yp (pB rfl) (yp (pNot rfl) (ynil (tnorm (ycondF rfl (yskip (tnorm ?_))))))))
      refine ⟨ib, lb, L, HI, HG, H, D, j, e, ⟨rfl, rfl, trivial⟩, hMI, hMG, hA, hI, h2, hu e (List.mem_of_getElem? h2), hE, ?_, ?_, ?_, .of⟩
      · unfold addI; rw [hb]; rfl
      · unfold addL; rw [h1]; simp only [h2]
      · unfold addD; rw [hb]; rfl
    | none =>
      have h1 := byN_none hb
      have hEa : addE N D L Y = allocE N D (8 + (n.length : Int)) := by unfold addE; rw [if_neg (by rw [hv]; decide), hn, hb, if_neg (by decide), hfl]
      refine yseq (yregion (yp (pB rfl) (yp (pNot rfl) (ynil (tnorm (ycondT rfl (yseq (yregion (yp (pP rfl) (yp (pNilc rfl) (yp (pFadr rfl) ?_)))))))))))
      refine ycons (yload1 rfl rfl ?_)
      refine yp (pT rfl) (yp (pLenS rfl) ?_)
      rw [szS]
      refine yp (pAdd rfl rfl (by omega)) ?_
      refine ycons (ycall (arAlloc hA ((8 + n.length : Nat) : Int)) rfl rfl fun r S' h => ?_)
      rw [show ((8 + n.length : Nat) : Int) = 8 + (n.length : Int) from by omega] at h
      rcases h with ⟨he, rfl, rfl⟩ | ⟨he, m, H1, hm, rfl, hA1, rfl⟩
      · rw [← hEa] at he ⊢
        refine yp (pU rfl) (yp (pExt rfl rfl) (yp (pExt rfl rfl) (yp (pI rfl) (yp (pI rfl) (ynil (tnorm (yseq (yseq (yregion (yp (pI rfl) (yp (pNe rfl rfl) (ynil (tnorm ?_)))))))))))))
        refine ycondN rfl (fun _ => ?_) (fun h2 => absurd h2 he)
        refine yseq (yregion (yp (pI rfl) (yp pC (yp (pI rfl) (ynil (tnorm (yret (tret (tret ?_)))))))))
        exact yfin (rII rfl rfl) ⟨_, hback .of, .inl ⟨he, rfl, rfl⟩⟩
      obtain rfl : m = 8 + n.length := by omega
      have hnew := hI.new h1 hvn (by rw [← hn]; exact fold_fold Y)
      have hno : getB D ((hnd D : Nat) : Int) = none := by
        have := hnd_none D
        have hp := hnd_pos D
        rw [show ((hnd D : Nat) : Int) = ((hnd D - 1 : Nat) : Int) + 1 from by omega, getB_idx]; exact this
      have hidn : ∀ x ∈ L, x.id ≠ (⟨((hnd D : Nat) : Int), n, 0⟩ : Nm).id := fun x hx e => by
        have := hI.blk x hx
        rw [e, hno] at this; cases this
      have hnn : ∀ x ∈ L, x.n ≠ (⟨((hnd D : Nat) : Int), n, 0⟩ : Nm).n := nixN_none h1
      have hf1 := idOf_add hI.dis hidn hnn
      have hf2 := allOf_add (L := L) (e := ⟨((hnd D : Nat) : Int), n, 0⟩)
      have hi0 : idOf L ⟨n.toArray⟩ = none := by rw [hid, hb]; rfl
      have ha0 : allOf L ((hnd D : Nat) : Int) = none := by
        cases hx : allOf L ((hnd D : Nat) : Int) with
        | none => rfl
        | some b => obtain ⟨_, x, hx1, hx2⟩ := allOf_iff.1 hx; exact absurd hx2 (hidn x hx1)
      refine yp (pU rfl) (yp (pExt rfl rfl) (yp (pExt rfl rfl) (yp (pI rfl) (yp (pI rfl) (ynil (tnorm (yseq ?_)))))))
      skip
      refine yseq (yregion (yp (pI rfl) (yp (pNe rfl rfl) (ynil (tnorm (ycondF rfl (yskip (tnorm (yseq (ydrawR (R := [tseg tb ab ib lb]) (by simp) (ytq (pP rfl) (ytq (pNilc rfl) (ytq (pFadr rfl) (ytl1 rfl rfl (ytq (pT rfl) (ytq (pP rfl) (ytq (pNilc rfl) (ytq (pFadr rfl) (ytl1 rfl rfl (ytq (pI rfl) (ytq (pI rfl) (ytq (pI rfl) (ytq (pI rfl) ?_)))))))))))))))))))))))
      refine ytalt (ymapEntry (z0 := (0 : Int)) hMI (⟨n.toArray⟩ : ByteArray) undIds undStr zerInt rfl rfl fun s1 HI1 hS1 => ?_) ytno
      refine ytq (pExt rfl rfl) ?_
      refine ytalt (yentryStore (v := ((hnd D : Nat) : Int)) hS1 rfl rfl rfl fun HI2 hMI2 => ?_) ytno
      refine ytalt (ymapEntry (z0 := false) hMG ((hnd D : Nat) : Int) undAll undInt zerBool rfl rfl fun s2 HG1 hS2 => ?_) ytno
      refine ytq (pExt rfl rfl) ?_
      refine ytalt (yentryStore (v := true) hS2 rfl rfl rfl fun HG2 hMG2 => ?_) ytno
      rw [mset_mset] at hMI2 hMG2
      have hc1 : mcnt (idOf L) (⟨n.toArray⟩ : ByteArray) L.length = (L ++ [(⟨((hnd D : Nat) : Int), n, 0⟩ : Nm)]).length := by unfold mcnt; rw [hi0]; simp
      have hc2 : mcnt (allOf L) ((hnd D : Nat) : Int) L.length = (L ++ [(⟨((hnd D : Nat) : Int), n, 0⟩ : Nm)]).length := by unfold mcnt; rw [ha0]; simp
      rw [hc1, ← hf1] at hMI2
      rw [hc2, ← hf2] at hMG2
      refine ytdone (tnorm (yregion (yp (pP rfl) (yp (pNilc rfl) (yp (pFadr rfl) ?_)))))
      refine ycons (yload1 rfl rfl ?_)
      refine yp (pI rfl) (yp (pT rfl) ?_)
      refine ycons (ys2b rfl fun v Hs hLs => ?_)
      have hLs : Slc 5 v n Hs := hLs
      skip
      have hg := alloc_getB D (8 + n.length)
      have hp : partE (allocD D (8 + n.length)) ((hnd D : Nat) : Int) 8 (n.length : Nat) = 0 := by
        unfold partE; rw [hg]; exact if_neg (by rw [zlen]; omega)
      have hw : writeD (allocD D (8 + n.length)) ((hnd D : Nat) : Int) 8 n = (allocD D (8 + n.length)).set (hnd D - 1) (some (le8 0 ++ n)) := by
        unfold writeD
        rw [if_pos hp, hg]
        have hidx : (((hnd D : Nat) : Int) - 1).toNat = hnd D - 1 := by have := hnd_pos D; omega
        rw [hidx]
        refine congrArg (fun z => (allocD D (8 + n.length)).set (hnd D - 1) (some z)) ?_
        show spl (zeros (8 + n.length)) 8 n = le8 0 ++ n
        unfold spl zeros
        rw [List.take_replicate, List.drop_replicate, Nat.min_eq_left (by omega), Nat.sub_self, List.replicate_zero, List.append_nil]
        rfl
      refine ycons (ycall (arWrite (S0 := [Hs]) hA1 ((hnd D : Nat) : Int) 8 (Y := n) (hLs.src (by simp)) (by show n.length ≤ 9223372036854775807; omega)) rfl rfl fun r S' h => ?_)
      obtain ⟨rfl, H2, hA2, rfl⟩ := h
      rw [hw] at hA2
      refine ynil (tnorm ?_)
      refine ⟨ib, lb, L ++ [⟨((hnd D : Nat) : Int), n, 0⟩], HI2, HG2, H2, _, L.length, ⟨((hnd D : Nat) : Int), n, 0⟩, ⟨rfl, rfl, trivial⟩, hMI2, hMG2, hA2, hnew, by simp, (by show 0 + 1 < 2 ^ 60; decide), by rw [hEa]; exact he, ?_, ?_, ?_, .of⟩
      · unfold addI; rw [hb]; rfl
      · unfold addL reuse; rw [h1]; simp
      · have hlen : (le8 0 ++ n).length = (zeros (8 + n.length)).length := by rw [List.length_append, le8_len, zlen]
        have hidx : (((hnd D : Nat) : Int) - 1).toNat = hnd D - 1 := by have := hnd_pos D; omega
        have := shp_set (Y := le8 0 ++ n) hg hlen
        rw [hidx] at this
        rw [this]; unfold addD; rw [hb]; rfl
  clear hback hMI hMG
  intro E S' ⟨ib, lb, L1, HI1, HG1, H1, D1, j, e, hE, hMI1, hMG1, hA1, hI1, hj, heu, hE0, hea, hre, hsh, hJ⟩
  have hem := List.mem_of_getElem? hj
  have hblk := hI1.blk e hem
  obtain ⟨E0, e0⟩ := has_puts hE; subst e0; clear hE
  refine yforget hJ (yforget (Junk.re (S1 := [tseg tb ab ib lb, HI1, HG1, H1]) (S2 := [tseg tb ab ib lb ++ HI1 ++ HG1, H1]) (by simp)) ?_)
  have hby : byI L1 e.id = some e := by unfold byI; rw [nixI_of hI1.dis.ids hj]; exact hj
  refine yseq (yregion (yp (pP rfl) (yp (pI rfl) (yp (pP rfl) (yp (pI rfl) ?_)))))
  refine ycons (ycall (tbUses (Tb.mk hMI1 hMG1) hA1 hI1 e.id) rfl rfl fun r S' h => ?_)
  obtain ⟨rfl, rfl⟩ := h
  rw [hby]
  refine ylforget (Junk.re (S1 := [tseg tb ab ib lb ++ HI1 ++ HG1, H1]) (S2 := [tseg tb ab ib lb, HI1, HG1, H1]) (by simp)) ?_
  have heu2 : e.u < 2 ^ 60 := by omega
  show YL _ _ _ _ _ (putE _ (.int .i64 (e.u : Int)) _) _
  refine yp (pInc rfl rfl (by omega)) ?_
  refine ycons (ycall (tbSet (tb := tb) (ib := ib) (lb := lb) hA1 hblk (e.u + 1) heu) rfl rfl fun r S' h => ?_)
  obtain ⟨rfl, H2, hA2, rfl⟩ := h
  have hlen : (le8 (e.u + 1) ++ e.n).length = (le8 e.u ++ e.n).length := by rw [List.length_append, List.length_append, le8_len, le8_len]
  have hI2 := hI1.reuse hj heu
  have hT2 := Tb.reuse (v := e.u + 1) (Tb.mk (tb := tb) (ab := ab) hMI1 hMG1) hI1.dis hj
  have hs2 := shp_set hblk hlen
  rw [hre] at hI2 hT2
  refine ynil (tnorm (yseq (yregion (yp (pI rfl) (yp (pI rfl) (yp pC (ynil (tnorm (yret ?_)))))))))
  exact yfin (rII rfl rfl) ⟨[tseg tb ab ib lb ++ HI1 ++ HG1, H2], Junk.re (S1 := [tseg tb ab ib lb, HI1, HG1, H2]) (by simp), .inr ⟨hE0, _, H2, _, by rw [hea], hT2, hA2, hI2, hs2.trans hsh, rfl⟩⟩
end Go.Proofs.Ytejmbmenbailmaa
namespace Go.Proofs.Ytejmbmenbailmaa
open Go.Xs
open Enc (enc)

def Pos (L : List Nm) : Prop := ∀ e ∈ L, 1 ≤ e.u
def dropR (L : List Nm) (i : Int) : Int := if (byI L i).isSome then 0 else 5
def dropL (L : List Nm) (i : Int) : List Nm := match nixI i L with
  | some j => (match L[j]? with | some e => if e.u = 1 then L.eraseIdx j else reuse L j e (e.u - 1) | none => L)
  | none => L
def dropD (D : List (Option Bt)) (L : List Nm) (i : Int) : List (Option Bt) := match byI L i with
  | some e => if e.u = 1 then freeD D i else D
  | none => D
theorem free_getB {D : List (Option Bt)} {i : Int} {b : Bt} (hb : getB D i = some b) : getB (freeD D i) i = none := by
  obtain ⟨j, rfl, hj⟩ := getB_get hb
  unfold freeD
  rw [hb, if_pos (show (some b).isSome = true from rfl), getB_idx, show ((j : Int) + 1 - 1).toNat = j from by omega, List.getElem?_set_self (List.getElem?_eq_some_iff.1 hj).1]; rfl
theorem Inn.drop {D : List (Option Bt)} {L : List Nm} {B : List (Int × Bs)} (h : Inn D L B) {j : Nat} {e : Nm} (he : L[j]? = some e) : Inn (freeD D e.id) (L.eraseIdx j) B := by
  have hb := h.blk e (List.mem_of_getElem? he)
  have hself := free_getB hb
  refine ⟨h.dis.erase j, fun x hx => ?_, fun x hx => ⟨?_, fun y hy => ?_⟩, fun i b hib => ?_, fun x hx => ?_, fun x hx => ?_⟩
  · obtain ⟨h1, h2, _⟩ := erase_mem h.dis he hx
    rw [free_getB_ne h2]; exact h.blk x h1
  · rw [free_getB_ne fun h2 => (h.oth x hx).2 e (List.mem_of_getElem? he) h2.symm]; exact (h.oth x hx).1
  · exact (h.oth x hx).2 y (erase_mem h.dis he hy).1
  · by_cases h2 : i = e.id
    · rw [h2, hself] at hib; cases hib
    · rw [free_getB_ne h2] at hib
      rcases h.all i b hib with ⟨y, hy, hyi⟩ | hx
      · exact .inl ⟨y, mem_erase he hy (.inl fun h3 => h2 (hyi.symm.trans h3)), hyi⟩
      · exact .inr hx
  · exact h.us x (erase_mem h.dis he hx).1
  · exact h.fold x (erase_mem h.dis he hx).1
theorem free_set {D : List (Option Bt)} {i : Int} {b Y : Bt} (hb : getB D i = some b) : freeD (D.set (i - 1).toNat (some Y)) i = freeD D i := by
  have h1 := set_getB (Y := Y) hb i
  rw [if_pos rfl] at h1
  unfold freeD
  rw [h1, hb, if_pos (show (some Y).isSome = true from rfl), if_pos (show (some b).isSome = true from rfl), List.set_set]
set_option maxRecDepth 10000 in
set_option maxHeartbeats 1000000 in
theorem tbDrop {tb ab N : Nat} {D : List (Option Bt)} {H : List Chunk} {L : List Nm} {T : List Chunk} {B : List (Int × Bs)} (hT : Tb tb ab L T) (hA : Ar ab N D H) (hI : Inn D L B) (hP : Pos L) (i : Int) :
    Tri Try.prog 32 #[.pointer (some ⟨tb, 0, none⟩), .int .i64 i] [T, H] (fun r S => r = .int .i64 (dropR L i) ∧ ∃ (T' H' : List Chunk) (D' : List (Option Bt)), Tb tb ab (dropL L i) T' ∧ Ar ab N D' H' ∧ Inn D' (dropL L i) B ∧ shp D' = shp (dropD D L i) ∧ S = [T', H']) := by
  refine Tri.forget (ycallee Try.fx32 (Nat.le_of_ble_eq_true rfl) ?_)
  unfold Try.x32
  refine yseq (yregion (yp pC (ynil (tnorm (yseq (yregion (yp (pP rfl) (yp (pI rfl) ?_))))))))
  refine ycons (ycall (tbName hT hA hI i) rfl rfl fun r S' h => ?_)
  obtain ⟨rfl, rfl⟩ := h
  cases hb : byI L i with
  | none =>
    have h1 := byI_none hb
    refine yp (pU rfl) (yp (pExt rfl rfl) (yp (pExt rfl rfl) (yp (pT rfl) (yp (pB rfl) (ynil (tnorm (yseq (yseq (yregion (yp (pB rfl) (yp (pNot rfl) (ynil (tnorm (ycondT rfl (yseq (yregion (yp pC (ynil (tnorm (yret (tret ?_)))))))))))))))))))))
    refine yfin (rI rfl) ⟨_, .of, by unfold dropR; rw [hb]; rfl, T, H, D, ?_, hA, ?_, ?_, rfl⟩
    · unfold dropL; rw [h1]; exact hT
    · unfold dropL; rw [h1]; exact hI
    · unfold dropD; rw [hb]
  | some e =>
    obtain ⟨j, h1, h2, rfl⟩ := byI_some hb
    have hem := List.mem_of_getElem? h2
    have hpos := hP e hem
    have hblk := hI.blk e hem
    have hus := hI.us e hem
    have hu1 : e.u - 1 < 2 ^ 60 := by omega
    have hlen : (le8 (e.u - 1) ++ e.n).length = (le8 e.u ++ e.n).length := by rw [List.length_append, List.length_append, le8_len, le8_len]
    have hR : dropR L e.id = 0 := by unfold dropR; rw [hb]; rfl
    have hLd : dropL L e.id = if e.u = 1 then L.eraseIdx j else reuse L j e (e.u - 1) := by unfold dropL; rw [h1]; simp only [h2]
    have hDd : dropD D L e.id = if e.u = 1 then freeD D e.id else D := by unfold dropD; rw [hb]
    refine yp (pU rfl) (yp (pExt rfl rfl) (yp (pExt rfl rfl) (yp (pT rfl) (yp (pB rfl) (ynil (tnorm (yseq (yseq (yregion (yp (pB rfl) (yp (pNot rfl) (ynil (tnorm (ycondF rfl (yskip (tnorm (yseq (yregion (yp (pP rfl) (yp (pI rfl) ?_))))))))))))))))))))
    refine ycons (ycall (tbUses hT hA hI e.id) rfl rfl fun r S' h => ?_)
    obtain ⟨rfl, rfl⟩ := h
    rw [hb]
    have hT0 := hT
    obtain ⟨ib, lb, HI, HG, hMI, hMG, rfl⟩ := hT
    refine ylforget (Junk.re (S1 := [tseg tb ab ib lb ++ HI ++ HG, H]) (S2 := [tseg tb ab ib lb, HI, HG, H]) (by simp)) ?_
    show YL _ _ _ _ _ (putE _ (.int .i64 (e.u : Int)) _) _
    refine yp (pDec rfl rfl (by omega)) (yp (pI rfl) (ynil (tnorm (yseq (yregion (yp (pP rfl) (yp (pI rfl) (yp (pI rfl) ?_))))))))
    refine ycons (ycall (tbSet (tb := tb) (ib := ib) (lb := lb) hA hblk (e.u - 1) hu1) rfl rfl fun r S' h => ?_)
    obtain ⟨rfl, H2, hA2, rfl⟩ := h
    refine ynil (tnorm (yseq (yseq (yregion (yp (pI rfl) (yp (pEq rfl rfl) (ynil (tnorm ?_))))))))
    by_cases hu : e.u = 1
    · rw [if_pos hu] at hLd hDd
      rw [decide_eq_true (show ((e.u - 1 : Nat) : Int) = 0 from by omega)]
      refine ycondT rfl (yseq (yregion (yp (pP rfl) (yp (pNilc rfl) (yp (pFadr rfl) ?_)))))
      refine ycons (yload1 rfl rfl ?_)
      refine yp (pT rfl) ?_
      refine ycons (ymdel hMI (⟨e.n.toArray⟩ : ByteArray) undIds undStr rfl rfl fun HI2 hMI2 => ?_)
      refine ynil (tnorm (yseq (yregion (yp (pP rfl) (yp (pNilc rfl) (yp (pFadr rfl) ?_))))))
      refine ycons (yload1 rfl rfl ?_)
      refine yp (pI rfl) ?_
      refine ycons (ymdel hMG e.id undAll undInt rfl rfl fun HG2 hMG2 => ?_)
      refine ynil (tnorm (yregion (yp (pP rfl) (yp (pNilc rfl) (yp (pFadr rfl) ?_)))))
      refine ycons (yload1 rfl rfl ?_)
      refine yp (pI rfl) ?_
      refine ycons (ycall (arFree hA2 e.id) rfl rfl fun r S' h => ?_)
      obtain ⟨rfl, H3, hA3, rfl⟩ := h
      rw [free_set hblk] at hA3
      have hc1 : mdel (idOf L) (⟨e.n.toArray⟩ : ByteArray) L.length = (L.eraseIdx j).length := by
        unfold mdel
        rw [(idOf_iff hI.dis).2 ⟨e, hem, rfl, rfl⟩, List.length_eraseIdx, if_pos (List.getElem?_eq_some_iff.1 h2).1]; rfl
      have hc2 : mdel (allOf L) e.id L.length = (L.eraseIdx j).length := by
        unfold mdel
        rw [allOf_iff.2 ⟨rfl, e, hem, rfl⟩, List.length_eraseIdx, if_pos (List.getElem?_eq_some_iff.1 h2).1]; rfl
      rw [hc1, ← idOf_erase hI.dis h2] at hMI2
      rw [hc2, ← allOf_erase hI.dis h2] at hMG2
      refine ynil (tnorm (yseq (yregion (yp pC (ynil (tnorm (yret ?_)))))))
      exact yfin (rI rfl) ⟨[tseg tb ab ib lb ++ HI2 ++ HG2, H3], Junk.re (S1 := [tseg tb ab ib lb, HI2, HG2, H3]) (by simp), by rw [hR], _, H3, _, hLd ▸ Tb.mk hMI2 hMG2, hA3, hLd ▸ hI.drop h2, by rw [hDd], rfl⟩
    · rw [if_neg hu] at hLd hDd
      rw [decide_eq_false (show ¬ ((e.u - 1 : Nat) : Int) = 0 from by omega)]
      refine ycondF rfl (yskip (tnorm (yseq (yregion (yp pC (ynil (tnorm (yret ?_))))))))
      exact yfin (rI rfl) ⟨[tseg tb ab ib lb ++ HI ++ HG, H2], Junk.re (S1 := [tseg tb ab ib lb, HI, HG, H2]) (by simp), by rw [hR], _, H2, _, hLd ▸ Tb.reuse hT0 hI.dis h2, hA2, hLd ▸ hI.reuse h2 hu1, by rw [hDd]; exact shp_set hblk hlen, rfl⟩
end Go.Proofs.Ytejmbmenbailmaa
namespace Go.Proofs.Ytejmbmenbailmaa
open Go.Xs
open Enc (enc)

theorem Inn.nil : Inn [] [] [] := ⟨⟨List.nodup_nil, List.nodup_nil⟩, fun e he => by simp at he, fun e he => by simp at he, fun i b h => by unfold getB at h; split at h <;> simp at h, fun e he => by simp at he, fun e he => by simp at he⟩
theorem Pos.nil : Pos [] := fun e he => by simp at he
end Go.Proofs.Ytejmbmenbailmaa
namespace Go.Proofs.Ytejmbmenbailmaa
open Go.Xs
open Enc (enc)

theorem byN_of_mem {L : List Nm} {e : Nm} (he : e ∈ L) : (byN L e.n).isSome = true := by
  cases hb : byN L e.n with
  | some x => rfl
  | none => exact absurd rfl (nixN_none (byN_none hb) e he)
theorem addL_u {D : List (Option Bt)} {L : List Nm} {n : Bs} {k : Nat} (h : ∀ e ∈ L, e.u ≤ k) : ∀ e ∈ addL D L n, e.u ≤ k + 1 := fun e he => by
  cases hb : byN L n with
  | some x =>
    obtain ⟨j, h1, h2, rfl⟩ := byN_some hb
    have : addL D L x.n = reuse L j x (x.u + 1) := by unfold addL; rw [h1]; simp only [h2]
    rw [this] at he
    unfold reuse at he
    rcases List.mem_or_eq_of_mem_set he with he | rfl
    · have := h e he; omega
    · have := h x (List.mem_of_getElem? h2); show x.u + 1 ≤ k + 1; omega
  | none =>
    have : addL D L n = L ++ [⟨((hnd D : Nat) : Int), n, 1⟩] := by unfold addL; rw [byN_none hb]
    rw [this] at he
    rcases List.mem_append.1 he with he | he
    · have := h e he; omega
    · rw [List.mem_singleton.1 he]; show 1 ≤ k + 1; omega
theorem addL_pos {D : List (Option Bt)} {L : List Nm} {n : Bs} (h : Pos L) : Pos (addL D L n) := fun e he => by
  cases hb : byN L n with
  | some x =>
    obtain ⟨j, h1, h2, rfl⟩ := byN_some hb
    have : addL D L x.n = reuse L j x (x.u + 1) := by unfold addL; rw [h1]; simp only [h2]
    rw [this] at he
    unfold reuse at he
    rcases List.mem_or_eq_of_mem_set he with he | rfl
    · exact h e he
    · show 1 ≤ x.u + 1; omega
  | none =>
    have : addL D L n = L ++ [⟨((hnd D : Nat) : Int), n, 1⟩] := by unfold addL; rw [byN_none hb]
    rw [this] at he
    rcases List.mem_append.1 he with he | he
    · exact h e he
    · rw [List.mem_singleton.1 he]; exact Nat.le_refl _
theorem dropL_pos {L : List Nm} {i : Int} (h : Pos L) : Pos (dropL L i) := fun e he => by
  unfold dropL at he
  split at he
  · split at he
    · next x hx =>
      split at he
      · exact h e ((List.eraseIdx_sublist _ _).subset he)
      · next hu =>
        unfold reuse at he
        rcases List.mem_or_eq_of_mem_set he with he | rfl
        · exact h e he
        · have := h x (List.mem_of_getElem? hx); show 1 ≤ x.u - 1; omega
    · exact h e he
  · exact h e he
end Go.Proofs.Ytejmbmenbailmaa
