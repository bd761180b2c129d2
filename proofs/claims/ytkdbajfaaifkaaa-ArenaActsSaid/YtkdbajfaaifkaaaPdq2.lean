/- slices.SortFunc: the choice of a pivot, patterns, and the whole. -/
import Derived.Test.YtkdbajfaaifkaaaPdq
namespace Go.Xs
open Enc (enc)
section
variable {P : Program} {r : Option Nat} {n : Nat} {K : Env → Segs → Prop} {E : Env} {S R : Segs} {d : Option Tmp}
theorem pShrN {x y : Operand} {k k' : IntKind} {a b : Nat} (h1 : ev E x = .int k (a : Int)) (h2 : ev E y = .int k' (b : Int)) (hb : b ≤ k.bits) : pstep (ev E) (.bin .shr x y) = some (.int k ((a / 2 ^ b : Nat) : Int)) := by
  have e : Nat.min b k.bits = b := Nat.min_eq_left hb
  simp only [pstep, h1, h2, xbin, xint]
  rw [if_pos (by simp), if_neg (by omega), show ((b : Int)).toNat = b from rfl, e]
  congr 2
  rw [Int.fdiv_eq_ediv_of_nonneg _ (by exact_mod_cast Nat.zero_le _)]
  norm_cast
theorem pShlE {x y : Operand} {k k' : IntKind} {a b : Int} (h1 : ev E x = .int k a) (h2 : ev E y = .int k' b) (hb : 0 ≤ b) : pstep (ev E) (.bin .shl x y) = some (.int k (k.wrap (a * 2 ^ (Nat.min b.toNat k.bits)))) := by
  simp [pstep, h1, h2, xbin, xint, show ¬ b < 0 from by omega]
theorem pShrE {x y : Operand} {k k' : IntKind} {a b : Int} (h1 : ev E x = .int k a) (h2 : ev E y = .int k' b) (hb : 0 ≤ b) : pstep (ev E) (.bin .shr x y) = some (.int k (a.fdiv (2 ^ (Nat.min b.toNat k.bits)))) := by
  simp [pstep, h1, h2, xbin, xint, show ¬ b < 0 from by omega]
theorem pXorE {x y : Operand} {k : IntKind} {a b : Int} (h1 : ev E x = .int k a) (h2 : ev E y = .int k b) : pstep (ev E) (.bin .xor x y) = some (.int k (xbits .xor k a b)) := by
  simp [pstep, h1, h2, xbin, xint]
theorem pAndN {x y : Operand} {a : Int} {b : Nat} (h1 : ev E x = .int .u64 a) (h2 : ev E y = .int .u64 (b : Int)) (hb : b < 18446744073709551616) : ∃ c : Nat, c ≤ b ∧ pstep (ev E) (.bin .and x y) = some (.int .u64 (c : Int)) := by
  refine ⟨(BitVec.ofInt 64 a).toNat &&& b, Nat.and_le_right, ?_⟩
  simp only [pstep, h1, h2, xbin, xint, xbits]
  rw [if_pos (by simp)]
  congr 2
  have hw : ∀ c : Nat, c < 18446744073709551616 → IntKind.u64.wrap (c : Int) = c := fun c hc => by
    have : IntKind.u64.wrap (c : Int) = (c : Int) % 18446744073709551616 := by simp [IntKind.wrap, IntKind.signed, IntKind.bits]
    rw [this]; omega
  have e : (BitVec.ofInt IntKind.u64.bits a &&& BitVec.ofInt IntKind.u64.bits (b : Int)).toNat = (BitVec.ofInt 64 a).toNat &&& b := by
    show (BitVec.ofInt 64 a &&& BitVec.ofInt 64 (b : Int)).toNat = _
    rw [BitVec.toNat_and]
    congr 1
    rw [BitVec.toNat_ofInt]
    simp
    omega
  rw [e]
  exact hw _ (Nat.lt_of_le_of_lt Nat.and_le_right hb)
theorem yandN {x y : Operand} {a : Int} {b : Nat} (h1 : ev E x = .int .u64 a) (h2 : ev E y = .int .u64 (b : Int)) (hb : b < 18446744073709551616) (h : ∀ c : Nat, c ≤ b → K (putE d (.int .u64 (c : Int)) E) S) : YO P r n d (.bin .and x y) K E S := by
  obtain ⟨c, hc, hp⟩ := pAndN h1 h2 hb
  exact yop hp (h c hc)
theorem pSubU {x y : Operand} {a b : Nat} (h1 : ev E x = .int .u64 (a : Int)) (h2 : ev E y = .int .u64 (b : Int)) (h : b ≤ a) (ha : a < 18446744073709551616) : pstep (ev E) (.bin .sub x y) = some (.int .u64 ((a - b : Nat) : Int)) := by
  simp only [pstep, h1, h2, xbin, xint]
  rw [if_pos (by simp)]
  congr 2
  have : IntKind.u64.wrap ((a : Int) - b) = ((a : Int) - b) % 18446744073709551616 := by simp [IntKind.wrap, IntKind.signed, IntKind.bits]
  rw [this]; omega
theorem pShl1 {x : Operand} {k' : IntKind} {b : Nat} (h2 : ev E x = .int k' (b : Int)) (hb : b ≤ 60) : pstep (ev E) (.bin .shl (.const (.int .u64 1)) x) = some (.int .u64 ((2 ^ b : Nat) : Int)) := by
  rw [pShlE (a := 1) rfl h2 (by omega)]
  congr 2
  have e : Nat.min b IntKind.u64.bits = b := Nat.min_eq_left (by show b ≤ 64; omega)
  rw [show ((b : Int)).toNat = b from rfl, e]
  have h1 : (2 : Nat) ^ b ≤ 2 ^ 60 := Nat.pow_le_pow_right (by decide) hb
  have : IntKind.u64.wrap (1 * 2 ^ b : Int) = (1 * 2 ^ b : Int) % 18446744073709551616 := by simp [IntKind.wrap, IntKind.signed, IntKind.bits]
  rw [this, Int.one_mul, show ((2 : Int) ^ b) = ((2 ^ b : Nat) : Int) from by norm_cast]
  clear this
  generalize (2 : Nat) ^ b = q at h1 ⊢
  omega
/-- how many bits a number has -/
structure IsLen (n l : Nat) : Prop where
  up : n < 2 ^ l
  dn : 0 < n → 1 ≤ l ∧ 2 ^ (l - 1) ≤ n
theorem lenTab_ok : ∀ x : Fin 256, ∃ h : x.val < lenTab.size, (lenTab[x.val]'h).toNat ≤ 8 ∧ x.val < 2 ^ (lenTab[x.val]'h).toNat ∧ (0 < x.val → 1 ≤ (lenTab[x.val]'h).toNat ∧ 2 ^ ((lenTab[x.val]'h).toNat - 1) ≤ x.val) := by decide +kernel
theorem IsLen.of_div {n s x t : Nat} (hx : x = n / 2 ^ s) (hs : 0 < s → 0 < x) (h1 : x < 2 ^ t) (h2 : 0 < x → 1 ≤ t ∧ 2 ^ (t - 1) ≤ x) : IsLen n (s + t) := by
  refine ⟨?_, fun hn => ?_⟩
  · rw [Nat.pow_add]
    have := (Nat.div_lt_iff_lt_mul (Nat.two_pow_pos s)).1 (hx ▸ h1)
    rwa [Nat.mul_comm]
  · have h0 : 0 < x := by
      rcases Nat.eq_zero_or_pos s with rfl | h
      · simp at hx; omega
      · exact hs h
    obtain ⟨h3, h4⟩ := h2 h0
    refine ⟨by omega, ?_⟩
    have := (Nat.le_div_iff_mul_le (Nat.two_pow_pos s)).1 (hx ▸ h4)
    rw [← Nat.pow_add] at this
    rwa [show s + t - 1 = t - 1 + s from by omega]
theorem pd_len64 {f : Nat} (hf : FnX P f 25 #[.tmp 2] xpLen64) {m : Nat} (hm : m < 2 ^ 40) : Tri P f #[.int .u64 (m : Int)] [] (fun r S => ∃ l : Nat, r = .int .i64 (l : Int) ∧ l ≤ 60 ∧ IsLen m l ∧ S = []) := by
  refine Tri.forget (ycallee hf (Nat.le_of_ble_eq_true rfl) ?_)
  unfold xpLen64
  refine yseq ?_
  refine yregion ?_
  refine yp pC ?_
  refine ynil ?_
  refine tnorm ?_
  refine ycut (fun E S => ∃ x s : Nat, Has E [(0, .int .u64 (x : Int)), (2, .int .i64 (s : Int))] ∧ x = m / 2 ^ s ∧ (0 < s → 0 < x) ∧ x < 2 ^ 32 ∧ (s = 0 ∨ s = 32 ∧ x < 256) ∧ Junk S []) ?_ fun E S ⟨x, s, hE, hx, hs, hb, hc, hJ⟩ => ?_
  · refine yseq ?_
    refine yregion ?_
    refine yp (pI rfl) ?_
    refine yp (pGe rfl rfl) ?_
    refine ynil ?_
    refine tnorm ?_
    refine ycondD rfl (fun h => ?_) (fun h => ?_)
    · refine yseq ?_
      refine yregion ?_
      refine yp (pI rfl) ?_
      refine yp (pShrN (b := 32) rfl rfl (by decide)) ?_
      refine yp (pI rfl) ?_
      refine ynil ?_
      refine tnorm ?_
      refine yregion ?_
      refine yp pC ?_
      refine ynil ?_
      refine tnorm ?_
      exact ⟨m / 2 ^ 32, 32, ⟨rfl, rfl, trivial⟩, rfl, fun _ => by omega, by omega, .inr ⟨rfl, by omega⟩, .of⟩
    · refine yskip ?_
      refine tnorm ?_
      exact ⟨m, 0, ⟨rfl, rfl, trivial⟩, by simp, fun h => by omega, by omega, .inl rfl, .of⟩
  obtain ⟨E0, e0⟩ := has_puts hE; subst e0; clear hE
  refine yforget hJ ?_
  refine ycut (fun E S => ∃ x s : Nat, Has E [(0, .int .u64 (x : Int)), (2, .int .i64 (s : Int))] ∧ x = m / 2 ^ s ∧ (0 < s → 0 < x) ∧ x < 2 ^ 16 ∧ s ≤ 32 ∧ (s ≤ 16 ∨ x < 256) ∧ Junk S []) ?_ fun E S ⟨x, s, hE, hx, hs, hb, hc, hd, hJ⟩ => ?_
  · refine yseq ?_
    refine yregion ?_
    refine yp (pI rfl) ?_
    refine yp (pGe rfl rfl) ?_
    refine ynil ?_
    refine tnorm ?_
    refine ycondD rfl (fun h => ?_) (fun h => ?_)
    · have h0 : s = 0 := by omega
      subst h0
      refine yseq ?_
      refine yregion ?_
      refine yp (pI rfl) ?_
      refine yp (pShrN (b := 16) rfl rfl (by decide)) ?_
      refine yp (pI rfl) ?_
      refine ynil ?_
      refine tnorm ?_
      refine yregion ?_
      refine yp (pI rfl) ?_
      refine yp (pAdd rfl rfl (by omega)) ?_
      refine yp (pI rfl) ?_
      refine ynil ?_
      refine tnorm ?_
      exact ⟨x / 2 ^ 16, 16, ⟨rfl, rfl, trivial⟩, by rw [hx]; simp, fun _ => by omega, by omega, by omega, .inl (by omega), .of⟩
    · refine yskip ?_
      refine tnorm ?_
      exact ⟨x, s, ⟨rfl, rfl, trivial⟩, hx, hs, by omega, by omega, by omega, .of⟩
  obtain ⟨E0, e0⟩ := has_puts hE; subst e0; clear hE
  refine yforget hJ ?_
  refine ycut (fun E S => ∃ x s : Nat, Has E [(0, .int .u64 (x : Int)), (2, .int .i64 (s : Int))] ∧ x = m / 2 ^ s ∧ (0 < s → 0 < x) ∧ x < 256 ∧ s ≤ 32 ∧ Junk S []) ?_ fun E S ⟨x, s, hE, hx, hs, hb, hc, hJ⟩ => ?_
  · refine yseq ?_
    refine yregion ?_
    refine yp (pI rfl) ?_
    refine yp (pGe rfl rfl) ?_
    refine ynil ?_
    refine tnorm ?_
    refine ycondD rfl (fun h => ?_) (fun h => ?_)
    · have h0 : s ≤ 16 := by omega
      refine yseq ?_
      refine yregion ?_
      refine yp (pI rfl) ?_
      refine yp (pShrN (b := 8) rfl rfl (by decide)) ?_
      refine yp (pI rfl) ?_
      refine ynil ?_
      refine tnorm ?_
      refine yregion ?_
      refine yp (pI rfl) ?_
      refine yp (pAdd rfl rfl (by omega)) ?_
      refine yp (pI rfl) ?_
      refine ynil ?_
      refine tnorm ?_
      exact ⟨x / 2 ^ 8, s + 8, ⟨rfl, congrArg (Value.int .i64) (by omega), trivial⟩, by rw [hx, Nat.div_div_eq_div_mul, ← Nat.pow_add], fun _ => by omega, by omega, by omega, .of⟩
    · refine yskip ?_
      refine tnorm ?_
      exact ⟨x, s, ⟨rfl, rfl, trivial⟩, hx, hs, by omega, by omega, .of⟩
  obtain ⟨E0, e0⟩ := has_puts hE; subst e0; clear hE
  refine yforget hJ ?_
  obtain ⟨hsz, ht8, ht1, ht2⟩ := lenTab_ok ⟨x, hb⟩
  dsimp only at hsz ht8 ht1 ht2
  refine yseq ?_
  refine yregion ?_
  refine yp (pI rfl) ?_
  refine yp (pI rfl) ?_
  refine yp (v := .int .u8 (x : Int)) ?_ ?_
  · show some (Value.int .u8 (IntKind.u8.wrap (x : Int))) = _
    have : IntKind.u8.wrap (x : Int) = (x : Int) % 256 := by simp [IntKind.wrap, IntKind.signed, IntKind.bits]
    rw [this]
    congr 2
    omega
  refine yp (pSIx rfl rfl hsz) ?_
  refine yp (v := .int .i64 ((lenTab[x].toNat : Nat) : Int)) ?_ ?_
  · show some (Value.int .i64 (IntKind.i64.wrap ((lenTab[x].toNat : Nat) : Int))) = _
    rw [wrap_i64 (by omega)]
  generalize lenTab[x].toNat = t at ht8 ht1 ht2
  refine yp (pAddN rfl rfl (by omega)) ?_
  refine yp (pI rfl) ?_
  refine ynil ?_
  refine tnorm ?_
  refine yret ?_
  exact yfin (rI rfl) ⟨_, .of, s + t, rfl, by omega, IsLen.of_div hx hs ht1 ht2, rfl⟩
theorem pd_len {f fO f2 : Nat} (hf : FnX P f 8 #[.tmp 2] (xpLen fO f2)) (h2 : FnX P f2 25 #[.tmp 2] xpLen64) {m : Nat} (hm : m < 2 ^ 40) : Tri P f #[.int .u64 (m : Int)] [] (fun r S => ∃ l : Nat, r = .int .i64 (l : Int) ∧ l ≤ 60 ∧ IsLen m l ∧ S = []) := by
  refine Tri.forget (ycallee hf (Nat.le_of_ble_eq_true rfl) ?_)
  unfold xpLen
  refine yseq ?_
  refine yregion ?_
  refine yp pC ?_
  refine ynil ?_
  refine tnorm ?_
  refine yseq ?_
  refine ycondF rfl ?_
  refine yskip ?_
  refine tnorm ?_
  refine yseq ?_
  refine yregion ?_
  refine yp (pI rfl) ?_
  refine ycons (ycall (pd_len64 h2 hm) rfl rfl fun r S' h => ?_)
  obtain ⟨l, rfl, hl, hi, rfl⟩ := h
  refine yp (pI rfl) ?_
  refine ynil ?_
  refine tnorm ?_
  refine yret ?_
  exact yfin (rI rfl) ⟨_, .of, l, rfl, hl, hi, rfl⟩
theorem rU {E : Env} {S : Segs} {t : Tmp} {a : Int} (hv : E t = .int .u64 a) : Res P #[.tmp t] E S (.int .u64 a) := rI hv
theorem pd_npt {f fl fO f2 : Nat} (hf : FnX P f 7 #[.tmp 2] (xpNpt fl)) (h1 : FnX P fl 8 #[.tmp 2] (xpLen fO f2)) (h2 : FnX P f2 25 #[.tmp 2] xpLen64) {m : Nat} (hm : m < 2 ^ 40) (h0 : 0 < m) : Tri P f #[.int .i64 (m : Int)] [] (fun r S => ∃ q : Nat, r = .int .u64 (q : Int) ∧ 1 ≤ q ∧ q ≤ 2 * m ∧ S = []) := by
  refine Tri.forget (ycallee hf (Nat.le_of_ble_eq_true rfl) ?_)
  unfold xpNpt
  refine yseq ?_
  refine yregion ?_
  refine yp pC ?_
  refine ynil ?_
  refine tnorm ?_
  refine yseq ?_
  refine yregion ?_
  refine yp (pI rfl) ?_
  refine yp (pCvU rfl (by omega)) ?_
  refine ycons (ycall (pd_len h1 h2 hm) rfl rfl fun r S' h => ?_)
  obtain ⟨l, rfl, hl, hi, rfl⟩ := h
  refine yp (pShl1 rfl hl) ?_
  refine yp (pI rfl) ?_
  refine ynil ?_
  refine tnorm ?_
  refine yret ?_
  refine yfin (rU rfl) ⟨_, .of, 2 ^ l, rfl, Nat.two_pow_pos l, ?_, rfl⟩
  obtain ⟨h3, h4⟩ := hi.dn h0
  obtain ⟨l', rfl⟩ : ∃ l', l = l' + 1 := ⟨l - 1, by omega⟩
  rw [Nat.pow_succ]
  simp at h4
  omega
theorem pd_nxt {f : Nat} (hf : FnX P f 33 #[.tmp 2] xpNxt) {xb tx : Nat} (v : Int) : Tri P f #[.pointer (some ⟨xb, 0, none⟩)] [[(xb, .cells #[.int .u64 v] tx)]] (fun r S => ∃ z, r = .int .u64 z ∧ S = [[(xb, .cells #[.int .u64 z] tx)]]) := by
  refine Tri.forget (ycallee hf (Nat.le_of_ble_eq_true rfl) ?_)
  unfold xpNxt
  refine yseq ?_
  refine yregion ?_
  refine yp pC ?_
  refine ynil ?_
  refine tnorm ?_
  refine yseq ?_
  refine ydraw ?_
  refine ytq (pP rfl) ?_
  refine ytq (pNilc rfl) ?_
  refine ytl1 rfl rfl ?_
  refine ytq (pP rfl) ?_
  refine ytq (pNilc rfl) ?_
  refine ytl1 rfl rfl ?_
  refine ytq (pShlE rfl rfl (by omega)) ?_
  refine ytq (pXorE rfl rfl) ?_
  refine ytq (pNilc rfl) ?_
  refine ytalt (yst1_0 rfl rfl (scI rfl) ?_) ytno
  generalize xbits .xor .u64 v _ = v
  refine ytdone ?_
  refine tnorm ?_
  refine yseq ?_
  refine ydraw ?_
  refine ytq (pP rfl) ?_
  refine ytq (pNilc rfl) ?_
  refine ytl1 rfl rfl ?_
  refine ytq (pP rfl) ?_
  refine ytq (pNilc rfl) ?_
  refine ytl1 rfl rfl ?_
  refine ytq (pShrE rfl rfl (by omega)) ?_
  refine ytq (pXorE rfl rfl) ?_
  refine ytq (pNilc rfl) ?_
  refine ytalt (yst1_0 rfl rfl (scI rfl) ?_) ytno
  generalize xbits .xor .u64 v _ = v
  refine ytdone ?_
  refine tnorm ?_
  refine yseq ?_
  refine ydraw ?_
  refine ytq (pP rfl) ?_
  refine ytq (pNilc rfl) ?_
  refine ytl1 rfl rfl ?_
  refine ytq (pP rfl) ?_
  refine ytq (pNilc rfl) ?_
  refine ytl1 rfl rfl ?_
  refine ytq (pShlE rfl rfl (by omega)) ?_
  refine ytq (pXorE rfl rfl) ?_
  refine ytq (pNilc rfl) ?_
  refine ytalt (yst1_0 rfl rfl (scI rfl) ?_) ytno
  generalize xbits .xor .u64 v _ = v
  refine ytdone ?_
  refine tnorm ?_
  refine yseq ?_
  refine yregion ?_
  refine yp (pP rfl) ?_
  refine yp (pNilc rfl) ?_
  refine ycons (yload1 rfl rfl ?_)
  refine yp (pI rfl) ?_
  refine ynil ?_
  refine tnorm ?_
  refine yret ?_
  exact yfin (rU rfl) ⟨_, .of, v, rfl, rfl⟩
end
end Go.Xs
