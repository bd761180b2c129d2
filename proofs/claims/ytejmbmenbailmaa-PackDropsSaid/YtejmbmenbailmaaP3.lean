/- Sets in blocks (chapter 8): what reads a set's bytes. Sets in blocks (chapter 8): a record's data is read. Sets in blocks (chapter 8): a set is read. Sets in blocks (chapter 8): Get, Drop. Sets in blocks (chapter 8): Put. -/
import Derived.Test.YtejmbmenbailmaaP2
namespace Go.Proofs.Ytejmbmenbailmaa
open Go.Xs
open Enc (enc)

theorem srcTake {α : Type} [Enc α] {S : Segs} {a : Option Addr} {c : Nat} {Y : List α} (h : Src S (.slice a Y.length c) Y) {n : Nat} (hn : n ≤ Y.length) : Src S (.slice a n c) (Y.take n) := by
  generalize hv : Value.slice a Y.length c = v at h
  cases h with
  | nil =>
    simp only [Value.slice.injEq] at hv
    have : n = 0 := by simpa using hn
    subst this
    rw [List.take_zero]; exact .nil
  | @part b o cap ca ty fz Y hm hc =>
    simp only [Value.slice.injEq] at hv
    obtain ⟨rfl, _, rfl⟩ := hv
    have hl : (Y.take n).length = n := by rw [List.length_take]; omega
    have := Src.part (S := S) (b := b) (o := o) (cap := c) (c := ca) (ty := ty) (fz := fz) (Y := Y.take n) hm (by
      have h1 := congrArg (fun l => l.take (n * Enc.k α)) hc
      simp only [cells_take, List.take_take] at h1
      rw [hl, ← h1, Nat.min_eq_left (Nat.mul_le_mul_right _ hn)])
    rwa [hl] at this
theorem srcFrom {α : Type} [Enc α] {S : Segs} {a : Option Addr} {c kk : Nat} {Y : List α} (h : Src S (.slice a Y.length c) Y) (hkk : Enc.k α = kk) (hc : Y.length ≤ c) {n : Nat} (hn : n ≤ Y.length) :
    ∃ a2, (∀ (E : Env) (q : IntKind) (x y : Operand), ev E x = .slice a Y.length c → ev E y = .int q (n : Int) → pstep (ev E) (.slc kk x (some y) none none) = some (.slice a2 (Y.length - n) (c - n))) ∧ Src S (.slice a2 (Y.length - n) (c - n)) (Y.drop n) := by
  subst hkk
  generalize hv : Value.slice a Y.length c = v at h
  cases h with
  | nil =>
    simp only [Value.slice.injEq] at hv
    obtain ⟨rfl, _, rfl⟩ := hv
    have h0 : n = 0 := by simpa using hn
    subst h0
    refine ⟨if c = 0 then a else a.map (·.add (0 * Enc.k α)), fun E q x y hx hy => ?_, .nil⟩
    simp [pstep, hx, bndV, hy, asI, bnd, bnd1]
  | @part b o cap ca ty fz Y hm hcell =>
    simp only [Value.slice.injEq] at hv
    obtain ⟨rfl, _, rfl⟩ := hv
    refine ⟨_, fun E q x y hx hy => pSlFrom hx hy hn, ?_⟩
    have hl : (Y.drop n).length = Y.length - n := List.length_drop
    by_cases h0 : Y.length - n = 0
    · have : Y.drop n = [] := List.length_eq_zero_iff.1 (by omega)
      rw [h0, this]; exact .nil
    have hne : ¬ c = n := by omega
    have := Src.part (S := S) (b := b) (o := o + n * Enc.k α) (cap := c - n) (c := ca) (ty := ty) (fz := fz) (Y := Y.drop n) hm (by
      rw [← List.drop_drop]
      have h1 := congrArg (fun l => l.drop (n * Enc.k α)) hcell
      simp only [cells_drop] at h1
      rw [hl, ← h1, List.drop_take, Nat.sub_mul])
    rw [hl] at this
    rw [if_neg hne]; exact this

/-! ### numbers -/
def leV : Bs → Nat
  | [] => 0
  | b :: l => b.toNat + 256 * leV l
theorem leV_lt : ∀ (X : Bs), leV X < 2 ^ (8 * X.length)
  | [] => by decide
  | b :: l => by
    have h1 := leV_lt l
    have h2 := b.toNat_lt
    have h3 : 2 ^ (8 * (l.length + 1)) = 256 * 2 ^ (8 * l.length) := by rw [show 8 * (l.length + 1) = 8 + 8 * l.length from by omega, Nat.pow_add]
    show b.toNat + 256 * leV l < 2 ^ (8 * (l.length + 1))
    omega
theorem leV_snoc : ∀ (X : Bs) (b : UInt8), leV (X ++ [b]) = leV X + b.toNat * 2 ^ (8 * X.length)
  | [], b => by show b.toNat + 256 * 0 = 0 + b.toNat * 2 ^ 0; omega
  | x :: l, b => by
    have h1 := leV_snoc l b
    have h3 : 2 ^ (8 * (l.length + 1)) = 256 * 2 ^ (8 * l.length) := by rw [show 8 * (l.length + 1) = 8 + 8 * l.length from by omega, Nat.pow_add]
    show x.toNat + 256 * leV (l ++ [b]) = x.toNat + 256 * leV l + b.toNat * 2 ^ (8 * (l.length + 1))
    rw [h1, h3, Nat.mul_add, ← Nat.mul_assoc, Nat.mul_comm 256 b.toNat, Nat.mul_assoc, Nat.add_assoc, ← Nat.mul_assoc b.toNat]
theorem leV_leN : ∀ (k n : Nat), leV (leN k n) = n % 256 ^ k
  | 0, n => by show 0 = n % 1; omega
  | k + 1, n => by
    have h1 := leV_leN k (n / 256)
    have h2 : (UInt8.ofNat (n % 256)).toNat = n % 256 := by simp
    show (UInt8.ofNat (n % 256)).toNat + 256 * leV (leN k (n / 256)) = n % 256 ^ (k + 1)
    rw [h1, h2, Nat.pow_succ, Nat.mul_comm (256 ^ k), Nat.mod_mul]

abbrev rseg (x tb : Nat) (bv iv : Value) : List Chunk := [(x, .cells #[.pointer (some ⟨tb, 0, none⟩), bv, iv, .bool false] 108)]
theorem rdBytes {x tb : Nat} {iv : Value} {S0 : Segs} {a : Option Addr} {c : Nat} {Y : Bs} (h : Src S0 (.slice a Y.length c) Y) (hc : Y.length ≤ c) {n : Nat} (hn : n ≤ Y.length) :
    Tri Try.prog 76 #[.pointer (some ⟨x, 0, none⟩), .int .i64 (n : Int)] [rseg x tb (.slice a Y.length c) iv] (fun r S => r = .slice a n c ∧ ∃ a2, Src S0 (.slice a2 (Y.length - n) (c - n)) (Y.drop n) ∧ S = [rseg x tb (.slice a2 (Y.length - n) (c - n)) iv]) := by
  refine Tri.forget (ycallee Try.fx76 (Nat.le_of_ble_eq_true rfl) ?_)
  unfold Try.x76
  obtain ⟨a2, hp, hs2⟩ := srcFrom h (kk := 1) rfl hc hn
  refine yseq (yregion (yp pC (ynil (tnorm (yseq (yseq (yregion (yp (pP rfl) (yp (pP rfl) (yp (pNilc rfl) (yp (pFadr rfl) ?_)))))))))))
  refine ycons (yload1 rfl rfl ?_)
  refine yp (pB rfl) (ygT rfl (yop (pI rfl) (ygT rfl (yop (pP rfl) (ygT rfl (yop (pNilc rfl) (ygT rfl (yop (pFadr rfl) (ygT rfl ?_)))))))))
  refine (yload1 rfl rfl ?_)
  refine ygT rfl (yop (pLen rfl) (ygT rfl (yop (pGt rfl rfl) (yp (pPickF rfl rfl) (yp (pNilc rfl) (yp (pFadr rfl) ?_))))))
  refine ycons (yst4_3 rfl rfl (scB rfl) ?_)
  refine ynil (tnorm (yseq (yregion (yp (pP rfl) (yp (pNilc rfl) (yp (pFadr rfl) ?_))))))
  refine ycons (yload1 rfl rfl ?_)
  refine ynil (tnorm ?_)
  rw [decide_eq_false (show ¬ ((Y.length : Nat) : Int) < (n : Int) from by omega)]
  refine ycondF rfl (yskip (tnorm (yseq (yregion (yp (pP rfl) (yp (pNilc rfl) (yp (pFadr rfl) ?_)))))))
  refine ycons (yload1 rfl rfl ?_)
  refine yp (pI rfl) (yp (pSlTo (j := n) rfl rfl (by omega)) (yp (pS rfl) (ynil (tnorm (yseq (yregion (yp (pP rfl) (yp (pP rfl) (yp (pNilc rfl) (yp (pFadr rfl) ?_))))))))))
  refine ycons (yload1 rfl rfl ?_)
  refine yp (pI rfl) (yp (hp _ _ _ _ rfl rfl) (yp (pNilc rfl) (yp (pFadr rfl) ?_)))
  refine ycons (yst4_1 rfl rfl (scS rfl) ?_)
  refine ynil (tnorm (yseq (yregion (yp (pS rfl) (yp (pS rfl) (ynil (tnorm (yret ?_))))))))
  exact yfin (rS rfl) ⟨_, .of, rfl, a2, hs2, rfl⟩
set_option maxRecDepth 10000 in
theorem rdNumber {x tb : Nat} {iv : Value} {S0 : Segs} {a : Option Addr} {c : Nat} {Y : Bs} (h : Src S0 (.slice a Y.length c) Y) (hc : Y.length ≤ c) {n : Nat} (hn : n ≤ Y.length) (hn4 : n ≤ 4) :
    Tri Try.prog 62 #[.pointer (some ⟨x, 0, none⟩), .int .i64 (n : Int)] (rseg x tb (.slice a Y.length c) iv :: S0) (fun r S => r = .int .i64 (leV (Y.take n) : Nat) ∧ ∃ a2, Src S0 (.slice a2 (Y.length - n) (c - n)) (Y.drop n) ∧ S = rseg x tb (.slice a2 (Y.length - n) (c - n)) iv :: S0) := by
  refine Tri.forget (ycallee Try.fx62 (Nat.le_of_ble_eq_true rfl) ?_)
  unfold Try.x62
  have hst := srcTake h hn
  have htl : (Y.take n).length = n := by rw [List.length_take]; omega
  replace hst : Src S0 (.slice a (Y.take n).length c) (Y.take n) := by rw [htl]; exact hst
  refine yseq (yregion (yp pC (ynil (tnorm (yseq (yseq (yregion (yp (pP rfl) (yp (pI rfl) ?_)))))))))
  refine ycons (ycall (rdBytes (x := x) (tb := tb) (iv := iv) h hc hn) rfl rfl fun r S' h => ?_)
  obtain ⟨rfl, a2, hs2, rfl⟩ := h
  generalize Y.take n = X at hst htl
  refine yp (pLen rfl) (yp pC (ynil (tnorm (yblock ?_))))
  refine yloop (σ := Nat) (fun i E S => Has E [(4, .int .i64 (leV (X.take i) : Nat)), (9, .slice a n c), (10, .int .i64 (n : Int)), (11, .int .i64 (i : Int))] ∧ i ≤ n ∧ Junk S (rseg x tb (.slice a2 (Y.length - n) (c - n)) iv :: S0)) (fun i => n - i) 0
    ⟨⟨rfl, rfl, rfl, rfl, trivial⟩, Nat.zero_le _, .of⟩ fun i E S ⟨hE, hi, hJ⟩ => ?_
  obtain ⟨E0, e0⟩ := has_puts hE; subst e0; clear hE
  refine yforget hJ (yseq (yregion (yp (pLt rfl rfl) (ynil (tnorm (yseq ?_))))))
  refine ycondD rfl (fun hlt => ?_) (fun hlt => ?_)
  · have hin : i < X.length := by omega
    obtain ⟨b, o, ca, ty, fz, rfl, hmem, _, hg⟩ := srcAt hst hin
    have hg := hg 0 (by decide)
    have hsn := leV_snoc (X.take i) X[i]
    have hlt2 := leV_lt (X.take i)
    have htk : X.take (i + 1) = X.take i ++ [X[i]] := List.take_succ_eq_append_getElem hin
    rw [← htk] at hsn
    have hti : (X.take i).length = i := by rw [List.length_take]; omega
    rw [hti] at hsn hlt2
    have hld : ca.toList[o + i * 1 + 0]? = some (.int .u8 (X[i].toNat : Int)) := hg
    have hb := X[i].toNat_lt
    generalize X[i] = y at hld hsn hb
    have h64 : 2 ^ (8 * (i + 1)) ≤ 2 ^ 32 := Nat.pow_le_pow_right (by decide) (by omega)
    have hall := leV_lt (X.take (i + 1))
    rw [show (X.take (i + 1)).length = i + 1 from by rw [List.length_take]; omega] at hall
    have hor := or_add (b := y.toNat) hlt2
    have hpos : 0 < 2 ^ (8 * i) := Nat.pow_pos (by decide)
    generalize leV (X.take i) = V at *
    refine yskip (tnorm (yseq (yblock (yseq (yregion (yp (pI rfl) (yp (pIxN rfl rfl (by omega)) ?_)))))))
    refine ycons (yloadM (List.mem_cons_of_mem _ hmem) rfl hld ?_)
    refine yp (pI rfl) (yp (pI rfl) (ynil (tnorm (yregion (yp (pI rfl) (yp (pI rfl) (yp (pCvB rfl) (yp (pI rfl) (yp (pMulN (j := 8) (k := i) rfl rfl (by omega)) (yp (pShlN rfl rfl (by omega) (by omega)) (yp (pOrN rfl rfl (by rw [hor]; omega) (by omega) (by omega)) ?_)))))))))))
    rw [hor, ← hsn]
    refine yp (pI rfl) (ynil (bnorm (tnorm (yregion (yp (pInc rfl rfl (by omega)) (yp (pI rfl) (ynil (tnorm ?_))))))))
    exact ⟨i + 1, ⟨⟨rfl, rfl, rfl, rfl, trivial⟩, by omega, .of⟩, by omega⟩
  · have hxi : X.take i = X := List.take_of_length_le (by omega)
    rw [hxi]
    refine yexit (texit (texit (bexit (tnorm (yseq (yregion (yp (pI rfl) (yp (pI rfl) (ynil (tnorm (yret ?_)))))))))))
    exact yfin (rI rfl) ⟨_, .of, rfl, a2, hs2, rfl⟩
set_option maxRecDepth 10000 in
theorem rdName {x tb ab N : Nat} {D : List (Option Bt)} {H : List Chunk} {L : List Nm} {B : List (Int × Bs)} {T : List Chunk} (hT : Tb tb ab L T) (hA : Ar ab N D H) (hI : Inn D L B) {S0 : Segs} {a : Option Addr} {c : Nat} {Y : Bs} (h : Src S0 (.slice a Y.length c) Y) (hc : Y.length ≤ c) (h4 : 4 ≤ Y.length)
    {iv : Value} {ids : List Int} {Hi : List Chunk} (hi : Slc 3 iv ids Hi) (hil : ids.length < 2 ^ 30) {e : Nm} (he : byI L (leV (Y.take 4) : Nat) = some e) :
    Tri Try.prog 61 #[.pointer (some ⟨x, 0, none⟩)] (rseg x tb (.slice a Y.length c) iv :: Hi :: T :: H :: S0)
      (fun r S => r = sv e.n ∧ ∃ a2 v2 Hi2, Src S0 (.slice a2 (Y.length - 4) (c - 4)) (Y.drop 4) ∧ Slc 3 v2 (ids ++ [((leV (Y.take 4) : Nat) : Int)]) Hi2 ∧ S = rseg x tb (.slice a2 (Y.length - 4) (c - 4)) v2 :: Hi2 :: T :: H :: S0) := by
  refine Tri.forget (ycallee Try.fx61 (Nat.le_of_ble_eq_true rfl) ?_)
  unfold Try.x61
  obtain ⟨ia, ic, rfl⟩ := hi.isSlice
  refine yseq (yregion (yp pC (ynil (tnorm (yseq (yregion (yp (pP rfl) ?_)))))))
  refine ycons (ycall (rdNumber (x := x) (tb := tb) (iv := .slice ia ids.length ic) h hc (n := 4) h4 (by decide)) rfl rfl fun r S' h => ?_)
  obtain ⟨rfl, a2, hs2, rfl⟩ := h
  generalize leV (Y.take 4) = i at he
  refine yp (pI rfl) (ynil (tnorm (yseq (yregion (yp (pP rfl) (yp (pNilc rfl) (yp (pFadr rfl) ?_)))))))
  refine ycons (yload1 rfl rfl ?_)
  refine yp (pI rfl) ?_
  refine ycons (ycall (tbName hT hA hI (i : Int)) rfl rfl fun r S' h => ?_)
  obtain ⟨rfl, rfl⟩ := h
  rw [he]
  show YL _ _ _ _ _ (putE _ (.tuple #[sv e.n, .bool true]) _) _
  refine yp (pU rfl) (yp (pExt rfl rfl) (yp (pExt rfl rfl) (yp (pT rfl) (yp (pB rfl) (ynil (tnorm (yseq (yregion (yp (pP rfl) (yp (pP rfl) (yp (pNilc rfl) (yp (pFadr rfl) ?_))))))))))))
  refine ycons (yload1 rfl rfl ?_)
  refine yp (pB rfl) (ygT rfl (yop (pB rfl) (ygT rfl (yop (pNot rfl) (yp (pPickF rfl rfl) (yp (pNilc rfl) (yp (pFadr rfl) ?_)))))))
  refine ycons (yst4_3 rfl rfl (scB rfl) ?_)
  refine ynil (tnorm (yseq (yregion (yp (pP rfl) (yp (pP rfl) (yp (pNilc rfl) (yp (pFadr rfl) ?_)))))))
  refine ycons (yload1 rfl rfl ?_)
  refine yp (pI rfl) ?_
  refine ycons (ybsl1 (i : Int) rfl rfl (by decide) (by decide) rfl fun p34 => ?_)
  refine ycons (yapp (Y := [(i : Int)]) rfl rfl hi (.lit (by repeat (first | exact List.mem_cons_self | apply List.mem_cons_of_mem)) rfl) rfl (0 : Int) rfl (by rw [List.length_singleton]; omega) (by rw [List.length_singleton]; omega) fun v2 H2 hL2 => ?_)
  obtain ⟨la2, lc2, rfl⟩ := hL2.isSlice
  refine yp (pNilc rfl) (yp (pFadr rfl) ?_)
  refine ycons (yst4_2 rfl rfl (scS rfl) ?_)
  refine ynil (tnorm (yseq (yregion (yp (pT rfl) (yp (pT rfl) (ynil (tnorm (yret ?_))))))))
  rw [show (!true) = false from rfl, List.append_nil]
  exact yfin (res1 rfl) ⟨_, .of, rfl, a2, _, H2, hs2, hL2, rfl⟩
end Go.Proofs.Ytejmbmenbailmaa
namespace Go.Proofs.Ytejmbmenbailmaa
open Go.Xs
open Enc (enc)

theorem Al.len {L : List Nm} : ∀ {ids : List Int} {ns : List Bs}, Al L ids ns → ids.length = ns.length
  | _, _, .nil => rfl
  | _, _, .cons _ t => by rw [List.length_cons, List.length_cons, t.len]
theorem Al.drop {L : List Nm} : ∀ {ids : List Int} {ns : List Bs} (k : Nat), Al L ids ns → Al L (ids.drop k) (ns.drop k)
  | _, _, 0, h => h
  | _, _, _ + 1, .nil => .nil
  | _, _, k + 1, .cons _ t => t.drop k
theorem Al.take {L : List Nm} : ∀ {ids : List Int} {ns : List Bs} (k : Nat), Al L ids ns → Al L (ids.take k) (ns.take k)
  | _, _, 0, _ => .nil
  | _, _, _ + 1, .nil => .nil
  | _, _, k + 1, .cons h t => .cons h (t.take k)
theorem Al.at {L : List Nm} : ∀ {ids : List Int} {ns : List Bs} {k : Nat} {i : Int} {n : Bs}, Al L ids ns → ids[k]? = some i → ns[k]? = some n → ∃ e ∈ L, e.id = i ∧ e.n = n
  | _, _, 0, i, n, .cons h t, h1, h2 => by
    obtain rfl := Option.some.inj h1
    obtain rfl := Option.some.inj h2
    exact h
  | _, _, k + 1, i, n, .cons h t, h1, h2 => t.at (k := k) (by simpa using h1) (by simpa using h2)
theorem byI_of {L : List Nm} (hd : Dis L) {e : Nm} (he : e ∈ L) : byI L e.id = some e := by
  obtain ⟨j, hj⟩ := List.mem_iff_getElem?.1 he
  unfold byI
  rw [nixI_of hd.ids hj]; exact hj
theorem id_bd {ab N : Nat} {D : List (Option Bt)} {H : List Chunk} {L : List Nm} {B : List (Int × Bs)} (hA : Ar ab N D H) (hI : Inn D L B) {e : Nm} (he : e ∈ L) : 1 ≤ e.id ∧ e.id ≤ 65536 := by
  obtain ⟨j, hj, hjd⟩ := getB_get (hI.blk e he)
  have h1 := (List.getElem?_eq_some_iff.1 hjd).1
  have h2 := hA.ok.len
  have h3 := hA.ok.big
  omega
theorem idB_lev {i : Int} (h0 : 0 ≤ i) (h1 : i ≤ 65536) : ((leV (idB i) : Nat) : Int) = i := by
  unfold idB
  rw [leV_leN, Nat.mod_eq_of_lt (by omega)]; omega
set_option maxRecDepth 10000 in
set_option maxHeartbeats 1000000 in
theorem rdData {x tb ab N : Nat} {D : List (Option Bt)} {H : List Chunk} {L : List Nm} {B : List (Int × Bs)} {T : List Chunk} (hT : Tb tb ab L T) (hA : Ar ab N D H) (hI : Inn D L B) {S0 : Segs} {a : Option Addr} {c : Nat} {Y Y' : Bs} (h : Src S0 (.slice a Y.length c) Y) (hc : Y.length ≤ c)
    {iv : Value} {ids ids' : List Int} {Hi : List Chunk} (hi : Slc 3 iv ids Hi) (hil : ids.length < 2 ^ 20) {r : RR} (hok : dataOk r.t r.d = true) (hal : Al L ids' ((nmsR r).map foldB)) (hY : Y = leN 2 (datB r ids').length ++ (datB r ids' ++ Y')) (hYl : Y.length ≤ 4096) :
    Tri Try.prog 63 #[.pointer (some ⟨x, 0, none⟩), .int .i64 r.t] (rseg x tb (.slice a Y.length c) iv :: Hi :: T :: H :: S0)
      (fun v S => v = sv (foldD r.t r.d) ∧ ∃ a2 c2 v2 Hi2, Src S0 (.slice a2 Y'.length c2) Y' ∧ Y'.length ≤ c2 ∧ Slc 3 v2 (ids ++ ids') Hi2 ∧ S = rseg x tb (.slice a2 Y'.length c2) v2 :: Hi2 :: T :: H :: S0) := by
  refine Tri.forget (ycallee Try.fx63 (Nat.le_of_ble_eq_true rfl) ?_)
  unfold Try.x63
  obtain ⟨ia, ic, rfl⟩ := hi.isSlice
  generalize hX : datB r ids' = X at hY
  have hlen : Y.length = 2 + (X.length + Y'.length) := by rw [hY, List.length_append, leN_len, List.length_append]
  have ht2 : leV (Y.take 2) = X.length := by
    rw [hY, List.take_append_of_le_length (by rw [leN_len]; exact Nat.le_refl _), List.take_of_length_le (by rw [leN_len]; exact Nat.le_refl _), leV_leN, Nat.mod_eq_of_lt (by omega)]
  have hd2 : Y.drop 2 = X ++ Y' := by
    rw [hY]
    have := List.drop_left (l₁ := leN 2 X.length) (l₂ := X ++ Y')
    rwa [leN_len] at this
  refine yseq (yregion (yp pC (ynil (tnorm (yseq (yregion (yp (pP rfl) (yp (pP rfl) ?_))))))))
  refine ycons (ycall (rdNumber (x := x) (tb := tb) (iv := .slice ia ids.length ic) h hc (n := 2) (by omega) (by decide)) rfl rfl fun r' S' h => ?_)
  obtain ⟨rfl, a2, hs2, rfl⟩ := h
  rw [ht2]
  have hl2 : Y.length - 2 = (X ++ Y').length := by rw [List.length_append]; omega
  rw [hd2, hl2] at hs2
  rw [hl2]
  refine ycons (ycall (rdBytes (x := x) (tb := tb) (iv := .slice ia ids.length ic) hs2 (by rw [← hl2]; omega) (n := X.length) (by rw [List.length_append]; omega)) rfl rfl fun r' S' h => ?_)
  obtain ⟨rfl, a3, hs3, rfl⟩ := h
  rw [List.drop_left, show (X ++ Y').length - X.length = Y'.length from by rw [List.length_append]; omega] at hs3
  rw [show (X ++ Y').length - X.length = Y'.length from by rw [List.length_append]; omega]
  have hsX := srcTake hs2 (n := X.length) (by rw [List.length_append]; omega)
  rw [List.take_left] at hsX
  have hc3 : Y'.length ≤ c - 2 - X.length := by omega
  have hcX : X.length ≤ c - 2 := by omega
  refine yp (pS rfl) (ynil (tnorm (yseq (yregion (yp (pI rfl) ?_)))))
  refine ycons (ycall (rcShape r.t) rfl rfl fun r' S' h => ?_)
  obtain ⟨rfl, rfl⟩ := h
  unfold shpV
  cases hsh : shapeR r.t with
  | none =>
    have hp : prt r.t r.d = [] := prt_none hsh
    have hids : ids' = [] := by
      have := hal.len
      unfold nmsR at this
      rw [hp] at this
      exact List.length_eq_zero_iff.1 this
    have hXd : X = r.d := by rw [← hX]; exact datB_none hsh ids'
    simp only
    refine yp (pU rfl) (yp (pExt rfl rfl) (yp (pExt rfl rfl) (yp (pExt rfl rfl) (yp (pExt rfl rfl) (yp (pI rfl) (yp (pI rfl) (yp (pI rfl) (yp (pB rfl) (ynil (tnorm (yseq (yseq (yregion (yp (pB rfl) (yp (pNot rfl) (ynil (tnorm (ycondT rfl (yseq (yregion (yp (pS rfl) ?_)))))))))))))))))))))
    refine ycons (yb2s (Y := X) rfl (hsX.mono fun s hs => by simp [hs]) ?_)
    refine yp (pT rfl) (ynil (tnorm (yret (tret ?_))))
    exact yfin (v := sv X) (res1 rfl) ⟨_, .of, by rw [hXd, foldD_none hsh], a3, _, _, Hi, hs3, hc3, by rw [hids, List.append_nil]; exact hi, rfl⟩
  | some sh =>
    obtain ⟨P, xs, Z, hf, hcut⟩ := form_of hok hsh
    have hd1000 := dataOk_len hok
    have hshe := hf.shape
    have hle := shapeR_le hshe
    rw [hsh] at hshe
    obtain rfl := Option.some.inj hshe
    have hnr : nmsR r = xs := hcut
    have hxl : ids'.length = xs.length := by rw [hal.len, hnr, List.length_map]
    rw [datB_form hf hd1000 hxl] at hX
    rw [hnr] at hal
    have hPl : P.length ≤ X.length := by rw [← hX, List.length_append, List.length_append]; omega
    simp only
    refine ylforget (S0 := rseg x tb (.slice a3 Y'.length (c - 2 - X.length)) (.slice ia ids.length ic) :: Hi :: T :: H :: S0) .of (yp (pU rfl) (yp (pExt rfl rfl) (yp (pExt rfl rfl) (yp (pExt rfl rfl) (yp (pExt rfl rfl) (yp (pI rfl) (yp (pI rfl) (yp (pI rfl) (yp (pB rfl) (ynil (tnorm (yseq (yseq (yregion (yp (pB rfl) (yp (pNot rfl) (ynil (tnorm (ycondF rfl (yskip (tnorm (yseq (ydraw (ytq (pP rfl) (ytq (pNilc rfl) (ytq (pFadr rfl) (ytl1 rfl rfl (ytq (pS rfl) (ytq (pP rfl) (ytq (pNilc rfl) (ytq (pFadr rfl) (ytl1 rfl rfl (ytq (v := .agg #[.pointer (some ⟨tb, 0, none⟩), .slice a2 X.length (c - 2), .slice none 0 0, .bool false]) rfl ?_)))))))))))))))))))))))))))))))))
    refine ytalt (yboxG (c := [.pointer (some ⟨tb, 0, none⟩), .slice a2 X.length (c - 2), .slice none 0 0, .bool false]) rfl fun p37 => ?_) ytno
    refine ytq (pP rfl) (ytdone (tnorm (yseq (yregion (yp (pP rfl) (yp (pI rfl) ?_))))))
    refine ycons (ycall (rdBytes (x := p37) (tb := tb) (iv := .slice none 0 0) hsX hcX (n := P.length) hPl) rfl rfl fun r' S' h => ?_)
    obtain ⟨rfl, a4, hs4, rfl⟩ := h
    have hsP := srcTake hsX hPl
    have hXP : X.take P.length = P := by rw [← hX, List.append_assoc, List.take_left]
    have hXd : X.drop P.length = (ids'.map idB).flatten ++ Z := by rw [← hX, List.append_assoc, List.drop_left]
    have hl4 : X.length - P.length = ((ids'.map idB).flatten ++ Z).length := by rw [← hXd, List.length_drop]
    rw [hXP] at hsP
    rw [hXd, hl4] at hs4
    rw [hl4]
    have hc4 : ((ids'.map idB).flatten ++ Z).length ≤ c - 2 - P.length := by omega
    refine ycons (yb2s (Y := P) rfl (hsP.mono fun s hs => by simp [hs]) ?_)
    refine yp (pT rfl) (ynil (tnorm (yseq (yseq (yregion (yp (pI rfl) (yp pC (ynil (tnorm (yblock ?_))))))))))
    refine yloop (σ := Nat) (fun i E S => ∃ (a5 : Option Addr) (c5 : Nat) (v5 : Value) (Hi5 : List Chunk) (Yr : Bs), Has E [(0, .pointer (some ⟨x, 0, none⟩)), (10, .pointer (some ⟨p37, 0, none⟩)), (11, sv (P ++ ((xs.take i).map foldB).flatten)), (42, .int .i64 (xs.length : Int)), (43, .int .i64 (i : Int))] ∧ i ≤ xs.length ∧ Src S0 (.slice a5 Yr.length c5) Yr ∧ Yr.length ≤ c5 ∧ Yr = ((ids'.drop i).map idB).flatten ++ Z ∧ Slc 3 v5 (ids'.take i) Hi5 ∧
        Junk S (rseg p37 tb (.slice a5 Yr.length c5) v5 :: Hi5 :: rseg x tb (.slice a3 Y'.length (c - 2 - X.length)) (.slice ia ids.length ic) :: Hi :: T :: H :: S0)) (fun i => xs.length - i) 0
      ⟨a4, _, _, [], _, ⟨rfl, rfl, by show sv P = sv (P ++ []); rw [List.append_nil], rfl, rfl, trivial⟩, Nat.zero_le _, hs4, hc4, rfl, .nil, .of⟩ fun i E S ⟨a5, c5, v5, Hi5, Yr, hE, hi5, hs5, hc5, hYr, hL5, hJ⟩ => ?_
    obtain ⟨l5a, l5c, rfl⟩ := hL5.isSlice
    have hxl2 := hle.2.1
    simp only at hxl2
    obtain ⟨E0, e0⟩ := has_puts hE; subst e0; clear hE
    refine yforget hJ (yseq (yregion (yp (pLt rfl rfl) (ynil (tnorm (yseq ?_))))))
    refine ycondD rfl (fun hlt => ?_) (fun hlt => ?_)
    · have hix : i < xs.length := by omega
      have hii : i < ids'.length := by omega
      have hdi : ids'.drop i = ids'[i] :: ids'.drop (i + 1) := List.drop_eq_getElem_cons hii
      have hti : ids'.take (i + 1) = ids'.take i ++ [ids'[i]] := List.take_succ_eq_append_getElem hii
      have htx : xs.take (i + 1) = xs.take i ++ [xs[i]] := List.take_succ_eq_append_getElem hix
      obtain ⟨e, heL, heid, hen⟩ := hal.at (k := i) (i := ids'[i]) (n := foldB xs[i]) (List.getElem?_eq_getElem hii) (by rw [List.getElem?_map, List.getElem?_eq_getElem hix]; rfl)
      obtain ⟨hb1, hb2⟩ := id_bd hA hI heL
      rw [hdi, List.map_cons, List.flatten_cons, List.append_assoc] at hYr
      have hby := byI_of hI.dis heL
      have hvx := hf.vld _ (List.getElem_mem hix)
      have hxlen := vld_len hvx
      have hXlen : ((xs.take i).map foldB).flatten.length ≤ 510 := by
        have h1 : ∀ (l : List Bs), (∀ y ∈ l, vld y = true) → (l.map foldB).flatten.length ≤ 255 * l.length := by
          intro l
          induction l with
          | nil => intro _; exact Nat.zero_le _
          | cons y l ih =>
            intro hv
            have h2 := ih fun z hz => hv z (List.mem_cons_of_mem _ hz)
            have h3 := vld_len (hv y (by simp))
            have h4 := foldB_len y
            rw [List.map_cons, List.flatten_cons, List.length_append, List.length_cons]; omega
        have h2 := h1 (xs.take i) fun y hy => hf.vld y ((List.take_sublist _ _).subset hy)
        rw [List.length_take] at h2; omega
      rw [heid] at hb1 hb2 hby
      generalize ids'[i] = z at hb1 hb2 hby hYr hti
      have hY4 : leV (Yr.take 4) = leV (idB z) := by
        rw [hYr, List.take_append_of_le_length (by rw [idB, leN_len]; exact Nat.le_refl _), List.take_of_length_le (by rw [idB, leN_len]; exact Nat.le_refl _)]
      have hYd : Yr.drop 4 = ((ids'.drop (i + 1)).map idB).flatten ++ Z := by
        rw [hYr]
        have := List.drop_left (l₁ := idB z) (l₂ := ((ids'.drop (i + 1)).map idB).flatten ++ Z)
        rwa [idB, leN_len] at this
      have hYl4 : 4 ≤ Yr.length := by rw [hYr, List.length_append, idB, leN_len]; omega
      have hlz := idB_lev (i := z) (by omega) hb2
      rw [← hY4] at hlz
      refine yskip (tnorm (yseq (yblock (yregion (yp (pT rfl) (yp (pP rfl) ?_))))))
      refine ycons (ycall (rdName (x := p37) hT hA hI hs5 hc5 hYl4 hL5 (by rw [List.length_take]; omega) (e := e) (by rw [hlz]; exact hby)) rfl rfl fun r' S' h => ?_)
      obtain ⟨rfl, a6, v6, H6, hs6, hL6, rfl⟩ := h
      rw [hlz, ← hti] at hL6
      rw [hen]
      have hl6 : Yr.length - 4 = (((ids'.drop (i + 1)).map idB).flatten ++ Z).length := by rw [← hYd, List.length_drop]
      rw [hYd, hl6] at hs6
      rw [hl6]
      skip
      have hfl := foldB_len xs[i]
      refine yp (pCat (Y := P ++ ((xs.take i).map foldB).flatten) (Z := foldB xs[i]) rfl rfl (by rw [List.length_append]; omega)) (yp (pT rfl) (ynil (bnorm (tnorm (yregion (yp (pInc rfl rfl (by omega)) (yp (pI rfl) (ynil (tnorm ?_)))))))))
      refine ⟨i + 1, ⟨a6, c5 - 4, v6, H6, _, ⟨rfl, rfl, ?_, rfl, rfl, trivial⟩, by omega, hs6, by omega, rfl, hL6, ?_⟩, by omega⟩
      · show sv _ = sv _
        rw [htx, List.map_append, List.flatten_append, List.append_assoc]
        simp
      · exact .of
    · have hxi : xs.take i = xs := List.take_of_length_le (by omega)
      have hii : ids'.take i = ids' := List.take_of_length_le (by omega)
      have hdi : ids'.drop i = [] := List.drop_eq_nil_of_le (by omega)
      rw [hdi] at hYr
      have hYr : Yr = Z := hYr
      subst hYr
      have hPxs : (P ++ (xs.map foldB).flatten ++ Yr).length = r.d.length := hf.fold_len
      have hPxl : (P ++ (xs.map foldB).flatten).length ≤ 1000 := by
        rw [List.length_append] at hPxs; omega
      have hYl1 : Yr.length ≤ 1000 := by
        rw [List.length_append] at hPxs; omega
      rw [hii] at hL5 ⊢
      rw [hxi]
      refine yexit (texit (texit (bexit (tnorm (yseq (ydrawR (R := [rseg p37 tb (.slice a5 Yr.length c5) (.slice l5a ids'.length l5c), rseg x tb (.slice a3 Y'.length (c - 2 - X.length)) (.slice ia ids.length ic)]) (by simp) (ytq (pP rfl) (ytq (pP rfl) (ytq (pP rfl) (ytq (pNilc rfl) (ytq (pFadr rfl) (ytl1 rfl rfl (ytq (pP rfl) (ytq (pNilc rfl) (ytq (pFadr rfl) (ytl1 rfl rfl (ytq (pP rfl) (ytq (pNilc rfl) (ytq (pFadr rfl) (ytl1 rfl rfl ?_))))))))))))))))))))
      refine ytaltC (yapp (Y := ids') rfl rfl hi (hL5.src (by simp)) rfl (0 : Int) rfl (by omega) (by omega) fun v7 H7 hL7 => ⟨by simp, ?_⟩) ytno
      obtain ⟨l7a, l7c, rfl⟩ := hL7.isSlice
      refine ytq (pNilc rfl) (ytq (pFadr rfl) ?_)
      refine ytalt (yst4_3 rfl rfl (scB rfl) ?_) ytno
      refine ytq (pNilc rfl) (ytq (pFadr rfl) ?_)
      refine ytalt (yst4_2 rfl rfl (scS rfl) ?_) ytno
      refine ytdone (tnorm (yseq (yregion (yp (pT rfl) (yp (pP rfl) (yp (pNilc rfl) (yp (pFadr rfl) ?_)))))))
      refine ycons (yload1 rfl rfl ?_)
      refine ycons (yb2s (Y := Yr) rfl (hs5.mono fun s hs => by simp [hs]) ?_)
      refine yp (pCat (Y := P ++ (xs.map foldB).flatten) (Z := Yr) rfl rfl (by omega)) (yp (pT rfl) (ynil (tnorm (yret ?_))))
      exact yfin (v := sv (P ++ (xs.map foldB).flatten ++ Yr)) (res1 rfl) ⟨_, .of, by rw [foldD_form hf hd1000], a3, _, _, H7, hs3, hc3, hL7, rfl⟩
end Go.Proofs.Ytejmbmenbailmaa
namespace Go.Proofs.Ytejmbmenbailmaa
open Go.Xs
open Enc (enc)

/-- the next bytes are a number's, a name's -/
theorem rdNum2 {x tb : Nat} {iv : Value} {S0 : Segs} {a : Option Addr} {c : Nat} {Y Y' : Bs} (h : Src S0 (.slice a Y.length c) Y) (hc : Y.length ≤ c) {n z : Nat} (hn4 : n ≤ 4) (hY : Y = leN n z ++ Y') (hz : z < 256 ^ n) :
    Tri Try.prog 62 #[.pointer (some ⟨x, 0, none⟩), .int .i64 (n : Int)] (rseg x tb (.slice a Y.length c) iv :: S0) (fun r S => r = .int .i64 (z : Int) ∧ ∃ a2 c2, Src S0 (.slice a2 Y'.length c2) Y' ∧ Y'.length ≤ c2 ∧ S = rseg x tb (.slice a2 Y'.length c2) iv :: S0) := by
  have hl : Y.length = n + Y'.length := by rw [hY, List.length_append, leN_len]
  have ht : Y.take n = leN n z := by rw [hY, List.take_append_of_le_length (by rw [leN_len]; exact Nat.le_refl _), List.take_of_length_le (by rw [leN_len]; exact Nat.le_refl _)]
  have hd : Y.drop n = Y' := by
    rw [hY]
    have := List.drop_left (l₁ := leN n z) (l₂ := Y')
    rwa [leN_len] at this
  refine (rdNumber (x := x) (tb := tb) (iv := iv) h hc (n := n) (by omega) hn4).mono fun r S hr => ?_
  obtain ⟨h1, a2, h2, h3⟩ := hr
  rw [ht, leV_leN, Nat.mod_eq_of_lt hz] at h1
  rw [hd, show Y.length - n = Y'.length from by omega] at h2
  rw [show Y.length - n = Y'.length from by omega] at h3
  exact ⟨h1, a2, c - n, h2, by omega, h3⟩
theorem rdNam2 {x tb ab N : Nat} {D : List (Option Bt)} {H : List Chunk} {L : List Nm} {B : List (Int × Bs)} {T : List Chunk} (hT : Tb tb ab L T) (hA : Ar ab N D H) (hI : Inn D L B) {S0 : Segs} {a : Option Addr} {c : Nat} {Y Y' : Bs} (h : Src S0 (.slice a Y.length c) Y) (hc : Y.length ≤ c)
    {iv : Value} {ids : List Int} {Hi : List Chunk} (hi : Slc 3 iv ids Hi) (hil : ids.length < 2 ^ 30) {i : Int} {n : Bs} (he : ∃ e ∈ L, e.id = i ∧ e.n = n) (hY : Y = idB i ++ Y') :
    Tri Try.prog 61 #[.pointer (some ⟨x, 0, none⟩)] (rseg x tb (.slice a Y.length c) iv :: Hi :: T :: H :: S0)
      (fun r S => r = sv n ∧ ∃ a2 c2 v2 Hi2, Src S0 (.slice a2 Y'.length c2) Y' ∧ Y'.length ≤ c2 ∧ Slc 3 v2 (ids ++ [i]) Hi2 ∧ S = rseg x tb (.slice a2 Y'.length c2) v2 :: Hi2 :: T :: H :: S0) := by
  obtain ⟨e, heL, rfl, rfl⟩ := he
  obtain ⟨hb1, hb2⟩ := id_bd hA hI heL
  have h4 : (idB e.id).length = 4 := by rw [idB, leN_len]
  have hl : Y.length = 4 + Y'.length := by rw [hY, List.length_append, h4]
  have ht : Y.take 4 = idB e.id := by rw [hY, List.take_append_of_le_length (by omega), List.take_of_length_le (by omega)]
  have hd : Y.drop 4 = Y' := by
    rw [hY]
    have := List.drop_left (l₁ := idB e.id) (l₂ := Y')
    rwa [h4] at this
  have hlz := idB_lev (i := e.id) (by omega) hb2
  rw [← ht] at hlz
  refine (rdName (x := x) hT hA hI h hc (by omega) hi hil (e := e) (by rw [hlz]; exact byI_of hI.dis heL)).mono fun r S hr => ?_
  obtain ⟨h1, a2, v2, H2, h2, h3, h4⟩ := hr
  rw [hd, show Y.length - 4 = Y'.length from by omega] at h2
  rw [hlz] at h3
  rw [show Y.length - 4 = Y'.length from by omega] at h4
  exact ⟨h1, a2, c - 4, v2, H2, h2, by omega, h3, h4⟩
theorem agSet : isAgg? Try.prog 32 = some true := by kernel_rfl
theorem szSet : sizeOf? Try.prog 32 = some 5 := by kernel_rfl
/-- no set there -/
theorem pkReadNo {tb ab N : Nat} {D : List (Option Bt)} {H : List Chunk} {L : List Nm} {B : List (Int × Bs)} {T : List Chunk} (hT : Tb tb ab L T) (hA : Ar ab N D H) (hI : Inn D L B) {h : Int} (hno : getB D h = none) :
    Tri Try.prog 37 #[.pointer (some ⟨ab, 0, none⟩), .pointer (some ⟨tb, 0, none⟩), .int .i64 h] [T, H] (fun r S => r = .tuple #[.agg #[sv [], .int .i64 0, .slice none 0 0, .int .i64 0, sv []], .slice none 0 0, .bool false] ∧ S = [T, H]) := by
  refine Tri.forget (ycallee Try.fx37 (Nat.le_of_ble_eq_true rfl) ?_)
  unfold Try.x37
  refine yseq (yregion ?_)
  refine ycons (yalloc fun p6 => ?_)
  refine yp pC (yp pC (ynil (tnorm (yseq (yregion (yp (pP rfl) (yp (pI rfl) ?_)))))))
  refine ycons (ycall (arSize hA h) rfl rfl fun r' S' h => ?_)
  obtain ⟨rfl, rfl⟩ := h
  have hsz : sizeR D h = (0, false) := by unfold sizeR; rw [hno]
  rw [hsz]
  refine yp (pU rfl) (yp (pExt rfl rfl) (yp (pExt rfl rfl) (yp (pI rfl) (yp (pB rfl) (ynil (tnorm (yseq (yseq (yregion (yp (pP rfl) (yp (pI rfl) ?_)))))))))))
  refine ycons (ycall (tbName hT hA hI h) rfl rfl fun r' S' h => ?_)
  obtain ⟨rfl, rfl⟩ := h
  refine yp (pU rfl) (yp (pExt rfl rfl) (yp (pExt rfl rfl) (yp (pT rfl) (yp (pB rfl) (ynil (tnorm (yseq (yregion (yp (pB rfl) (yp (pNot rfl) (yp (pB rfl) (ygF rfl (yp (pPickT rfl rfl) (yp (pB rfl) (ygF rfl (ygF rfl (yp (pPickT rfl rfl) (ynil (tnorm (ycondT rfl (yseq (yregion ?_))))))))))))))))))))))
  refine ycons (yloadN (l := [.string ⟨#[]⟩, .int .i64 0, .slice none 0 0, .int .i64 0, .string ⟨#[]⟩]) rfl rfl rfl ?_)
  refine ycons (ystAll (c' := [.string ⟨#[]⟩, .int .i64 0, .slice none 0 0, .int .i64 0, .string ⟨#[]⟩]) rfl rfl rfl rfl rfl ?_)
  refine yp pC (yp pC (ynil (tnorm (yret (tret ?_)))))
  exact yfin (resL3 (rvG (b := p6) (l := [.string ⟨#[]⟩, .int .i64 0, .slice none 0 0, .int .i64 0, .string ⟨#[]⟩]) agSet szSet rfl rfl) (rvT rfl) (rvT rfl)) ⟨_, .of, rfl, rfl⟩
theorem splice_take : ∀ (d : Bs) (l : List Pl) (a : Nat) (xs : List Bs), splice d a l xs = splice d a l (xs.take l.length)
  | _, [], _, xs => by cases xs <;> rfl
  | _, _ :: _, _, [] => rfl
  | d, p :: l, a, x :: xs => by
    show (d.drop a).take (p.at_ - a) ++ x ++ splice d (p.at_ + p.n) l xs = (d.drop a).take (p.at_ - a) ++ x ++ splice d (p.at_ + p.n) l (xs.take l.length)
    rw [splice_take d l]
theorem datB_take (r : RR) (ids : List Int) : datB r ids = datB r (ids.take (prt r.t r.d).length) := by
  unfold datB
  rw [splice_take, List.map_take]
set_option maxRecDepth 10000 in
set_option maxHeartbeats 2000000 in
theorem pkRead {tb ab N : Nat} {D : List (Option Bt)} {H : List Chunk} {L : List Nm} {B : List (Int × Bs)} {T : List Chunk} (hT : Tb tb ab L T) (hA : Ar ab N D H) (hI : Inn D L B) {h : Int} {s : St} {ids : List Int} (hm : (h, blkS s ids) ∈ B) (hE : errS s = 0) (hal : Al L ids ((nmsS s).map foldB)) :
    Tri Try.prog 37 #[.pointer (some ⟨ab, 0, none⟩), .pointer (some ⟨tb, 0, none⟩), .int .i64 h] [T, H] (fun r S => ∃ v v2 HR HI, r = .tuple #[.agg (scl (folS s) v), v2, .bool true] ∧ Slc 34 v (folS s).rrs HR ∧ Slc 3 v2 ids HI ∧ S = [HR, HI, T, H]) := by
  refine Tri.forget (ycallee Try.fx37 (Nat.le_of_ble_eq_true rfl) ?_)
  unfold Try.x37
  obtain ⟨hg, hno⟩ := hI.oth _ hm
  have hg : getB D h = some (blkS s ids) := hg
  have hmay : mayS s = true := by
    cases hm : mayS s with
    | true => rfl
    | false => unfold errS at hE; rw [if_pos hm] at hE; cases hE
  have hnum := mayS_nums hmay
  have hdat := mayS_data hmay
  have hlen : ids.length = (nmsS s).length := by rw [hal.len, List.length_map]
  have hnl := nmsS_len s
  have hbl := blkS_len (fun r hr => (hdat r hr).1) hlen
  have hsz4 : sizS s ≤ 4096 := by
    unfold errS at hE
    rw [if_neg (by rw [hmay]; decide)] at hE
    split at hE
    · cases hE
    · omega
  have hsz16 : 16 ≤ sizS s := by
    rw [← hbl]
    unfold blkS idB
    simp only [List.length_append, leN_len]
    push_cast
    omega
  have hsz : sizeR D h = (sizS s, true) := by unfold sizeR; rw [hg]; simp only; rw [hbl]
  have hby : byI L h = none := by
    cases hb : byI L h with
    | none => rfl
    | some e => obtain ⟨h1, h2⟩ := byI_mem hb; exact absurd h2 (hno e h1)
  obtain ⟨hpe, hre⟩ := read_all hg
  rw [hbl] at hpe hre
  refine yseq (yregion ?_)
  refine ycons (yalloc fun p6 => ?_)
  refine yp pC (yp pC (ynil (tnorm (yseq (yregion (yp (pP rfl) (yp (pI rfl) ?_)))))))
  refine ycons (ycall (arSize hA h) rfl rfl fun r' S' h => ?_)
  obtain ⟨rfl, rfl⟩ := h
  rw [hsz]
  refine yp (pU rfl) (yp (pExt rfl rfl) (yp (pExt rfl rfl) (yp (pI rfl) (yp (pB rfl) (ynil (tnorm (yseq (yseq (yregion (yp (pP rfl) (yp (pI rfl) ?_)))))))))))
  refine ycons (ycall (tbName hT hA hI h) rfl rfl fun r' S' h => ?_)
  obtain ⟨rfl, rfl⟩ := h
  rw [hby]
  refine yp (pU rfl) (yp (pExt rfl rfl) (yp (pExt rfl rfl) (yp (pT rfl) (yp (pB rfl) (ynil (tnorm (yseq (yregion (yp (pB rfl) (yp (pNot rfl) (yp (pB rfl) (ygT rfl (yop (pB rfl) (yp (pPickF rfl rfl) (yp (pB rfl) (ygT rfl (yop (pI rfl) (ygT rfl (yop (pLt rfl rfl) (yp (pPickF rfl rfl) (ynil (tnorm ?_))))))))))))))))))))))
  rw [decide_eq_false (show ¬ sizS s < 16 from by omega)]
  refine ycondF rfl (yskip (tnorm (yseq (yregion (yp (pP rfl) (yp (pI rfl) (yp (pI rfl) ?_)))))))
  refine ycons (ycall (arRead hA h 0 (sizS s)) rfl rfl fun r' S' h => ?_)
  obtain ⟨va, Ho, rfl, hLo, rfl⟩ := h
  rw [hpe]
  rw [hre] at hLo
  have hcap := slc_cap hLo
  obtain ⟨vaa, vac, rfl⟩ := hLo.isSlice
  have hcap := hcap _ _ _ rfl
  have hsrc := hLo.src (S := [Ho]) (by simp)
  have hal2 : Al L ids (foldB s.name :: foldB s.zone :: ((s.rrs.map nmsR).flatten).map foldB) := hal
  clear hal
  obtain ⟨i0, i1, rest, rfl, h0, h1, halr⟩ : ∃ i0 i1 rest, ids = i0 :: i1 :: rest ∧ (∃ e ∈ L, e.id = i0 ∧ e.n = foldB s.name) ∧ (∃ e ∈ L, e.id = i1 ∧ e.n = foldB s.zone) ∧ Al L rest (((s.rrs.map nmsR).flatten).map foldB) := by
    cases hal2 with
    | cons h0 t0 =>
      cases t0 with
      | cons h1 t1 => exact ⟨_, _, _, rfl, h0, h1, t1⟩
  have hrl : rest.length = ((s.rrs.map nmsR).flatten).length := by rw [halr.len, List.length_map]
  have hYe : blkS s (i0 :: i1 :: rest) = idB i0 ++ (leN 2 s.typ.toNat ++ (leN 2 s.kind.toNat ++ (idB i1 ++ (leN 4 1585123525 ++ rrsB s.rrs rest)))) := by
    unfold blkS
    simp only [List.append_assoc]
    rfl
  have ht1 : ((s.typ.toNat : Nat) : Int) = s.typ := by omega
  have ht2 : ((s.kind.toNat : Nat) : Int) = s.kind := by omega
  have hY4 : (blkS s (i0 :: i1 :: rest)).length ≤ 4096 := by omega
  rw [hYe] at hY4
  simp only [List.length_append] at hY4
  generalize blkS s (i0 :: i1 :: rest) = Y at *
  refine yp (pU rfl) (yp (pExt rfl rfl) (yp (pExt rfl rfl) (yp (pS rfl) (yp (pI rfl) (ynil (tnorm (yseq (yregion (yp (pP rfl) (yp (pS rfl) (yp (v := .agg #[.pointer (some ⟨tb, 0, none⟩), .slice vaa Y.length vac, .slice none 0 0, .bool false]) rfl ?_)))))))))))
  refine ycons (yboxG (c := [.pointer (some ⟨tb, 0, none⟩), .slice vaa Y.length vac, .slice none 0 0, .bool false]) rfl fun p50 => ?_)
  refine yp (pP rfl) (ynil (tnorm (yseq (yregion (yp (pP rfl) ?_)))))
  refine ycons (ycall (rdNam2 (x := p50) hT hA hI hsrc hcap (iv := .slice none 0 0) (ids := []) (Hi := []) .nil (by decide) h0 hYe) rfl rfl fun r' S' h => ?_)
  obtain ⟨rfl, a1, c1, v1, H1, hs1, hc1, hL1, rfl⟩ := h
  obtain ⟨l1a, l1c, rfl⟩ := hL1.isSlice
  refine yp (pFadr rfl) (yp (pFadr rfl) ?_)
  refine ycons (yst5_0 rfl rfl (scT rfl) ?_)
  refine ynil (tnorm (yseq (yregion (yp (pP rfl) ?_))))
  refine ycons (ycall (rdNum2 (x := p50) (tb := tb) (iv := .slice l1a ([] ++ [i0]).length l1c) hs1 hc1 (n := 2) (z := s.typ.toNat) (by decide) rfl (by omega)) rfl rfl fun r' S' h => ?_)
  obtain ⟨rfl, a2, c2, hs2, hc2, rfl⟩ := h
  rw [ht1]
  refine yp (pP rfl) ?_
  refine ycons (ycall (rdNum2 (x := p50) (tb := tb) (iv := .slice l1a ([] ++ [i0]).length l1c) hs2 hc2 (n := 2) (z := s.kind.toNat) (by decide) rfl (by omega)) rfl rfl fun r' S' h => ?_)
  obtain ⟨rfl, a3, c3, hs3, hc3, rfl⟩ := h
  rw [ht2]
  refine yp (pFadr rfl) (yp (pFadr rfl) ?_)
  refine ycons (yst5_1 rfl rfl (scI rfl) ?_)
  refine yp (pFadr rfl) ?_
  refine ycons (yst5_3 rfl rfl (scI rfl) ?_)
  refine ynil (tnorm (yseq (yregion (yp (pP rfl) ?_))))
  refine ycons (ycall (rdNam2 (x := p50) hT hA hI hs3 hc3 hL1 (by simp) h1 rfl) rfl rfl fun r' S' h => ?_)
  obtain ⟨rfl, a4, c4, v4, H4, hs4, hc4, hL4, rfl⟩ := h
  obtain ⟨l4a, l4c, rfl⟩ := hL4.isSlice
  refine yp (pFadr rfl) ?_
  refine ycons (yst5_4 rfl rfl (scT rfl) ?_)
  refine ynil (tnorm (yseq (yseq (yregion (yp (pP rfl) ?_)))))
  refine ycons (ycall (rdNum2 (x := p50) (tb := tb) (iv := .slice l4a ([] ++ [i0] ++ [i1]).length l4c) hs4 hc4 (n := 4) (z := 1585123525) (by decide) rfl (by decide)) rfl rfl fun r' S' h => ?_)
  obtain ⟨rfl, a5, c5, hs5, hc5, rfl⟩ := h
  refine yp (pNe rfl rfl) (ynil (tnorm (ycondF rfl (yskip (tnorm (yseq (yblock ?_)))))))
  have hfr : (folS s).rrs = s.rrs.map fun r => (⟨foldB s.name, r.t, 1, 0, foldD r.t r.d⟩ : RR) := rfl
  generalize hfg : (fun r : RR => (⟨foldB s.name, r.t, 1, 0, foldD r.t r.d⟩ : RR)) = fr at hfr
  have hnum32 := hnum.2.2.2.2.2.2.1
  refine yloop (σ := Nat) (fun i E S => ∃ (rv : Value) (HR : List Chunk) (a5 : Option Addr) (c5 : Nat) (Yr : Bs) (v5 : Value) (H5 : List Chunk) (k : Nat), Has E [(6, .pointer (some ⟨p6, 0, none⟩)), (9, .int .i64 (sizS s)), (15, .pointer (some ⟨p50, 0, none⟩))] ∧ i ≤ s.rrs.length ∧ Slc 34 rv ((s.rrs.take i).map fr) HR ∧ Yr = rrsB (s.rrs.drop i) (rest.drop k) ∧ k = ((s.rrs.take i).map nmsR).flatten.length ∧ Src [Ho] (.slice a5 Yr.length c5) Yr ∧ Yr.length ≤ c5 ∧ Yr.length ≤ 4096 ∧ Slc 3 v5 (i0 :: i1 :: rest.take k) H5 ∧
      Junk S (rseg p50 tb (.slice a5 Yr.length c5) v5 :: H5 :: HR :: [(p6, .cells #[sv (foldB s.name), .int .i64 s.typ, rv, .int .i64 s.kind, sv (foldB s.zone)] 32)] :: T :: H :: [Ho])) (fun i => s.rrs.length - i) 0
    ⟨.slice none 0 0, [], a5, c5, rrsB s.rrs rest, .slice l4a ([] ++ [i0] ++ [i1]).length l4c, H4, 0, ⟨rfl, rfl, rfl, trivial⟩, Nat.zero_le _, .nil, rfl, rfl, hs5, hc5, by omega, hL4, by
      show Junk _ (rseg p50 tb (.slice a5 (rrsB s.rrs rest).length c5) (.slice l4a ([] ++ [i0] ++ [i1]).length l4c) :: H4 :: [] :: [(p6, .cells #[sv (foldB s.name), .int .i64 s.typ, .slice none 0 0, .int .i64 s.kind, sv (foldB s.zone)] 32)] :: T :: H :: [Ho])
      exact .of⟩ fun i E S ⟨rv, HR, a5, c5, Yr, v5, H5, k, hE2, hi, hR, hYr, hk, hs5, hc5, hYl, hL5, hJ⟩ => ?_
  obtain ⟨ra, rc, rfl⟩ := hR.isSlice
  obtain ⟨l5a, l5c, rfl⟩ := hL5.isSlice
  obtain ⟨E0, e0⟩ := has_puts hE2; subst e0; clear hE2
  refine yforget hJ ?_
  have hkl := nms_len (s.rrs.take i)
  rw [← hk, List.length_take] at hkl
  refine yseq (yseq (yregion (yp (pP rfl) (yp (pNilc rfl) (yp (pFadr rfl) ?_)))))
  refine ycons (yload1 rfl rfl ?_)
  refine yp (pLen rfl) (yp (pGt rfl rfl) (yp (pB rfl) ?_))
  by_cases hlt : i < s.rrs.length
  · have hdr : s.rrs.drop i = s.rrs[i] :: s.rrs.drop (i + 1) := List.drop_eq_getElem_cons hlt
    have hr := List.getElem_mem hlt
    have hts := nms_take hlt
    have htk : s.rrs.take (i + 1) = s.rrs.take i ++ [s.rrs[i]] := List.take_succ_eq_append_getElem hlt
    have hall : s.rrs.map nmsR = (s.rrs.take i).map nmsR ++ (nmsR s.rrs[i] :: (s.rrs.drop (i + 1)).map nmsR) := by
      rw [← List.map_cons, ← hdr, ← List.map_append, List.take_append_drop]
    rw [hdr, rrsB] at hYr
    generalize s.rrs[i] = r at hYr hr hts htk hall
    obtain ⟨hok, hty⟩ := hdat r hr
    have hnp : (nmsR r).length = (prt r.t r.d).length := by unfold nmsR; rw [List.length_map]
    have halk : Al L ((rest.drop k).take (prt r.t r.d).length) ((nmsR r).map foldB) := by
      have h1 := (halr.drop k).take (prt r.t r.d).length
      have h2 : ((((s.rrs.map nmsR).flatten).map foldB).drop k).take (prt r.t r.d).length = (nmsR r).map foldB := by
        rw [← List.map_drop, ← List.map_take, hall, List.flatten_append, List.flatten_cons, hk, List.drop_left, ← hnp, List.take_left]
      rw [h2] at h1; exact h1
    rw [datB_take] at hYr
    rw [decide_eq_true (show (0 : Int) < (Yr.length : Int) from by rw [hYr]; simp only [List.length_append, leN_len]; omega)]
    refine ygT rfl (yop (pP rfl) (ygT rfl (yop (pNilc rfl) (ygT rfl (yop (pFadr rfl) (ygT rfl ?_))))))
    refine (yload1 rfl rfl ?_)
    refine ygT rfl (yop (pNot rfl) (yp (pPickT rfl rfl) (ynil (tnorm (ycondT rfl (yskip (tnorm (yblock (ydrawR (R := [[(p6, .cells #[sv (foldB s.name), .int .i64 s.typ, .slice ra ((s.rrs.take i).map fr).length rc, .int .i64 s.kind, sv (foldB s.zone)] 32)]]) (by simp) ?_)))))))))
    rw [← hty]
    refine ytq (pFadr rfl) (ytl1 rfl rfl (ytq (pFadr rfl) (ytq (pFadr rfl) (ytl1 rfl rfl (ytq (pFadr rfl) (ytq (pFadr rfl) (ytl1 rfl rfl (ytq (pP rfl) (ytq (pFadr rfl) (ytq (pFadr rfl) (ytl1 rfl rfl ?_)))))))))))
    refine ytaltC (ycall (rdData (x := p50) hT hA hI hs5 hc5 hL5 (by rw [List.length_cons, List.length_cons, List.length_take]; omega) hok halk (Y' := rrsB (s.rrs.drop (i + 1)) ((rest.drop k).drop (prt r.t r.d).length)) (by rw [hYr]; simp only [List.append_assoc]) hYl) rfl rfl fun r' S' h => ?_) ytno
    obtain ⟨rfl, a6, c6, v6, H6, hs6, hc6, hL6, rfl⟩ := h
    refine ⟨by simp, ?_⟩
    obtain ⟨l6a, l6c, rfl⟩ := hL6.isSlice
    have hfrr : fr r = ⟨foldB s.name, r.t, 1, 0, foldD r.t r.d⟩ := by rw [← hfg]
    have hRl : ((s.rrs.take i).map fr).length ≤ 32 := by rw [List.length_map, List.length_take]; omega
    skip
    refine ytq (v := .agg #[sv (foldB s.name), .int .i64 r.t, .int .i64 1, .int .i64 0, sv (foldD r.t r.d)]) rfl ?_
    refine ytaltC (ybsl1 (⟨foldB s.name, r.t, 1, 0, foldD r.t r.d⟩ : RR) rfl rfl (by decide) (by decide) rfl fun p96 => ⟨by simp, ?_⟩) ytno
    refine ytalt (yapp (Y := [(⟨foldB s.name, r.t, 1, 0, foldD r.t r.d⟩ : RR)]) rfl rfl hR (.lit (by repeat (first | exact List.mem_cons_self | apply List.mem_cons_of_mem)) rfl) rfl (⟨[], 0, 0, 0, []⟩ : RR) rfl (by rw [List.length_singleton]; omega) (by rw [List.length_singleton]; omega) fun v7 H7 hL7 => ?_) ytno
    obtain ⟨l7a, l7c, rfl⟩ := hL7.isSlice
    refine ytq (pFadr rfl) ?_
    refine ytalt (yst5_2 rfl rfl (scS rfl) ?_) ytno
    refine ytdone (bnorm (tnorm ?_))
    refine ⟨i + 1, ⟨.slice l7a ((s.rrs.take i).map fr ++ [(⟨foldB s.name, r.t, 1, 0, foldD r.t r.d⟩ : RR)]).length l7c, H7, a6, c6, _, .slice l6a (i0 :: i1 :: rest.take k ++ (rest.drop k).take (prt r.t r.d).length).length l6c, H6, k + (prt r.t r.d).length, ⟨rfl, rfl, rfl, trivial⟩, by omega, ?_, ?_, ?_, hs6, hc6, ?_, ?_, .of⟩, by omega⟩
    · rw [htk, List.map_append, List.map_singleton, hfrr]; exact hL7
    · rw [List.drop_drop]
    · rw [hts, List.length_append, hnp, hk]
    · rw [hYr] at hYl
      simp only [List.length_append] at hYl ⊢; omega
    · rw [List.take_add]; exact hL6
  · have hni : s.rrs.take i = s.rrs := List.take_of_length_le (by omega)
    have hdi : s.rrs.drop i = [] := List.drop_eq_nil_of_le (by omega)
    rw [hdi, rrsB] at hYr
    subst hYr
    have hk2 : rest.take k = rest := List.take_of_length_le (by rw [hk, hni, hrl]; exact Nat.le_refl _)
    rw [hni, ← hfr] at hR ⊢
    rw [hk2] at hL5 ⊢
    rw [decide_eq_false (show ¬ (0 : Int) < (([] : Bs).length : Int) from by decide)]
    obtain ⟨hm2, hz2⟩ := folS_may hmay
    have hE2 : errS (folS s) = 0 := by unfold errS; rw [if_neg (by rw [hm2]; decide), hz2, if_neg (by omega)]
    have hZ2 : szOf (folS s) = sizS s := by unfold szOf; rw [if_pos hE2, hz2]
    have hS2 : Sok (folS s) := by
      have hv1 := vld_len hnum.1
      have hv2 := vld_len hnum.2.1
      have hf1 := foldB_len s.name
      have hf2 := foldB_len s.zone
      refine ⟨by show (foldB s.name).length < _; omega, by show (foldB s.zone).length < _; omega, by rw [hfr, List.length_map]; omega, fun r hr => ?_⟩
      rw [hfr] at hr
      obtain ⟨x, hx, rfl⟩ := List.mem_map.1 hr
      obtain ⟨_, _, h3⟩ := foldD_ok (hdat x hx).1
      have := dataOk_len (hdat x hx).1
      rw [← hfg]
      exact ⟨by show (foldB s.name).length < _; omega, by show (foldD x.t x.d).length < _; omega⟩
    refine ygF rfl (ygF rfl (ygF rfl (ygF rfl (ygF rfl (yp (pPickF rfl rfl) (ynil (tnorm (ycondF rfl (yexit (texit (texit (bexit (tnorm (yseq (yseq (yregion ?_))))))))))))))))
    refine ycons (yloadN (l := [sv (foldB s.name), .int .i64 s.typ, .slice ra (folS s).rrs.length rc, .int .i64 s.kind, sv (foldB s.zone)]) rfl rfl rfl ?_)
    refine ycons (ycall (pkSize (S := [HR]) (s := folS s) hS2 (hR.src (by simp))) rfl rfl fun r' S' h => ?_)
    obtain ⟨rfl, rfl⟩ := h
    rw [hE2, hZ2]
    refine yp (pU rfl) (yp (pExt rfl rfl) (yp (pExt rfl rfl) (yp (pI rfl) (yp (pI rfl) (ynil (tnorm (yseq (yregion (yp (pP rfl) (yp (pNilc rfl) (yp (pFadr rfl) ?_)))))))))))
    refine ycons (yload1 rfl rfl ?_)
    refine yp (pB rfl) (ygT rfl (yop (pI rfl) (ygT rfl (yop (pNe rfl rfl) (yp (pPickF rfl rfl) (yp (pB rfl) (ygT rfl (yop (pI rfl) (ygT rfl (yop (pI rfl) (ygT rfl (yop (pNe rfl rfl) (yp (pPickF rfl rfl) (ynil (tnorm ?_)))))))))))))))
    rw [decide_eq_true (show sizS s = sizS s from rfl)]
    refine ycondF rfl (yskip (tnorm (yseq (ydrawR (R := [[(p6, .cells [sv (foldB s.name), .int .i64 s.typ, .slice ra (folS s).rrs.length rc, .int .i64 s.kind, sv (foldB s.zone)].toArray 32)], rseg p50 tb (.slice a5 ([] : Bs).length c5) (.slice l5a (i0 :: i1 :: rest).length l5c)]) (by simp) (ytlN (l := [sv (foldB s.name), .int .i64 s.typ, .slice ra (folS s).rrs.length rc, .int .i64 s.kind, sv (foldB s.zone)]) rfl rfl rfl (ytq (pP rfl) (ytq (pNilc rfl) (ytq (pFadr rfl) (ytl1 rfl rfl ?_)))))))))
    refine ytaltC (ystAll (c := [sv (foldB s.name), .int .i64 s.typ, .slice ra (folS s).rrs.length rc, .int .i64 s.kind, sv (foldB s.zone)]) (c' := [sv (foldB s.name), .int .i64 s.typ, .slice ra (folS s).rrs.length rc, .int .i64 s.kind, sv (foldB s.zone)]) rfl rfl rfl rfl rfl ⟨by simp, ?_⟩) ytno
    refine ytq (pS rfl) (ytq pC (ytdone (tnorm (yret ?_))))
    exact yfin (resL3 (rvG (b := p6) (l := [sv (foldB s.name), .int .i64 s.typ, .slice ra (folS s).rrs.length rc, .int .i64 s.kind, sv (foldB s.zone)]) agSet szSet rfl rfl) (rvT rfl) (rvT rfl)) ⟨_, .of, _, _, HR, H5, rfl, hR, hL5, rfl⟩
end Go.Proofs.Ytejmbmenbailmaa
namespace Go.Proofs.Ytejmbmenbailmaa
open Go.Xs
open Enc (enc)

abbrev zcl : List Value := [.string ⟨#[]⟩, .int .i64 0, .slice none 0 0, .int .i64 0, .string ⟨#[]⟩]
theorem pkGetNo {tb ab N : Nat} {D : List (Option Bt)} {H : List Chunk} {L : List Nm} {B : List (Int × Bs)} {T : List Chunk} (hT : Tb tb ab L T) (hA : Ar ab N D H) (hI : Inn D L B) {h : Int} (hno : getB D h = none) :
    Tri Try.prog 21 #[.pointer (some ⟨ab, 0, none⟩), .pointer (some ⟨tb, 0, none⟩), .int .i64 h] [T, H] (fun r S => r = .tuple #[.agg zcl.toArray, .int .i64 5] ∧ S = [T, H]) := by
  refine Tri.forget (ycallee Try.fx21 (Nat.le_of_ble_eq_true rfl) ?_)
  unfold Try.x21
  refine yseq (yregion ?_)
  refine ycons (yalloc fun p6 => ?_)
  refine yp pC (ynil (tnorm (yseq (yregion (yp (pP rfl) (yp (pP rfl) (yp (pI rfl) ?_)))))))
  refine ycons (ycall (pkReadNo hT hA hI hno) rfl rfl fun r' S' h => ?_)
  obtain ⟨rfl, rfl⟩ := h
  refine yp (pU rfl) (yp (pExt rfl rfl) (yp (pExt rfl rfl) (yp (pExt rfl rfl) ?_)))
  refine ycons (yalloc fun p8 => ?_)
  refine ycons (ystAll (c' := zcl) rfl rfl rfl rfl rfl ?_)
  refine yp (pS rfl) (yp (pB rfl) (ynil (tnorm (yseq (yseq (yregion (yp (pB rfl) (yp (pNot rfl) (ynil (tnorm (ycondT rfl (yseq (yregion (yp pBuild0 ?_))))))))))))))
  refine ycons (ystAll (c' := zcl) rfl rfl rfl rfl rfl ?_)
  refine yp pC (ynil (tnorm (yret (tret ?_))))
  exact yfin (resL2 (rvG (b := p6) (l := zcl) agSet szSet rfl rfl) (rvT rfl)) ⟨_, .of, rfl, rfl⟩
theorem pkGet {tb ab N : Nat} {D : List (Option Bt)} {H : List Chunk} {L : List Nm} {B : List (Int × Bs)} {T : List Chunk} (hT : Tb tb ab L T) (hA : Ar ab N D H) (hI : Inn D L B) {h : Int} {s : St} {ids : List Int} (hm : (h, blkS s ids) ∈ B) (hE : errS s = 0) (hal : Al L ids ((nmsS s).map foldB)) :
    Tri Try.prog 21 #[.pointer (some ⟨ab, 0, none⟩), .pointer (some ⟨tb, 0, none⟩), .int .i64 h] [T, H] (fun r S => ∃ v HR, r = .tuple #[.agg (scl (folS s) v), .int .i64 0] ∧ Slc 34 v (folS s).rrs HR ∧ S = [HR, T, H]) := by
  refine Tri.forget (ycallee Try.fx21 (Nat.le_of_ble_eq_true rfl) ?_)
  unfold Try.x21
  refine yseq (yregion ?_)
  refine ycons (yalloc fun p6 => ?_)
  refine yp pC (ynil (tnorm (yseq (yregion (yp (pP rfl) (yp (pP rfl) (yp (pI rfl) ?_)))))))
  refine ycons (ycall (pkRead hT hA hI hm hE hal) rfl rfl fun r' S' h => ?_)
  obtain ⟨v, v2, HR, HI, rfl, hR, hL, rfl⟩ := h
  obtain ⟨ra, rc, rfl⟩ := hR.isSlice
  obtain ⟨la, lc, rfl⟩ := hL.isSlice
  refine yp (pU rfl) (yp (pExt rfl rfl) (yp (pExt rfl rfl) (yp (pExt rfl rfl) ?_)))
  refine ycons (yalloc fun p8 => ?_)
  refine ycons (ystAll (c' := [sv (folS s).name, .int .i64 (folS s).typ, .slice ra (folS s).rrs.length rc, .int .i64 (folS s).kind, sv (folS s).zone]) rfl rfl rfl rfl rfl ?_)
  refine yp (pS rfl) (yp (pB rfl) (ynil (tnorm (yseq (yseq (yregion (yp (pB rfl) (yp (pNot rfl) (ynil (tnorm (ycondF rfl (yskip (tnorm (yseq (yregion ?_)))))))))))))))
  refine ycons (yloadN (l := [sv (folS s).name, .int .i64 (folS s).typ, .slice ra (folS s).rrs.length rc, .int .i64 (folS s).kind, sv (folS s).zone]) rfl rfl rfl ?_)
  refine ycons (ystAll (c' := [sv (folS s).name, .int .i64 (folS s).typ, .slice ra (folS s).rrs.length rc, .int .i64 (folS s).kind, sv (folS s).zone]) rfl rfl rfl rfl rfl ?_)
  refine yp pC (ynil (tnorm (yret ?_)))
  exact yfin (resL2 (rvG (b := p6) (l := [sv (folS s).name, .int .i64 (folS s).typ, .slice ra (folS s).rrs.length rc, .int .i64 (folS s).kind, sv (folS s).zone]) agSet szSet rfl rfl) (rvT rfl)) ⟨_, .of, _, HR, rfl, hR, rfl⟩

/-! ### numbers given back, in the arena -/
def drD : List (Option Bt) → List Nm → List Int → List (Option Bt)
  | D, _, [] => D
  | D, L, i :: ids => drD (dropD D L i) (dropL L i) ids
theorem drD_snoc : ∀ (D : List (Option Bt)) (L : List Nm) (ids : List Int) (i : Int), drD D L (ids ++ [i]) = dropD (drD D L ids) (drops L ids) i
  | _, _, [], _ => rfl
  | D, L, k :: ids, i => drD_snoc (dropD D L k) (dropL L k) ids i
theorem drops_snoc (L : List Nm) (ids : List Int) (i : Int) : drops L (ids ++ [i]) = dropL (drops L ids) i := by unfold drops; rw [List.foldl_append]; rfl
theorem dropD_sim {D D' : List (Option Bt)} (h : Sim D D') (L : List Nm) (i : Int) : Sim (dropD D L i) (dropD D' L i) := by
  unfold dropD
  split
  · split
    · exact sim_free h i
    · exact h
  · exact h
theorem drops_pos : ∀ {ids : List Int} {L : List Nm}, Pos L → Pos (drops L ids)
  | [], _, h => h
  | i :: ids, L, h => drops_pos (ids := ids) (L := dropL L i) (dropL_pos h)
/-- the blocks of others without one -/
def outB (B : List (Int × Bs)) (h : Int) : List (Int × Bs) := B.filter fun x => x.1 != h
theorem outB_iff {B : List (Int × Bs)} {h : Int} (x : Int × Bs) : x ∈ outB B h ↔ x ∈ B ∧ x.1 ≠ h := by unfold outB; simp
theorem pkDrop {tb ab N : Nat} {D : List (Option Bt)} {H : List Chunk} {L : List Nm} {B : List (Int × Bs)} {T : List Chunk} (hT : Tb tb ab L T) (hA : Ar ab N D H) (hI : Inn D L B) (hP : Pos L) {h : Int} {s : St} {ids : List Int} (hm : (h, blkS s ids) ∈ B) (hE : errS s = 0) (hal : Al L ids ((nmsS s).map foldB)) (hs : Sok s) :
    Tri Try.prog 14 #[.pointer (some ⟨ab, 0, none⟩), .pointer (some ⟨tb, 0, none⟩), .int .i64 h] [T, H] (fun r S => r = .int .i64 0 ∧ ∃ T' H' D', Tb tb ab (drops L ids) T' ∧ Ar ab N D' H' ∧ Inn D' (drops L ids) (outB B h) ∧ Sim D' (freeD (drD D L ids) h) ∧ S = [T', H']) := by
  refine Tri.forget (ycallee Try.fx14 (Nat.le_of_ble_eq_true rfl) ?_)
  unfold Try.x14
  refine yseq (yregion (yp pC (ynil (tnorm (yseq (yregion (yp (pP rfl) (yp (pP rfl) (yp (pI rfl) ?_)))))))))
  refine ycons (ycall (pkRead hT hA hI hm hE hal) rfl rfl fun r' S' h => ?_)
  obtain ⟨v, v2, HR, HI, rfl, hR, hL, rfl⟩ := h
  obtain ⟨ra, rc, rfl⟩ := hR.isSlice
  obtain ⟨la, lc, rfl⟩ := hL.isSlice
  have hlen : ids.length = (nmsS s).length := by rw [hal.len, List.length_map]
  have hnl := nmsS_len s
  have hrr := hs.rrs
  refine yp (pU rfl) (yp (pExt rfl rfl) (yp (pExt rfl rfl) (yp (pExt rfl rfl) ?_)))
  refine ycons (yalloc fun p7 => ?_)
  refine ycons (ystAll (c' := [sv (folS s).name, .int .i64 (folS s).typ, .slice ra (folS s).rrs.length rc, .int .i64 (folS s).kind, sv (folS s).zone]) rfl rfl rfl rfl rfl ?_)
  refine yp (pS rfl) (yp (pB rfl) (ynil (tnorm (yseq (yseq (yregion (yp (pB rfl) (yp (pNot rfl) (ynil (tnorm (ycondF rfl (yskip (tnorm (yseq (yseq (yregion (yp (pS rfl) (yp (pLen rfl) (yp pC (ynil (tnorm (yblock ?_))))))))))))))))))))))
  refine yloop (σ := Nat) (fun i E S => ∃ (T1 H1 : List Chunk) (D1 : List (Option Bt)), Has E [(0, .pointer (some ⟨ab, 0, none⟩)), (1, .pointer (some ⟨tb, 0, none⟩)), (2, .int .i64 h), (22, .slice la ids.length lc), (23, .int .i64 (ids.length : Int)), (24, .int .i64 (i : Int))] ∧ i ≤ ids.length ∧ Tb tb ab (drops L (ids.take i)) T1 ∧ Ar ab N D1 H1 ∧ Inn D1 (drops L (ids.take i)) B ∧ Sim D1 (drD D L (ids.take i)) ∧ Junk S (HI :: T1 :: H1 :: [])) (fun i => ids.length - i) 0
    ⟨T, H, D, ⟨rfl, rfl, rfl, rfl, rfl, rfl, trivial⟩, Nat.zero_le _, hT, hA, hI, Sim.refl D, .of⟩ fun i E S ⟨T1, H1, D1, hE2, hi, hT1, hA1, hI1, hs1, hJ⟩ => ?_
  obtain ⟨E0, e0⟩ := has_puts hE2; subst e0; clear hE2
  refine yforget hJ (yseq (yregion (yp (pLt rfl rfl) (ynil (tnorm (yseq ?_))))))
  refine ycondD rfl (fun hlt => ?_) (fun hlt => ?_)
  · have hii : i < ids.length := by omega
    have hti : ids.take (i + 1) = ids.take i ++ [ids[i]] := List.take_succ_eq_append_getElem hii
    obtain ⟨b, sp, fz, hz, rfl, _, hc', rfl⟩ := hL.at' (by intro h; simp [h] at hii)
    have hld : ((cells (ids ++ sp)).toArray.toList)[0 + i * 1 + 0]? = some (.int .i64 ids[i]) := (row_cell (kk := 1) (j := 0) hii rfl (by omega)).trans rfl
    generalize ids[i] = z at hld hti
    refine yskip (tnorm (yseq (yblock (yseq (yregion (yp (pIxN rfl rfl (by omega)) ?_))))))
    refine ycons (yload1 (v := .int .i64 z) rfl hld ?_)
    refine yp (pI rfl) (ynil (tnorm (yregion (yp (pP rfl) (yp (pI rfl) ?_)))))
    refine ycons (ycall (tbDrop hT1 hA1 hI1 (drops_pos hP) z) rfl rfl fun r' S' h => ?_)
    obtain ⟨rfl, T2, H2, D2, hT2, hA2, hI2, hs2, rfl⟩ := h
    refine ynil (bnorm (tnorm (yregion (yp (pInc rfl rfl (by omega)) (yp (pI rfl) (ynil (tnorm ?_)))))))
    refine ⟨i + 1, ⟨T2, H2, D2, ⟨rfl, rfl, rfl, rfl, rfl, rfl, trivial⟩, by omega, ?_, hA2, ?_, ?_, .of⟩, by omega⟩
    · rw [hti, drops_snoc]; exact hT2
    · rw [hti, drops_snoc]; exact hI2
    · rw [hti, drD_snoc]; exact (shp_sim hs2).trans (dropD_sim hs1 _ z)
  · have hti : ids.take i = ids := List.take_of_length_le (by omega)
    rw [hti] at hT1 hI1 hs1
    obtain ⟨hg, _⟩ := hI1.oth _ hm
    have hg : getB D1 h = some (blkS s ids) := hg
    have hfr : freeR D1 h = 0 := by unfold freeR; rw [hg]; rfl
    refine yexit (texit (texit (bexit (tnorm (yseq (yregion (yp (pP rfl) (yp (pI rfl) ?_))))))))
    refine ycons (ycall (arFree hA1 h) rfl rfl fun r' S' h => ?_)
    obtain ⟨rfl, H2, hA2, rfl⟩ := h
    rw [hfr]
    refine yp (pI rfl) (ynil (tnorm (yret ?_)))
    exact yfin (rI rfl) ⟨_, .of, rfl, T1, H2, _, hT1, hA2, hI1.free hm outB_iff, sim_free hs1 h, rfl⟩
end Go.Proofs.Ytejmbmenbailmaa
namespace Go.Proofs.Ytejmbmenbailmaa
open Go.Xs
open Enc (enc)

/-- is there room for a set? -/
def fits (N : Nat) (D : List (Option Bt)) (L : List Nm) (s : St) : Prop := (usedD D : Int) + costS L s ≤ N
theorem fits_iff {N : Nat} {D : List (Option Bt)} {L : List Nm} {s : St} (hE : errS s = 0) (hN : usedD D ≤ N) (h0 : 0 ≤ sizS s ∧ sizS s ≤ 4096) (hv : ∀ n ∈ nmsS s, vld n = true) :
    (fits N D L s → (ads N D L (nmsS s)).e = 0 ∧ allocE N (ads N D L (nmsS s)).D (sizS s) = 0) ∧ (¬ fits N D L s → (ads N D L (nmsS s)).e = 4 ∨ (ads N D L (nmsS s)).e = 0 ∧ allocE N (ads N D L (nmsS s)).D (sizS s) = 4) := by
  have hC : costS L s = cost (sizS s) + (costL L [] (nmsS s) : Nat) := by unfold costS; rw [if_pos hE]
  have hc : cost (sizS s) = (costN (sizS s).toNat : Nat) := by unfold cost; rw [if_neg (by omega)]
  have h16 := costN_ge (sizS s).toNat
  obtain ⟨h1, h2⟩ := ads_cost (N := N) (l := nmsS s) (D := D) (L := L) hv hN
  unfold fits
  rw [hC, hc]
  constructor
  · intro hf
    obtain ⟨h3, h4⟩ := h1 (by omega)
    refine ⟨h3, ?_⟩
    unfold allocE
    rw [hc, if_neg (by omega), if_neg (by omega)]
  · intro hf
    by_cases hr : usedD D + costL L [] (nmsS s) ≤ N
    · obtain ⟨h3, h4⟩ := h1 hr
      refine .inr ⟨h3, ?_⟩
      unfold allocE
      rw [hc, if_neg (by omega), if_pos (by omega)]
    · exact .inl (h2 (by omega))
theorem errS_may {s : St} (hE : errS s = 0) : mayS s = true ∧ sizS s ≤ 4096 := by
  unfold errS at hE
  cases hm : mayS s with
  | false => rw [if_pos hm] at hE; cases hE
  | true =>
    rw [if_neg (by rw [hm]; decide)] at hE
    split at hE
    · cases hE
    · exact ⟨rfl, by omega⟩
theorem sizS_ge {s : St} (hm : mayS s = true) : 16 ≤ sizS s := by
  have h := siz_bd hm s.rrs.length
  have h2 : (s.rrs.map sizR).take s.rrs.length = s.rrs.map sizR := List.take_of_length_le (by rw [List.length_map]; exact Nat.le_refl _)
  rw [h2] at h
  unfold sizS; omega
theorem Al.mem {L : List Nm} {i : Int} : ∀ {ids : List Int} {ns : List Bs}, Al L ids ns → i ∈ ids → ∃ e ∈ L, e.id = i
  | _, _, .cons ⟨e, he, h1, _⟩ t, hi => by
    rcases List.mem_cons.1 hi with rfl | hi
    · exact ⟨e, he, h1⟩
    · exact t.mem hi
theorem ads_idl (N : Nat) : ∀ (l : List Bs) (D : List (Option Bt)) (L : List Nm), (ads N D L l).ids.length ≤ l.length
  | [], _, _ => Nat.le_refl _
  | n :: l, D, L => by
    by_cases hE : addE N D L n = 0
    · rw [ads_cons hE]
      have := ads_idl N l (addD D L (foldB n)) (addL D L (foldB n))
      show (_ :: _).length ≤ _
      rw [List.length_cons, List.length_cons]; omega
    · rw [ads_no hE]; exact Nat.zero_le _
theorem ads_us (N : Nat) : ∀ (l : List Bs) (D : List (Option Bt)) (L : List Nm) (k : Nat), (∀ e ∈ L, e.u ≤ k) → ∀ e ∈ (ads N D L l).L, e.u ≤ k + l.length
  | [], _, _, _, h => h
  | n :: l, D, L, k, h => fun e he => by
    by_cases hE : addE N D L n = 0
    · rw [ads_cons hE] at he
      have := ads_us N l (addD D L (foldB n)) (addL D L (foldB n)) (k + 1) (addL_u h) e he
      rw [List.length_cons]; omega
    · rw [ads_no hE] at he
      have := h e he; omega
set_option maxRecDepth 10000 in
set_option maxHeartbeats 4000000 in
theorem pkPutS {S : Segs} {s : St} {v : Value} {tb ab N : Nat} {D : List (Option Bt)} {H : List Chunk} {L : List Nm} {B : List (Int × Bs)} {T : List Chunk} (hT : Tb tb ab L T) (hA : Ar ab N D H) (hI : Inn D L B) (hP : Pos L) (hB : Hs B) (hu : ∀ e ∈ L, e.u < 2 ^ 50) (hs : Sok s) (hv : Src S v s.rrs) :
    Tri Try.prog 10 #[.pointer (some ⟨ab, 0, none⟩), .pointer (some ⟨tb, 0, none⟩), .agg (scl s v)] (T :: H :: S) (fun r S' =>
      (errS s ≠ 0 ∧ r = .tuple #[.int .i64 0, .int .i64 (errS s)] ∧ S' = T :: H :: S) ∨
      (errS s = 0 ∧ ¬ fits N D L s ∧ ∃ T' H' D', r = .tuple #[.int .i64 0, .int .i64 4] ∧ Tb tb ab L T' ∧ Ar ab N D' H' ∧ Inn D' L B ∧ S' = T' :: H' :: S) ∨
      (errS s = 0 ∧ fits N D L s ∧ ∃ T' H' D', r = .tuple #[.int .i64 ((hnd (ads N D L (nmsS s)).D : Nat) : Int), .int .i64 0] ∧ Tb tb ab (ads N D L (nmsS s)).L T' ∧ Ar ab N D' H' ∧
        Inn D' (ads N D L (nmsS s)).L ((((hnd (ads N D L (nmsS s)).D : Nat) : Int), blkS s (ads N D L (nmsS s)).ids) :: B) ∧ Hs ((((hnd (ads N D L (nmsS s)).D : Nat) : Int), blkS s (ads N D L (nmsS s)).ids) :: B) ∧ Sim D' (allocD (ads N D L (nmsS s)).D (sizS s).toNat) ∧ S' = T' :: H' :: S)) := by
  refine Tri.forget (ycallee Try.fx10 (Nat.le_of_ble_eq_true rfl) ?_)
  unfold Try.x10
  obtain ⟨a, c, rfl⟩ := hv.isSlice
  refine yseq (yregion ?_)
  refine ycons (yboxG rfl fun p5 => ?_)
  refine yp pC (yp pC (ynil (tnorm (yseq (yregion ?_)))))
  refine ycons (yloadN (l := [sv s.name, .int .i64 s.typ, .slice a s.rrs.length c, .int .i64 s.kind, sv s.zone]) rfl rfl rfl ?_)
  refine ycons (ycall (pkSize hs hv) rfl rfl fun r' S' h => ?_)
  obtain ⟨rfl, hSS⟩ := h
  have hSS := hSS.symm
  subst hSS
  refine yp (pU rfl) (yp (pExt rfl rfl) (yp (pExt rfl rfl) (yp (pI rfl) (yp (pI rfl) (ynil (tnorm (yseq (yseq (yregion (yp (pI rfl) (yp (pNe rfl rfl) (ynil (tnorm ?_)))))))))))))
  by_cases hE : errS s = 0
  case neg =>
    rw [decide_eq_false hE]
    refine ycondT rfl (yseq (yregion (yp (pI rfl) (yp pC (yp (pI rfl) (ynil (tnorm (yret (tret ?_)))))))))
    exact yfin (rII rfl rfl) ⟨_, .of, .inl ⟨hE, rfl, rfl⟩⟩
  obtain ⟨hmay, h4096⟩ := errS_may hE
  have hZ : szOf s = sizS s := by unfold szOf; rw [if_pos hE]
  have h16 := sizS_ge hmay
  have hvl := mayS_vld hmay
  obtain ⟨hf1, hf2⟩ := fits_iff (N := N) (D := D) (L := L) hE hA.ok.used ⟨by omega, h4096⟩ hvl
  have hnl := nmsS_len s
  have hrr := hs.rrs
  rw [decide_eq_true hE, hZ]
  have hdr := ads_drops (N := N) (l := nmsS s) hI.dis hP hI.stand
  have hlv := @ads_al N (nmsS s) D L
  have hidl := ads_idl N (nmsS s) D L
  have huP := ads_us N (nmsS s) D L (2 ^ 50) (fun e he => Nat.le_of_lt (hu e he))
  generalize hPd : ads N D L (nmsS s) = P at hf1 hf2 hdr hlv hidl huP ⊢
  refine ycondF rfl (yskip (tnorm (yseq (yregion (yp pC (ynil (tnorm ?_)))))))
  refine ycut (fun E S' => ∃ (T1 H1 : List Chunk) (D1 : List (Option Bt)) (iv : Value) (Hi : List Chunk), Has E [(0, .pointer (some ⟨ab, 0, none⟩)), (1, .pointer (some ⟨tb, 0, none⟩)), (5, .pointer (some ⟨p5, 0, none⟩)), (8, .int .i64 (sizS s)), (9, .int .i64 P.e)] ∧ E 10 = iv ∧ Slc 3 iv P.ids Hi ∧ Tb tb ab P.L T1 ∧ Ar ab N D1 H1 ∧ Inn D1 P.L B ∧ Pos P.L ∧ Sim D1 P.D ∧
      Junk S' (Hi :: [(p5, .cells #[sv s.name, .int .i64 s.typ, .slice a s.rrs.length c, .int .i64 s.kind, sv s.zone] 32)] :: T1 :: H1 :: S)) ?_ ?_
  · refine yseq (yregion ?_)
    refine ycons (yloadN (l := [sv s.name, .int .i64 s.typ, .slice a s.rrs.length c, .int .i64 s.kind, sv s.zone]) rfl rfl rfl ?_)
    refine ycons (ycall (pkNames hs hv) rfl rfl fun r' S' h => ?_)
    obtain ⟨HN, hN, hSS⟩ := h
    subst hSS
    obtain ⟨na, nc, rfl⟩ := hN.isSlice
    rw [bss_len] at hN ⊢
    refine yp (pLen rfl) (yp pC (ynil (tnorm (yblock ?_))))
    refine yloop (σ := Nat) (fun i E S' => ∃ (T1 H1 : List Chunk) (D1 Dk : List (Option Bt)) (L1 : List Nm) (ik : List Int) (iv : Value) (Hi : List Chunk), Has E [(0, .pointer (some ⟨ab, 0, none⟩)), (1, .pointer (some ⟨tb, 0, none⟩)), (5, .pointer (some ⟨p5, 0, none⟩)), (8, .int .i64 (sizS s)), (9, .int .i64 0), (27, .slice na (nmsS s).length nc), (28, .int .i64 ((nmsS s).length : Int)), (29, .int .i64 (i : Int))] ∧ E 10 = iv ∧ i ≤ (nmsS s).length ∧ Slc 3 iv ik Hi ∧ ik.length = i ∧ Tb tb ab L1 T1 ∧ Ar ab N D1 H1 ∧ Inn D1 L1 B ∧ Pos L1 ∧ Sim D1 Dk ∧ (∀ e ∈ L1, e.u ≤ 2 ^ 50 + i) ∧
        P = ⟨(ads N Dk L1 ((nmsS s).drop i)).D, (ads N Dk L1 ((nmsS s).drop i)).L, ik ++ (ads N Dk L1 ((nmsS s).drop i)).ids, (ads N Dk L1 ((nmsS s).drop i)).e⟩ ∧
        Junk S' (Hi :: HN :: [(p5, .cells #[sv s.name, .int .i64 s.typ, .slice a s.rrs.length c, .int .i64 s.kind, sv s.zone] 32)] :: T1 :: H1 :: S)) (fun i => (nmsS s).length - i) 0
      ⟨T, H, D, D, L, [], _, [], ⟨rfl, rfl, rfl, rfl, by rw [← hE]; rfl, rfl, rfl, rfl, trivial⟩, rfl, Nat.zero_le _, .nil, rfl, hT, hA, hI, hP, Sim.refl D, fun e he => by have := hu e he; omega, hPd.symm, .of⟩ fun i E S' ⟨T1, H1, D1, Dk, L1, ik, iv, Hi, hE2, hE10, hi, hiv, hikl, hT1, hA1, hI1, hP1, hs1, hu1, hPe, hJ⟩ => ?_
    obtain ⟨ia, ic, rfl⟩ := hiv.isSlice
    have hE3 : Has E [(0, .pointer (some ⟨ab, 0, none⟩)), (1, .pointer (some ⟨tb, 0, none⟩)), (5, .pointer (some ⟨p5, 0, none⟩)), (8, .int .i64 (sizS s)), (9, .int .i64 0), (10, .slice ia ik.length ic), (27, .slice na (nmsS s).length nc), (28, .int .i64 ((nmsS s).length : Int)), (29, .int .i64 (i : Int))] := ⟨hE2.1, hE2.2.1, hE2.2.2.1, hE2.2.2.2.1, hE2.2.2.2.2.1, hE10, hE2.2.2.2.2.2⟩
    clear hE2 hE10
    obtain ⟨E0, e0⟩ := has_puts hE3; subst e0; clear hE3
    refine yforget hJ (yseq (yregion (yp (pLt rfl rfl) (ynil (tnorm (yseq ?_))))))
    refine ycondD rfl (fun hlt => ?_) (fun hlt => ?_)
    · have hii : i < (nmsS s).length := by omega
      have hdi : (nmsS s).drop i = (nmsS s)[i] :: (nmsS s).drop (i + 1) := List.drop_eq_getElem_cons hii
      have hvn := hvl _ (List.getElem_mem hii)
      obtain ⟨b, sp, fz, hz, rfl, _, hc', rfl⟩ := hN.at' (by intro h; rw [← List.length_eq_zero_iff, bss_len] at h; omega)
      have hld : ((cells (bss (nmsS s) ++ sp)).toArray.toList)[0 + i * 1 + 0]? = some (sv (nmsS s)[i]) := (row_cell (kk := 1) (j := 0) (by rw [bss_len]; exact hii) rfl (by omega)).trans (by unfold bss; rw [List.getElem_map]; rfl)
      rw [hdi] at hPe
      generalize (nmsS s)[i] = n at hld hvn hPe
      have h255 := vld_len hvn
      have hEe : addE N Dk L1 n = addE N D1 L1 n := by unfold addE; rw [sim_allocE hs1]
      refine yskip (tnorm (yseq (yblock (yseq (yregion (yp (pIxN rfl rfl (by omega)) ?_))))))
      refine ycons (yload1 (v := sv n) rfl hld ?_)
      refine yp (pT rfl) (ynil (tnorm (yseq (yregion (yp (pP rfl) (yp (pT rfl) ?_))))))
      refine ycons (ycall (tbAdd hT1 hA1 hI1 (fun e he => by have := hu1 e he; omega) n (by omega)) rfl rfl fun r' S' h => ?_)
      rcases h with ⟨he, rfl, rfl⟩ | ⟨he, T2, H2, D2, rfl, hT2, hA2, hI2, hs2, rfl⟩
      · rw [ads_no (by rw [hEe]; exact he), List.append_nil, hEe] at hPe
        subst hPe
        refine yp (pU rfl) (yp (pExt rfl rfl) (yp (pExt rfl rfl) (yp (pI rfl) (yp (pI rfl) (ynil (tnorm (yseq (yseq (yregion (yp (pI rfl) (yp (pI rfl) (ynil (tnorm (yseq (yregion (yp (pI rfl) (yp (pNe rfl rfl) (ynil (tnorm ?_)))))))))))))))))))
        rw [decide_eq_false he]
        refine ycondT rfl (yexit (texit (bexitN rfl (texit (texit (bexit (tnorm ?_)))))))
        exact ⟨T1, H1, D1, .slice ia ik.length ic, Hi, ⟨rfl, rfl, rfl, rfl, rfl, trivial⟩, rfl, hiv, hT1, hA1, hI1, hP1, hs1, .of⟩
      · have hLe : addL D1 L1 (foldB n) = addL Dk L1 (foldB n) := by unfold addL; rw [sim_hnd hs1]
        have hIe : addI D1 L1 (foldB n) = addI Dk L1 (foldB n) := by unfold addI; rw [sim_hnd hs1]
        have hDe : Sim (addD D1 L1 (foldB n)) (addD Dk L1 (foldB n)) := by
          unfold addD; split
          · exact hs1
          · exact sim_alloc hs1 _
        have hPL : Pos (addL D1 L1 (foldB n)) := addL_pos hP1
        have huL := addL_u (D := D1) (n := foldB n) hu1
        rw [ads_cons (by rw [hEe]; exact he)] at hPe
        rw [hLe] at hT2 hI2 hPL huL
        rw [hIe]
        generalize addI Dk L1 (foldB n) = z at hPe
        refine yp (pU rfl) (yp (pExt rfl rfl) (yp (pExt rfl rfl) (yp (pI rfl) (yp (pI rfl) (ynil (tnorm (yseq (yseq (yregion (yp (pI rfl) (yp (pI rfl) (ynil (tnorm (yseq (yregion (yp (pI rfl) (yp (pNe rfl rfl) (ynil (tnorm (ycondF rfl (yskip (tnorm (yregion (yp (pS rfl) (yp (pI rfl) ?_)))))))))))))))))))))))))
        rw [decide_eq_true rfl]
        skip
        refine ycons (ybsl1 z rfl rfl (by decide) (by decide) rfl fun p44 => ?_)
        refine ycons (yapp (Y := [z]) rfl rfl hiv (.lit (by repeat (first | exact List.mem_cons_self | apply List.mem_cons_of_mem)) rfl) rfl (0 : Int) rfl (by rw [List.length_singleton]; omega) (by rw [List.length_singleton]; omega) fun v2 H2' hL2 => ?_)
        obtain ⟨la2, lc2, rfl⟩ := hL2.isSlice
        refine yp (pS rfl) (ynil (bnorm (tnorm (yregion (yp (pInc rfl rfl (by omega)) (yp (pI rfl) (ynil (tnorm ?_))))))))
        refine ⟨i + 1, ⟨T2, H2, D2, addD Dk L1 (foldB n), addL Dk L1 (foldB n), ik ++ [z], .slice la2 (ik ++ [z]).length lc2, H2', ⟨rfl, rfl, rfl, rfl, rfl, rfl, rfl, rfl, trivial⟩, rfl, by omega, hL2, by rw [List.length_append, List.length_singleton]; omega, hT2, hA2, hI2, hPL, (shp_sim hs2).trans hDe, fun e he => by have := huL e he; omega, ?_, .of⟩, by omega⟩
        rw [hPe, List.append_assoc]; rfl
    · have hd0 : (nmsS s).drop i = [] := List.drop_eq_nil_of_le (by omega)
      rw [hd0, ads, List.append_nil] at hPe
      subst hPe
      refine yexit (texit (texit (bexit (tnorm ?_))))
      exact ⟨T1, H1, D1, .slice ia ik.length ic, Hi, ⟨rfl, rfl, rfl, rfl, rfl, trivial⟩, rfl, hiv, hT1, hA1, hI1, hP1, hs1, .of⟩
  intro E S' ⟨T1, H1, D1, iv, Hi, hE2, hE10, hiv, hT1, hA1, hI1, hP1, hs1, hJ⟩
  obtain ⟨ia, ic, rfl⟩ := hiv.isSlice
  have hE3 : Has E [(0, .pointer (some ⟨ab, 0, none⟩)), (1, .pointer (some ⟨tb, 0, none⟩)), (5, .pointer (some ⟨p5, 0, none⟩)), (8, .int .i64 (sizS s)), (9, .int .i64 P.e), (10, .slice ia P.ids.length ic)] := ⟨hE2.1, hE2.2.1, hE2.2.2.1, hE2.2.2.2.1, hE2.2.2.2.2.1, hE10, trivial⟩
  clear hE2 hE10
  obtain ⟨E0, e0⟩ := has_puts hE3; subst e0; clear hE3
  refine yforget hJ ?_
  have ht : ((sizS s).toNat : Int) = sizS s := by omega
  have haE : allocE N D1 (sizS s) = allocE N P.D (sizS s) := sim_allocE hs1 _ _
  refine yseq (yregion (yp pC (ynil (tnorm ?_))))
  refine ycut (fun E S' => ∃ (H2 : List Chunk) (D2 : List (Option Bt)) (wv hz : Int), Has E [(0, .pointer (some ⟨ab, 0, none⟩)), (1, .pointer (some ⟨tb, 0, none⟩)), (5, .pointer (some ⟨p5, 0, none⟩)), (9, .int .i64 wv), (10, .slice ia P.ids.length ic), (15, .int .i64 hz)] ∧ Ar ab N D2 H2 ∧
      ((wv = 4 ∧ ¬ fits N D L s ∧ Inn D2 P.L B) ∨ (wv = 0 ∧ fits N D L s ∧ P.e = 0 ∧ hz = ((hnd P.D : Nat) : Int) ∧ D2 = allocD D1 (sizS s).toNat)) ∧
      Junk S' (Hi :: [(p5, .cells #[sv s.name, .int .i64 s.typ, .slice a s.rrs.length c, .int .i64 s.kind, sv s.zone] 32)] :: T1 :: H2 :: S)) ?_ ?_
  · by_cases hfit : fits N D L s
    · obtain ⟨h1, h2⟩ := hf1 hfit
      rw [h1]
      refine yseq (yregion (yp (pI rfl) (yp (pEq rfl rfl) (ynil (tnorm (ycondT rfl (yregion (yp (pP rfl) (yp (pI rfl) ?_)))))))))
      rw [decide_eq_true rfl]
      skip
      refine ycons (ycall (arAllocOk hA1 (n := sizS s) (m := (sizS s).toNat) ht.symm (by rw [ht, haE]; exact h2)) rfl rfl fun r' S' h => ?_)
      obtain ⟨rfl, H2, hA2, rfl⟩ := h
      rw [sim_hnd hs1]
      refine yp (pU rfl) (yp (pExt rfl rfl) (yp (pExt rfl rfl) (yp (pI rfl) (yp (pI rfl) (ynil (tnorm ?_))))))
      exact ⟨H2, _, 0, _, ⟨rfl, rfl, rfl, rfl, rfl, rfl, trivial⟩, hA2, .inr ⟨rfl, hfit, rfl, rfl, rfl⟩, .of⟩
    · rcases hf2 hfit with h1 | ⟨h1, h2⟩
      · rw [h1]
        refine yseq (yregion (yp (pI rfl) (yp (pEq rfl rfl) (ynil (tnorm (ycondF rfl (yskip (tnorm ?_))))))))
        rw [decide_eq_false (show ¬ (4 : Int) = 0 from by decide)]
        skip
        exact ⟨H1, D1, 4, 0, ⟨rfl, rfl, rfl, rfl, rfl, rfl, trivial⟩, hA1, .inl ⟨rfl, hfit, hI1⟩, .of⟩
      · rw [h1]
        refine yseq (yregion (yp (pI rfl) (yp (pEq rfl rfl) (ynil (tnorm (ycondT rfl (yregion (yp (pP rfl) (yp (pI rfl) ?_)))))))))
        rw [decide_eq_true rfl]
        skip
        refine ycons (ycall (arAllocNo hA1 (haE.trans h2) (by decide)) rfl rfl fun r' S' h => ?_)
        obtain ⟨rfl, rfl⟩ := h
        refine yp (pU rfl) (yp (pExt rfl rfl) (yp (pExt rfl rfl) (yp (pI rfl) (yp (pI rfl) (ynil (tnorm ?_))))))
        exact ⟨H1, D1, 4, 0, ⟨rfl, rfl, rfl, rfl, rfl, rfl, trivial⟩, hA1, .inl ⟨rfl, hfit, hI1⟩, .of⟩
  intro E S' ⟨H2, D2, wv, hz, hE, hA2, hcase, hJ⟩
  obtain ⟨E0, e0⟩ := has_puts hE; subst e0; clear hE
  refine yforget hJ ?_
  rcases hcase with ⟨rfl, hfit, hI2⟩ | ⟨rfl, hfit, hPe, rfl, rfl⟩
  · refine yseq (yseq (yregion (yp (pI rfl) (yp (pNe rfl rfl) (ynil (tnorm (ycondT rfl (yseq (yseq (yregion (yp (pS rfl) (yp (pLen rfl) (yp pC (ynil (tnorm (yblock ?_))))))))))))))))
    rw [decide_eq_false (show ¬ (4 : Int) = 0 from by decide)]
    skip
    refine yloop (σ := Nat) (fun i E S' => ∃ (T3 H3 : List Chunk) (D3 : List (Option Bt)), Has E [(1, .pointer (some ⟨tb, 0, none⟩)), (9, .int .i64 4), (57, .slice ia P.ids.length ic), (58, .int .i64 (P.ids.length : Int)), (59, .int .i64 (i : Int))] ∧ i ≤ P.ids.length ∧ Tb tb ab (drops P.L (P.ids.take i)) T3 ∧ Ar ab N D3 H3 ∧ Inn D3 (drops P.L (P.ids.take i)) B ∧ Junk S' (Hi :: T3 :: H3 :: S)) (fun i => P.ids.length - i) 0
      ⟨T1, H2, D2, ⟨rfl, rfl, rfl, rfl, rfl, trivial⟩, Nat.zero_le _, hT1, hA2, hI2, .of⟩ fun i E S' ⟨T3, H3, D3, hE, hi, hT3, hA3, hI3, hJ⟩ => ?_
    obtain ⟨E0, e0⟩ := has_puts hE; subst e0; clear hE
    refine yforget hJ (yseq (yregion (yp (pLt rfl rfl) (ynil (tnorm (yseq ?_))))))
    refine ycondD rfl (fun hlt => ?_) (fun hlt => ?_)
    · have hii : i < P.ids.length := by omega
      have hti : P.ids.take (i + 1) = P.ids.take i ++ [P.ids[i]] := List.take_succ_eq_append_getElem hii
      obtain ⟨b, sp, fz, hz, rfl, _, hc', rfl⟩ := hiv.at' (by intro h; simp [h] at hii)
      have hld : ((cells (P.ids ++ sp)).toArray.toList)[0 + i * 1 + 0]? = some (.int .i64 P.ids[i]) := (row_cell (kk := 1) (j := 0) hii rfl (by omega)).trans rfl
      generalize P.ids[i] = z at hld hti
      refine yskip (tnorm (yseq (yblock (yseq (yregion (yp (pIxN rfl rfl (by omega)) ?_))))))
      refine ycons (yload1 (v := .int .i64 z) rfl hld ?_)
      refine yp (pI rfl) (ynil (tnorm (yregion (yp (pP rfl) (yp (pI rfl) ?_)))))
      refine ycons (ycall (tbDrop hT3 hA3 hI3 (drops_pos hP1) z) rfl rfl fun r' S' h => ?_)
      obtain ⟨rfl, T4, H4, D4, hT4, hA4, hI4, hs4, rfl⟩ := h
      refine ynil (bnorm (tnorm (yregion (yp (pInc rfl rfl (by omega)) (yp (pI rfl) (ynil (tnorm ?_)))))))
      refine ⟨i + 1, ⟨T4, H4, D4, ⟨rfl, rfl, rfl, rfl, rfl, trivial⟩, by omega, ?_, hA4, ?_, .of⟩, by omega⟩
      · rw [hti, drops_snoc]; exact hT4
      · rw [hti, drops_snoc]; exact hI4
    · have hti : P.ids.take i = P.ids := List.take_of_length_le (by omega)
      rw [hti, hdr] at hT3 hI3
      refine yexit (texit (texit (bexit (tnorm (yseq (yregion (yp (pI rfl) (yp pC (yp (pI rfl) (ynil (tnorm (yret (tret ?_)))))))))))))
      exact yfin (rII rfl rfl) ⟨_, .of, .inr (.inl ⟨hE, hfit, T3, H3, D3, rfl, hT3, hA3, hI3, rfl⟩)⟩
  · have hal := hlv hPe
    have hlen : P.ids.length = (nmsS s).length := by rw [hal.len, List.length_map]
    have hnn : ∀ i ∈ P.ids, 0 ≤ i := fun i hi => by
      obtain ⟨e, he, rfl⟩ := hal.mem hi
      have := (id_bd hA1 hI1 he).1
      omega
    have hbl := blkS_len (s := s) (ids := P.ids) (fun r hr => (mayS_data hmay r hr).1) hlen
    have hdn := sim_hnd hs1
    have hIa := hI1.alloc (sizS s).toNat
    have hga := alloc_getB D1 (sizS s).toNat
    rw [hdn] at hIa hga
    have hBn : Hs ((((hnd P.D : Nat) : Int), zeros (sizS s).toNat) :: B) := by
      refine List.nodup_cons.2 ⟨fun hm => ?_, hB⟩
      obtain ⟨x, hx, hxe⟩ := List.mem_map.1 hm
      have h1 := (hI1.oth x hx).1
      have h2 := hnd_free D1
      rw [hxe, ← hdn, h2] at h1
      cases h1
    have hzl : (blkS s P.ids).length = (zeros (sizS s).toNat).length := by rw [zlen]; omega
    obtain ⟨hw1, hw2⟩ := write_all (Y := blkS s P.ids) hga hzl
    have hIw := hIa.write (Y := blkS s P.ids) hBn
    have hsw := sim_set (Y := blkS s P.ids) hga hzl
    refine yseq (yseq (yregion (yp (pI rfl) (yp (pNe rfl rfl) (ynil (tnorm (ycondF rfl (yskip (tnorm (yseq (yregion (yp (pP rfl) (yp (pI rfl) ?_)))))))))))))
    refine ycons (yloadN (l := [sv s.name, .int .i64 s.typ, .slice a s.rrs.length c, .int .i64 s.kind, sv s.zone]) rfl rfl rfl ?_)
    refine yp (pS rfl) ?_
    refine ycons (ycall (pkWrite (S := Hi :: S) hs (hv.mono fun x hx => List.mem_cons_of_mem _ hx) (hiv.src (by simp)) hE hlen hnn) rfl rfl fun r' S' h => ?_)
    obtain ⟨Hw, hw, rfl⟩ := h
    refine ycons (ycall (arWrite (S0 := [Hw]) hA2 ((hnd P.D : Nat) : Int) 0 (Y := blkS s P.ids) (hw.src (by simp)) (by show _ ≤ 9223372036854775807; omega)) rfl rfl fun r' S' h => ?_)
    obtain ⟨rfl, H3, hA3, rfl⟩ := h
    rw [hw2] at hA3
    refine ynil (tnorm (yseq (yregion (yp (pI rfl) (yp (pI rfl) (yp pC (ynil (tnorm (yret ?_)))))))))
    exact yfin (rII rfl rfl) ⟨_, .of, .inr (.inr ⟨hE, hfit, T1, H3, _, rfl, hT1, hA3, hIw, hBn, hsw.trans (sim_alloc hs1 _), rfl⟩)⟩
end Go.Proofs.Ytejmbmenbailmaa
