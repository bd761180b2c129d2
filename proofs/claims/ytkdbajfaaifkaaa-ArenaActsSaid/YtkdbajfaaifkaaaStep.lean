/- Steps: what computing operations yield, in the shapes in which they are met. -/
import Derived.Test.YtkdbajfaaifkaaaDraw
namespace Go.Xs
section
variable {ρ : Operand → Value} {x y c a b i : Operand} {v : Value}

theorem pC {E : Env} : pstep (ev E) (.mov (.const v)) = some v := rfl
theorem pI {k : IntKind} {n : Int} (h : ρ x = .int k n) : pstep ρ (.mov x) = some (.int k n) := by simp [pstep, h]
theorem pB {t : Bool} (h : ρ x = .bool t) : pstep ρ (.mov x) = some (.bool t) := by simp [pstep, h]
theorem pP {p : Option Addr} (h : ρ x = .pointer p) : pstep ρ (.mov x) = some (.pointer p) := by simp [pstep, h]
theorem pS {p : Option Addr} {n m : Nat} (h : ρ x = .slice p n m) : pstep ρ (.mov x) = some (.slice p n m) := by simp [pstep, h]
theorem pT {s : ByteArray} (h : ρ x = .string s) : pstep ρ (.mov x) = some (.string s) := by simp [pstep, h]
theorem pF {f : Fn} {p q : Array Value} (h : ρ x = .func f p q) : pstep ρ (.mov x) = some (.func f p q) := by simp [pstep, h]
theorem pG {cs : Array Value} (h : ρ x = .agg cs) : pstep ρ (.mov x) = some (.agg cs) := by simp [pstep, h]
theorem pU {cs : Array Value} (h : ρ x = .tuple cs) : pstep ρ (.mov x) = some (.tuple cs) := by simp [pstep, h]
theorem pM {m : Option Nat} (h : ρ x = .map m) : pstep ρ (.mov x) = some (.map m) := by simp [pstep, h]
/-- of a value that is not known -/
theorem pV (h : ρ x = v) : pstep ρ (.mov x) = some v := by simp [pstep, h]

theorem pAnd {t u : Bool} (h1 : ρ c = .bool t) (h2 : ρ a = .bool u) (h3 : ρ b = .bool false) : pstep ρ (.pick c a b) = some (.bool (t && u)) := by
  cases t <;> simp [pstep, h1, h2, h3]
theorem pOr {t u : Bool} (h1 : ρ c = .bool t) (h2 : ρ a = .bool true) (h3 : ρ b = .bool u) : pstep ρ (.pick c a b) = some (.bool (t || u)) := by
  cases t <;> simp [pstep, h1, h2, h3]
theorem pPickT {u : Bool} (h1 : ρ c = .bool true) (h2 : ρ a = .bool u) : pstep ρ (.pick c a b) = some (.bool u) := by simp [pstep, h1, h2]
theorem pPickF {u : Bool} (h1 : ρ c = .bool false) (h2 : ρ b = .bool u) : pstep ρ (.pick c a b) = some (.bool u) := by simp [pstep, h1, h2]

theorem wrap_i64 {n : Int} (h : -9223372036854775808 ≤ n ∧ n ≤ 9223372036854775807) : IntKind.i64.wrap n = n := IntWalk.i64_in n (by simpa using h)

theorem pAdd {m n : Int} (h1 : ρ x = .int .i64 m) (h2 : ρ y = .int .i64 n) (h : -9223372036854775808 ≤ m + n ∧ m + n ≤ 9223372036854775807) : pstep ρ (.bin .add x y) = some (.int .i64 (m + n)) := by
  simp [pstep, h1, h2, xbin, xint, wrap_i64 h]
theorem pSub {m n : Int} (h1 : ρ x = .int .i64 m) (h2 : ρ y = .int .i64 n) (h : -9223372036854775808 ≤ m - n ∧ m - n ≤ 9223372036854775807) : pstep ρ (.bin .sub x y) = some (.int .i64 (m - n)) := by
  simp [pstep, h1, h2, xbin, xint, wrap_i64 h]
theorem pMul {m n : Int} (h1 : ρ x = .int .i64 m) (h2 : ρ y = .int .i64 n) (h : -9223372036854775808 ≤ m * n ∧ m * n ≤ 9223372036854775807) : pstep ρ (.bin .mul x y) = some (.int .i64 (m * n)) := by
  simp [pstep, h1, h2, xbin, xint, wrap_i64 h]
/-- a counter goes up -/
theorem pInc {k : Nat} (h1 : ρ x = .int .i64 (k : Int)) (h2 : ρ y = .int .i64 1) (h : k < 9223372036854775807) : pstep ρ (.bin .add x y) = some (.int .i64 ((k + 1 : Nat) : Int)) := by
  rw [pAdd h1 h2 (by omega)]; simp
theorem pDec {k : Nat} (h1 : ρ x = .int .i64 (k : Int)) (h2 : ρ y = .int .i64 1) (h : 1 ≤ k ∧ k ≤ 9223372036854775807) : pstep ρ (.bin .sub x y) = some (.int .i64 ((k - 1 : Nat) : Int)) := by
  rw [pSub h1 h2 (by omega)]
  congr 2; omega
theorem pAddN {j k : Nat} (h1 : ρ x = .int .i64 (j : Int)) (h2 : ρ y = .int .i64 (k : Int)) (h : j + k ≤ 9223372036854775807) : pstep ρ (.bin .add x y) = some (.int .i64 ((j + k : Nat) : Int)) := by
  rw [pAdd h1 h2 (by omega)]; simp

theorem pIx {p o len cap size : Nat} {q : IntKind} {k : Int} (h1 : ρ x = .slice (some ⟨p, o, none⟩) len cap) (h2 : ρ i = .int q k) (h : 0 ≤ k ∧ k < (len : Int)) : pstep ρ (.iadr x i size) = some (.pointer (some ⟨p, o + k.toNat * size, none⟩)) := by
  simp [pstep, h1, h2, h]
theorem pIxN {p o len cap size : Nat} {q : IntKind} {k : Nat} (h1 : ρ x = .slice (some ⟨p, o, none⟩) len cap) (h2 : ρ i = .int q (k : Int)) (h : k < len) : pstep ρ (.iadr x i size) = some (.pointer (some ⟨p, o + k * size, none⟩)) := by
  rw [pIx h1 h2 (by omega)]; simp
theorem pAx {p o len size : Nat} {q : IntKind} {k : Int} (h1 : ρ x = .pointer (some ⟨p, o, none⟩)) (h2 : ρ i = .int q k) (h : 0 ≤ k ∧ k < (len : Int)) : pstep ρ (.aadr x i len size) = some (.pointer (some ⟨p, o + k.toNat * size, none⟩)) := by
  simp [pstep, h1, h2, h]
theorem pSIx {s : ByteArray} {q : IntKind} {k : Nat} (h1 : ρ x = .string s) (h2 : ρ i = .int q (k : Int)) (h : k < s.size) : pstep ρ (.sidx x i) = some (.int .u8 (s[k].toNat : Int)) := by
  simp [pstep, h1, h2, h]

theorem pSlTo {p : Option Addr} {len cap size j : Nat} {q : IntKind} (h1 : ρ x = .slice p len cap) (h2 : ρ i = .int q (j : Int)) (h : j ≤ cap) : pstep ρ (.slc size x none (some i) none) = some (.slice p j cap) := by
  have : (if cap = 0 then p else p.map (fun a => a.add 0)) = p := by
    cases p <;> simp [Addr.add]
  have hb : (0 : Int) ≤ j ∧ (j : Int) ≤ cap := by omega
  simp [pstep, h1, bndV, h2, asI, bnd, bnd1, h, this]
theorem pSlFrom {p o len cap size j : Nat} {q : IntKind} (h1 : ρ x = .slice (some ⟨p, o, none⟩) len cap) (h2 : ρ i = .int q (j : Int)) (h : j ≤ len) :
    pstep ρ (.slc size x (some i) none none) = some (.slice (some ⟨p, if cap = j then o else o + j * size, none⟩) (len - j) (cap - j)) := by
  have : (if cap = j then some (⟨p, o, none⟩ : Addr) else (some (⟨p, o, none⟩ : Addr)).map (fun a => a.add (j * size))) = some ⟨p, if cap = j then o else o + j * size, none⟩ := by
    split <;> simp [add_plain]
  have hb : (0 : Int) ≤ j ∧ (j : Int) ≤ len := by omega
  simp only [pstep, h1, bndV, h2, asI, bnd, bnd1, hb, Option.isSome_none, Bool.false_eq_true, if_false, Option.bind_some, Int.toNat_natCast, and_self, if_true, this]
theorem pSlFT {p o len cap size j k : Nat} {q q' : IntKind} {i' : Operand} (h1 : ρ x = .slice (some ⟨p, o, none⟩) len cap) (h2 : ρ i = .int q (j : Int)) (h2' : ρ i' = .int q' (k : Int)) (h : j ≤ k ∧ k ≤ cap) :
    pstep ρ (.slc size x (some i) (some i') none) = some (.slice (some ⟨p, if cap = j then o else o + j * size, none⟩) (k - j) (cap - j)) := by
  have : (if cap = j then some (⟨p, o, none⟩ : Addr) else (some (⟨p, o, none⟩ : Addr)).map (fun a => a.add (j * size))) = some ⟨p, if cap = j then o else o + j * size, none⟩ := by
    split <;> simp [add_plain]
  have hb : (0 : Int) ≤ j ∧ (j : Int) ≤ k := by omega
  have hb' : (0 : Int) ≤ k ∧ (k : Int) ≤ cap := by omega
  simp only [pstep, h1, bndV, h2, h2', asI, bnd, bnd1, hb, hb', Option.bind_some, Int.toNat_natCast, and_self, if_true, this]

theorem pSsTo {s : ByteArray} {j : Nat} {q : IntKind} (h1 : ρ x = .string s) (h2 : ρ i = .int q (j : Int)) (h : j ≤ s.size) : pstep ρ (.sslc x none (some i)) = some (.string (s.extract 0 j)) := by
  have hb : (0 : Int) ≤ j ∧ (j : Int) ≤ s.size := by omega
  simp only [pstep, h1, bndV, h2, asI, bnd, bnd1, hb, Option.bind_some, Int.toNat_natCast, and_self, if_true]
theorem pSsFrom {s : ByteArray} {j : Nat} {q : IntKind} (h1 : ρ x = .string s) (h2 : ρ i = .int q (j : Int)) (h : j ≤ s.size) : pstep ρ (.sslc x (some i) none) = some (.string (s.extract j s.size)) := by
  have hb : (0 : Int) ≤ j ∧ (j : Int) ≤ s.size := by omega
  simp only [pstep, h1, bndV, h2, asI, bnd, bnd1, hb, Bool.false_eq_true, if_false, Option.bind_some, Int.toNat_natCast, and_self, if_true]
theorem pSsFT {s : ByteArray} {j k : Nat} {q q' : IntKind} {i' : Operand} (h1 : ρ x = .string s) (h2 : ρ i = .int q (j : Int)) (h2' : ρ i' = .int q' (k : Int)) (h : j ≤ k ∧ k ≤ s.size) : pstep ρ (.sslc x (some i) (some i')) = some (.string (s.extract j k)) := by
  have hb : (0 : Int) ≤ j ∧ (j : Int) ≤ k := by omega
  have hb' : (0 : Int) ≤ k ∧ (k : Int) ≤ s.size := by omega
  simp only [pstep, h1, bndV, h2, h2', asI, bnd, bnd1, hb, hb', Option.bind_some, Int.toNat_natCast, and_self, if_true]

theorem pSl3 {p o len cap size j k m : Nat} {q q' q'' : IntKind} {i' i'' : Operand} (h1 : ρ x = .slice (some ⟨p, o, none⟩) len cap) (h2 : ρ i = .int q (j : Int)) (h2' : ρ i' = .int q' (k : Int)) (h2'' : ρ i'' = .int q'' (m : Int)) (h : j ≤ k ∧ k ≤ m ∧ m ≤ cap) :
    pstep ρ (.slc size x (some i) (some i') (some i'')) = some (.slice (some ⟨p, if m = j then o else o + j * size, none⟩) (k - j) (m - j)) := by
  have : (if m = j then some (⟨p, o, none⟩ : Addr) else (some (⟨p, o, none⟩ : Addr)).map (fun a => a.add (j * size))) = some ⟨p, if m = j then o else o + j * size, none⟩ := by
    split <;> simp [add_plain]
  have hb : (0 : Int) ≤ j ∧ (j : Int) ≤ k := by omega
  have hb' : (0 : Int) ≤ k ∧ (k : Int) ≤ m := by omega
  have hb'' : (0 : Int) ≤ m ∧ (m : Int) ≤ cap := by omega
  simp only [pstep, h1, bndV, h2, h2', h2'', asI, bnd, bnd1, hb, hb', hb'', Option.bind_some, Int.toNat_natCast, and_self, if_true, this]
theorem pLen {p : Option Addr} {n m : Nat} (h : ρ x = .slice p n m) : pstep ρ (.len x) = some (.int .i64 (n : Int)) := by simp [pstep, h]
theorem pCap {p : Option Addr} {n m : Nat} (h : ρ x = .slice p n m) : pstep ρ (.cap x) = some (.int .i64 (m : Int)) := by simp [pstep, h]
theorem pLenS {s : ByteArray} (h : ρ x = .string s) : pstep ρ (.slen x) = some (.int .i64 (s.size : Int)) := by simp [pstep, h]
theorem pLt {k : IntKind} {a b : Int} (h1 : ρ x = .int k a) (h2 : ρ y = .int k b) : pstep ρ (.bin .lss x y) = some (.bool (decide (a < b))) := by simp [pstep, h1, h2, xbin, xint]
theorem pLe {k : IntKind} {a b : Int} (h1 : ρ x = .int k a) (h2 : ρ y = .int k b) : pstep ρ (.bin .leq x y) = some (.bool (decide (a ≤ b))) := by simp [pstep, h1, h2, xbin, xint]
theorem pGt {k : IntKind} {a b : Int} (h1 : ρ x = .int k a) (h2 : ρ y = .int k b) : pstep ρ (.bin .gtr x y) = some (.bool (decide (b < a))) := by simp [pstep, h1, h2, xbin, xint]
theorem pGe {k : IntKind} {a b : Int} (h1 : ρ x = .int k a) (h2 : ρ y = .int k b) : pstep ρ (.bin .geq x y) = some (.bool (decide (b ≤ a))) := by simp [pstep, h1, h2, xbin, xint]
theorem pEq {k : IntKind} {a b : Int} (h1 : ρ x = .int k a) (h2 : ρ y = .int k b) : pstep ρ (.bin .eql x y) = some (.bool (decide (a = b))) := by simp [pstep, h1, h2, xbin, xint]
theorem pNe {k : IntKind} {a b : Int} (h1 : ρ x = .int k a) (h2 : ρ y = .int k b) : pstep ρ (.bin .neq x y) = some (.bool (!decide (a = b))) := by simp [pstep, h1, h2, xbin, xint]
theorem pNot {b : Bool} (h1 : ρ x = .bool b) : pstep ρ (.un .not x) = some (.bool (!b)) := by simp [pstep, h1]
theorem pFadr {b o off : Nat} (h : ρ x = .pointer (some ⟨b, o, none⟩)) : pstep ρ (.fadr x off) = some (.pointer (some ⟨b, o + off, none⟩)) := by simp [pstep, h]
theorem pNilc {a : Addr} (h : ρ x = .pointer (some a)) : pstep ρ (.nilc x) = some (.pointer (some a)) := by simp [pstep, h]
theorem pNilP {p : Option Addr} (h1 : ρ x = .pointer p) (h2 : ρ y = .pointer none) : pstep ρ (.eqn 0 false x y) = some (.bool p.isNone) := by
  cases p <;> simp [pstep, h1, h2, xeqn]
theorem pNilPn {p : Option Addr} (h1 : ρ x = .pointer p) (h2 : ρ y = .pointer none) : pstep ρ (.eqn 0 true x y) = some (.bool (!p.isNone)) := by
  cases p <;> simp [pstep, h1, h2, xeqn]
theorem pExt {vs : Array Value} {i : Nat} {v : Value} (h : ρ x = .tuple vs) (hv : vs.toList[i]? = some v) : pstep ρ (.ext x i) = some v := by simp [pstep, h]; simpa using hv

theorem pNilS {p : Option Addr} {n m n' m' : Nat} (h1 : ρ x = .slice p n m) (h2 : ρ y = .slice none n' m') : pstep ρ (.eqn 1 false x y) = some (.bool p.isNone) := by
  cases p <;> simp [pstep, h1, h2, xeqn]
theorem pNilSn {p : Option Addr} {n m n' m' : Nat} (h1 : ρ x = .slice p n m) (h2 : ρ y = .slice none n' m') : pstep ρ (.eqn 1 true x y) = some (.bool (!p.isNone)) := by
  cases p <;> simp [pstep, h1, h2, xeqn]
end

section
variable {P : Program} {r : Option Nat} {n : Nat} {Q : Exit → Env → Segs → Prop} {E : Env} {S : Segs} {K : Env → Segs → Prop}

/-! ### what is of no use is forgotten -/
def Junk (S S0 : Segs) : Prop := ∃ G : List Chunk, S.flatten.Perm (S0.flatten ++ G)
theorem Junk.of {S S0 G : Segs} [h : Sub S S0 G] : Junk S S0 := ⟨_, h.perm⟩
theorem Junk.self {S : Segs} : Junk S S := ⟨[], by simp⟩
theorem Junk.trans {S S0 S1 : Segs} (h : Junk S S0) (k : Junk S0 S1) : Junk S S1 := by
  obtain ⟨G, hG⟩ := h
  obtain ⟨G', hG'⟩ := k
  refine ⟨G' ++ G, hG.trans ?_⟩
  rw [← List.append_assoc]
  exact hG'.append_right _
theorem Junk.sat {S S0 F : Segs} {w : World} (h : Junk S S0) (hs : Sat (S ++ F) w) : Sat (S0 ++ F) w := by
  obtain ⟨G, hG⟩ := h
  have h1 : SatL ((S0.flatten ++ F.flatten) ++ G) w := by
    refine SatL.perm hs ?_
    rw [List.flatten_append]
    refine (hG.append_right _).trans ?_
    rw [List.append_assoc, List.append_assoc]
    exact List.perm_append_comm.append_left _
  have := SatL.sub h1 (List.sublist_append_left _ G)
  show SatL _ w
  rw [List.flatten_append]
  exact this
section
variable {P : Program} {r : Option Nat} {n : Nat} {Q : Exit → Env → Segs → Prop} {E : Env} {S S0 : Segs} {K : Env → Segs → Prop}
theorem yforget {x : XCode} (j : Junk S S0) (h : Y P r n x Q E S0) : Y P r n x Q E S :=
  fun c hc D F a w hs => h c hc D F a w ⟨hs.size, hs.env, hs.defers, j.sat hs.sat⟩
theorem ylforget {l : List XOper} (j : Junk S S0) (h : YL P r n l K E S0) : YL P r n l K E S :=
  fun ops l' hl D F a w hs => h ops l' hl D F a w ⟨hs.size, hs.env, hs.defers, j.sat hs.sat⟩
theorem Tri.forget {f : FuncId} {args : Array Value} {R : Value → Segs → Prop} (h : Tri P f args S (fun v S' => ∃ S'', Junk S' S'' ∧ R v S'')) : Tri P f args S R :=
  ⟨h.ent, fun F w hs => (h.run F w hs).mono fun _ _ ⟨x, v, _S', e, s, S'', j, q⟩ => ⟨x, v, S'', e, j.sat s, q⟩⟩
end

/-! ### a frame of which so much is known -/
def puts : List (Nat × Value) → Env → Env
  | [], E => E
  | (k, v) :: l, E => upd (puts l E) k v
def Has (E : Env) : List (Nat × Value) → Prop
  | [] => True
  | (k, v) :: l => E k = v ∧ Has E l
theorem puts_same : ∀ {l : List (Nat × Value)} {E : Env}, Has E l → puts l E = E
  | [], E, _ => rfl
  | (k, v) :: l, E, ⟨h, hl⟩ => by
    rw [puts, puts_same hl]
    funext t
    unfold upd
    split
    · next ht => rw [← ht, h]
    · rfl
theorem has_puts {l : List (Nat × Value)} {E : Env} (h : Has E l) : ∃ E0, E = puts l E0 := ⟨E, (puts_same h).symm⟩

/-- forget all of the frame but what is named in the goal's own facts -/
theorem yany {x : XCode} {p : Env → Prop} (h0 : p E) (h : ∀ E, p E → Y P r n x Q E S) : Y P r n x Q E S := h E h0
end
section
variable {P : Program} {E : Env} {S : Segs} {N : Env → Segs → Prop} {Q : Exit → Env → Segs → Prop}
theorem tnorm (h : N E S) : thenQ N Q .normal E S := h
theorem tret (h : Q .ret E S) : thenQ N Q .ret E S := h
theorem texit {id : Nat} (h : Q (.exit id) E S) : thenQ N Q (.exit id) E S := h
theorem bnorm {id : Nat} (h : Q .normal E S) : blockQ id Q .normal E S := h
theorem bret {id : Nat} (h : Q .ret E S) : blockQ id Q .ret E S := h
theorem bexit {id : Nat} (h : Q .normal E S) : blockQ id Q (.exit id) E S := by simpa [blockQ] using h
theorem bexitN {id id' : Nat} (hne : (id' == id) = false) (h : Q (.exit id') E S) : blockQ id Q (.exit id') E S := by
  have : id' ≠ id := by simpa using hne
  simpa [blockQ, this] using h
end
section
variable {P : Program} {r : Option Nat} {n : Nat} {K : Env → Segs → Prop} {E : Env} {S : Segs} {d : Option Tmp}
theorem yboxI {t : TypeId} {x : Operand} {k : IntKind} {a : Int} (hv : ev E x = .int k a) (h : ∀ b, K (putE d (.pointer (some ⟨b, 0, none⟩)) E) ([(b, .cells #[.int k a] t)] :: S)) : YO P r n d (.box t x) K E S := ybox (vs := [.int k a]) (by rw [hv]; rfl) h
theorem yboxB {t : TypeId} {x : Operand} {a : Bool} (hv : ev E x = .bool a) (h : ∀ b, K (putE d (.pointer (some ⟨b, 0, none⟩)) E) ([(b, .cells #[.bool a] t)] :: S)) : YO P r n d (.box t x) K E S := ybox (vs := [.bool a]) (by rw [hv]; rfl) h
theorem yboxP {t : TypeId} {x : Operand} {a : Option Addr} (hv : ev E x = .pointer a) (h : ∀ b, K (putE d (.pointer (some ⟨b, 0, none⟩)) E) ([(b, .cells #[.pointer a] t)] :: S)) : YO P r n d (.box t x) K E S := ybox (vs := [.pointer a]) (by rw [hv]; rfl) h
theorem yboxS {t : TypeId} {x : Operand} {a : Option Addr} {m c : Nat} (hv : ev E x = .slice a m c) (h : ∀ b, K (putE d (.pointer (some ⟨b, 0, none⟩)) E) ([(b, .cells #[.slice a m c] t)] :: S)) : YO P r n d (.box t x) K E S := ybox (vs := [.slice a m c]) (by rw [hv]; rfl) h
theorem yboxF {t : TypeId} {x : Operand} {a : Fn} {m c : Array Value} (hv : ev E x = .func a m c) (h : ∀ b, K (putE d (.pointer (some ⟨b, 0, none⟩)) E) ([(b, .cells #[.func a m c] t)] :: S)) : YO P r n d (.box t x) K E S := ybox (vs := [.func a m c]) (by rw [hv]; rfl) h
theorem yboxG {t : TypeId} {x : Operand} {c : List Value} (hv : ev E x = .agg c.toArray) (h : ∀ b, K (putE d (.pointer (some ⟨b, 0, none⟩)) E) ([(b, .cells c.toArray t)] :: S)) : YO P r n d (.box t x) K E S := ybox (vs := c) (by rw [hv]; rfl) h
end
section
variable {P : Program} {E : Env} {S : Segs}
theorem rI {t : Tmp} {k : IntKind} {a : Int} (hv : E t = .int k a) : Res P #[.tmp t] E S (.int k a) := res1 hv
theorem rB {t : Tmp} {b : Bool} (hv : E t = .bool b) : Res P #[.tmp t] E S (.bool b) := res1 hv
theorem rP {t : Tmp} {p : Option Addr} (hv : E t = .pointer p) : Res P #[.tmp t] E S (.pointer p) := res1 hv
theorem rS {t : Tmp} {p : Option Addr} {n m : Nat} (hv : E t = .slice p n m) : Res P #[.tmp t] E S (.slice p n m) := res1 hv
theorem rF {t : Tmp} {p : Fn} {n m : Array Value} (hv : E t = .func p n m) : Res P #[.tmp t] E S (.func p n m) := res1 hv
theorem rIB {t u : Tmp} {k : IntKind} {a : Int} {b : Bool} (hv : E t = .int k a) (hv' : E u = .bool b) : Res P #[.tmp t, .tmp u] E S (.tuple #[.int k a, .bool b]) := res2 hv hv'
theorem rII {t u : Tmp} {k k' : IntKind} {a b : Int} (hv : E t = .int k a) (hv' : E u = .int k' b) : Res P #[.tmp t, .tmp u] E S (.tuple #[.int k a, .int k' b]) := res2 hv hv'
theorem rSB {t u : Tmp} {p : Option Addr} {n m : Nat} {b : Bool} (hv : E t = .slice p n m) (hv' : E u = .bool b) : Res P #[.tmp t, .tmp u] E S (.tuple #[.slice p n m, .bool b]) := res2 hv hv'
end
section
variable {P : Program} {E : Env} {S : Segs}
/-- once more -/
theorem yagain {σ : Type} {I : σ → Env → Segs → Prop} {μ : σ → Nat} {s : σ} {Q : Exit → Env → Segs → Prop} (s' : σ) (h : I s' E S) (hlt : μ s' < μ s) : thenQ (fun E' S' => ∃ s', I s' E' S' ∧ μ s' < μ s) Q .normal E S := ⟨s', h, hlt⟩
end
/-- what is left of code behind so many parts -/
def tl : Nat → XCode → XCode
  | 0, x => x
  | n + 1, .seq _ b => tl n b
  | _ + 1, x => x
end Go.Xs
