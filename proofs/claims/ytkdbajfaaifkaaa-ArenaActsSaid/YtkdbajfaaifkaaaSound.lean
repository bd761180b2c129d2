/- The computing operations: what the function on values says is what the model does. -/
import Derived.Test.YtkdbajfaaifkaaaAst
namespace Go.Xs

section
variable {P : Program} {ρ : Operand → Value} {w : World} {d : Option Tmp} {pos : String} {af : Array Edge} {g : Option (Nat × Bool)} {ty : TypeId} {v : Value}

theorem add_plain (b off i : Nat) : Addr.add ⟨b, off, none⟩ i = ⟨b, off + i, none⟩ := by
  unfold Addr.add; split <;> simp_all

/-- the operation in its record -/
abbrev mk (d : Option Tmp) (op : Op) (ty : TypeId) (pos : String) (af : Array Edge) (g : Option (Nat × Bool)) : Oper := ⟨d, op, ty, pos, af, g⟩

theorem run_underlying {t : TypeId} {x : TypeDesc} (h : P.underlying t = some x) (w : World) : (underlying t).run P w = .ok x w := by
  simp [underlying, program, Sem.run_bind, Sem.run, Result.andThen, h, pure]
theorem run_sizeOf {t : TypeId} {k : Nat} (h : sizeOf? P t = some k) (w : World) : (sizeOf t).run P w = .ok k w := by
  unfold sizeOf? at h
  cases hi : P.info? t with
  | none => simp [hi] at h
  | some i =>
    simp only [hi, Option.map_some, Option.some.injEq] at h
    simp [sizeOf, typeInfo, program, Sem.run_bind, Sem.run, Result.andThen, hi, pure, h]
theorem run_isAgg {t : TypeId} {b : Bool} (h : isAgg? P t = some b) (w : World) : (isAgg t).run P w = .ok b w := by
  unfold isAgg? at h
  cases hu : P.underlying t with
  | none => simp [hu] at h
  | some x =>
    have := run_underlying hu w
    unfold isAgg
    rw [Sem.run_bind, this]
    simp only [hu] at h
    cases x <;> simp_all [Result.andThen, pure]

theorem run_asIntOf {x : Value} {k : IntKind} {a : Int} (h : x = .int k a) (w : World) : (asIntOf x).run P w = .ok (k, a) w := by subst h; simp [asIntOf, pure]

theorem fieldPlace_run {a : Addr} {f : Field} {k : Nat} (h : sizeOf? P f.type = some k) (hk : k ≠ 0) (w : World) : (fieldPlace a f).run P w = .ok (a.add f.offset) w := by
  simp [fieldPlace, Sem.run_bind, run_sizeOf h, Result.andThen, hk, pure]

theorem s_fieldAddr {s : TypeId} {x : Operand} {f : Nat} (h : pstep ρ (cop P (.fieldAddr s x f) ty) = some v) : (execOp ρ (mk d (.fieldAddr s x f) ty pos af g)).run P w = .ok (.value v) w := by
  simp only [cop] at h
  cases hu : P.underlying s with
  | none => simp [hu, pstep] at h
  | some t =>
    simp only [hu] at h
    cases t <;> try (simp [pstep] at h; done)
    rename_i fs
    cases hf : fs[f]? with
    | none => simp [hf, pstep] at h
    | some fd =>
      simp only [hf] at h
      cases hs : sizeOf? P fd.type with
      | none => simp [hs, pstep] at h
      | some k =>
        cases k with
        | zero => simp [hs, pstep] at h
        | succ k =>
          simp only [hs, pstep] at h
          split at h
          · rename_i b o hx
            simp only [Option.some.injEq] at h
            subst h
            simp [execOp, Instr.fieldAt, Sem.run_bind, run_underlying hu, Result.andThen, hf, hx, Instr.sureAddr, pure, Sem.run, fieldPlace_run hs, add_plain]
          · cases h

theorem s_move {x : Operand} (h : pstep ρ (cop P (.move x) ty) = some v) : (execOp ρ (mk d (.move x) ty pos af g)).run P w = .ok (.value v) w := by
  simp only [cop, pstep, Option.some.injEq] at h; subst h; simp [execOp, pure]
theorem s_assign {x : Operand} (h : pstep ρ (cop P (.assign x) ty) = some v) : (execOp ρ (mk d (.assign x) ty pos af g)).run P w = .ok (.value v) w := by
  simp only [cop, pstep, Option.some.injEq] at h; subst h; simp [execOp, pure]
theorem s_pick {c x y : Operand} (h : pstep ρ (cop P (.pick c x y) ty) = some v) : (execOp ρ (mk d (.pick c x y) ty pos af g)).run P w = .ok (.value v) w := by
  simp only [cop, pstep] at h
  split at h
  · rename_i hc
    simp only [Option.some.injEq] at h; subst h
    simp [execOp, hc, asBool, Sem.run_bind, Result.andThen, pure, Sem.run]
  · rename_i hc
    simp only [Option.some.injEq] at h; subst h
    simp [execOp, hc, asBool, Sem.run_bind, Result.andThen, pure, Sem.run]
  · cases h
theorem s_nilCheck {x : Operand} (h : pstep ρ (cop P (.nilCheck x) ty) = some v) : (execOp ρ (mk d (.nilCheck x) ty pos af g)).run P w = .ok (.value v) w := by
  simp only [cop, pstep] at h
  split at h <;> first | (rename_i hx; simp only [Option.some.injEq] at h; subst h; simp [execOp, hx, pure]) | cases h
theorem s_extract {x : Operand} {i : Nat} (h : pstep ρ (cop P (.extract x i) ty) = some v) : (execOp ρ (mk d (.extract x i) ty pos af g)).run P w = .ok (.value v) w := by
  simp only [cop, pstep] at h
  split at h
  · rename_i vs hx
    simp [execOp, hx, Instr.extract, h, pure, Sem.run]
  · cases h
theorem s_makeFunc {fn : Fn} {first cap : Array Operand} (h : pstep ρ (cop P (.makeFunc fn first cap) ty) = some v) : (execOp ρ (mk d (.makeFunc fn first cap) ty pos af g)).run P w = .ok (.value v) w := by
  simp only [cop, pstep, Option.some.injEq] at h; subst h
  simp [execOp, Instr.makeFunc, pure, Sem.run]
  constructor <;> (apply Array.ext'; simp)
theorem s_unOp {o : UnOp} {t : TypeId} {x : Operand} (h : pstep ρ (cop P (.unOp o t x) ty) = some v) : (execOp ρ (mk d (.unOp o t x) ty pos af g)).run P w = .ok (.value v) w := by
  simp only [cop, pstep] at h
  split at h
  · rename_i b hx; simp only [Option.some.injEq] at h; subst h; simp [execOp, hx, Op.unary, pure, Sem.run]
  · rename_i k a hx; simp only [Option.some.injEq] at h; subst h; simp [execOp, hx, Op.unary, Op.intArith, pure, Sem.run]
  · cases h

theorem s_field {s : TypeId} {x : Operand} {f : Nat} (h : pstep ρ (cop P (.field s x f) ty) = some v) : (execOp ρ (mk d (.field s x f) ty pos af g)).run P w = .ok (.value v) w := by
  simp only [cop] at h
  cases hu : P.underlying s with
  | none => simp [hu, pstep] at h
  | some t =>
    simp only [hu] at h
    cases t <;> try (simp [pstep] at h; done)
    rename_i fs
    cases hf : fs[f]? with
    | none => simp [hf, pstep] at h
    | some fd =>
      simp only [hf] at h
      cases ha : isAgg? P fd.type with
      | none => simp [ha, pstep] at h
      | some b =>
        cases b with
        | true =>
          cases hs : sizeOf? P fd.type with
          | none => simp [ha, hs, pstep] at h
          | some k =>
            simp only [ha, hs, pstep] at h
            split at h
            · rename_i cs hx
              simp only [Option.some.injEq] at h
              subst h
              simp [execOp, Instr.field, Sem.run_bind, run_underlying hu, Result.andThen, hf, hx, asAgg, part, run_isAgg ha, run_sizeOf hs, pure, Sem.run]
            · cases h
        | false =>
          simp only [ha, pstep] at h
          split at h
          · rename_i cs hx
            simp [execOp, Instr.field, Sem.run_bind, run_underlying hu, Result.andThen, hf, hx, asAgg, part, run_isAgg ha, h, pure, Sem.run]
          · cases h

theorem s_indexAddr {t : TypeId} {x i : Operand} (h : pstep ρ (cop P (.indexAddr t x i) ty) = some v) : (execOp ρ (mk d (.indexAddr t x i) ty pos af g)).run P w = .ok (.value v) w := by
  simp only [cop] at h
  cases hu : P.underlying t with
  | none => simp [hu, pstep] at h
  | some u =>
    simp only [hu] at h
    cases u <;> try (simp [pstep] at h; done)
    · rename_i e
      cases hs : sizeOf? P e with
      | none => simp [hs, pstep] at h
      | some k =>
        simp only [hs, pstep] at h
        split at h
        · rename_i b o len cap q j hx hi
          split at h
          · rename_i hb
            simp only [Option.some.injEq] at h
            subst h
            simp [execOp, Instr.indexAt, Sem.run_bind, run_underlying hu, Result.andThen, hx, hi, asIntOf, run_sizeOf hs, hb, add_plain, pure, Sem.run]
          · cases h
        · cases h
    · rename_i n e
      cases hs : sizeOf? P e with
      | none => simp [hs, pstep] at h
      | some k =>
        simp only [hs, pstep] at h
        split at h
        · rename_i b o q j hx hi
          split at h
          · rename_i hb
            simp only [Option.some.injEq] at h
            subst h
            simp [execOp, Instr.indexAt, Sem.run_bind, run_underlying hu, Result.andThen, hx, hi, asIntOf, run_sizeOf hs, hb, Instr.sureAddr, add_plain, pure, Sem.run]
          · cases h
        · cases h

theorem s_index {t : TypeId} {x i : Operand} (h : pstep ρ (cop P (.index t x i) ty) = some v) : (execOp ρ (mk d (.index t x i) ty pos af g)).run P w = .ok (.value v) w := by
  simp only [cop] at h
  cases hu : P.underlying t with
  | none => simp [hu, pstep] at h
  | some u =>
    simp only [hu] at h
    cases u <;> try (simp [pstep] at h; done)
    simp only [pstep] at h
    split at h
    · rename_i s q j hx hi
      split at h
      · rename_i hb
        split at h
        · rename_i b hbt
          simp only [Option.some.injEq] at h
          subst h
          simp [execOp, Instr.index, Sem.run_bind, run_underlying hu, Result.andThen, hx, hi, asIntOf, hb, hbt, pure, Sem.run]
        · cases h
      · cases h
    · cases h

theorem run_sliceBound {x : Value} {y : Nat} {code : BoundsCode} {a : Int} (hx : asI x = some a) (hb : 0 ≤ a ∧ a ≤ y) (w : World) : (Instr.sliceBound x y code).run P w = .ok a.toNat w := by
  cases x <;> simp [asI] at hx
  subst hx
  simp [Instr.sliceBound, asIntOf, Sem.run_bind, Result.andThen, hb, pure, Sem.run]

theorem bndV_cases {o : Option Operand} {r : Option Int} (ho : bndV ρ o = some r) : (o = none ∧ r = none) ∨ ∃ x a, o = some x ∧ r = some a ∧ asI (ρ x) = some a := by
  cases o with
  | none => simp [bndV] at ho; exact .inl ⟨rfl, ho.symm⟩
  | some x =>
    simp only [bndV] at ho
    split at ho
    · rename_i a ha; simp only [Option.some.injEq] at ho; exact .inr ⟨x, a, rfl, ho.symm, ha⟩
    · cases ho

theorem bnd1_some {a : Int} {y : Nat} {dflt : Option Nat} {k : Nat} (h : bnd1 (some a) y dflt = some k) : (0 ≤ a ∧ a ≤ (y : Int)) ∧ a.toNat = k := by
  simp only [bnd1] at h
  split at h
  · rename_i hb; simp only [Option.some.injEq] at h; exact ⟨hb, h⟩
  · cases h

theorem run_sliceBounds {isS : Bool} {len cap : Nat} {lo hi mx : Option Operand} {lo' hi' mx' : Option Int} {l h' m : Nat}
    (h1 : bndV ρ lo = some lo') (h2 : bndV ρ hi = some hi') (h3 : bndV ρ mx = some mx') (hb : bnd lo' hi' mx' len cap mx.isSome = some (l, h', m)) (w : World) :
    (Instr.sliceBounds isS len cap (lo.map ρ) (hi.map ρ) (mx.map ρ)).run P w = .ok (l, h', m) w := by
  simp only [bnd, Option.bind_eq_some_iff, Option.some.injEq, Prod.mk.injEq] at hb
  obtain ⟨m', hm, hh', hh, ll, hl, rfl, rfl, rfl⟩ := hb
  rcases bndV_cases h1 with ⟨rfl, rfl⟩ | ⟨xl, al, rfl, rfl, vl⟩ <;> rcases bndV_cases h2 with ⟨rfl, rfl⟩ | ⟨xh, ah, rfl, rfl, vh⟩ <;> rcases bndV_cases h3 with ⟨rfl, rfl⟩ | ⟨xm, am, rfl, rfl, vm⟩
  all_goals (try (obtain ⟨bl, rfl⟩ := bnd1_some hl))
  all_goals (try (obtain ⟨bh, rfl⟩ := bnd1_some hh))
  all_goals (try (obtain ⟨bm, rfl⟩ := bnd1_some hm))
  all_goals (try (simp only [bnd1, Option.some.injEq] at hl))
  all_goals (try (simp only [bnd1, Option.isSome_none, Option.isSome_some, Bool.false_eq_true, if_false, if_true, Option.some.injEq] at hh))
  all_goals (try (simp only [bnd1, Option.some.injEq] at hm))
  all_goals (try (cases hh; done))
  all_goals (try subst hl)
  all_goals (try subst hh)
  all_goals (try subst hm)
  all_goals (simp only [Instr.sliceBounds, Option.map_none, Option.map_some, Sem.run_bind, Result.andThen, pure, Sem.run])
  all_goals (try rw [run_sliceBound vm bm])
  all_goals (try simp only)
  all_goals (try rw [run_sliceBound vh bh])
  all_goals (try simp only)
  all_goals (try rw [run_sliceBound vl bl])

theorem s_slice {t : TypeId} {x : Operand} {lo hi mx : Option Operand} (h : pstep ρ (cop P (.slice t x lo hi mx) ty) = some v) : (execOp ρ (mk d (.slice t x lo hi mx) ty pos af g)).run P w = .ok (.value v) w := by
  simp only [cop] at h
  cases hu : P.underlying t with
  | none => simp [hu, pstep] at h
  | some u =>
    simp only [hu] at h
    cases u <;> try (simp [pstep] at h; done)
    · -- a string
      by_cases hm : mx.isSome = true
      · simp [hm, pstep] at h
      · have hmx : mx = none := by cases mx <;> simp_all
        subst hmx
        simp only [Option.isSome_none, Bool.false_eq_true, if_false, pstep] at h
        split at h
        · rename_i s lo' hi' hx h1 h2
          split at h
          · rename_i l hh m hb
            simp only [Option.some.injEq] at h
            subst h
            have hr := run_sliceBounds (P := P) (isS := false) (mx := none) h1 h2 rfl hb w
            simp only [Option.map_none] at hr
            simp [execOp, Instr.sliceAt, Instr.slice, Sem.run_bind, run_underlying hu, Result.andThen, hx, hr, pure, Sem.run]
          · cases h
        · cases h
    · rename_i e
      cases hs : sizeOf? P e with
      | none => simp [hs, pstep] at h
      | some k =>
        simp only [hs, pstep] at h
        split at h
        · rename_i a len cap lo' hi' mx' hx h1 h2 h3
          split at h
          · rename_i l hh m hb
            simp only [Option.some.injEq] at h
            subst h
            have hr := run_sliceBounds (P := P) (isS := true) h1 h2 h3 hb w
            simp [execOp, Instr.sliceAt, Instr.slice, Sem.run_bind, run_underlying hu, Result.andThen, hx, hr, run_sizeOf hs, pure, Sem.run]
          · cases h
        · cases h
    · rename_i n e
      cases hs : sizeOf? P e with
      | none => simp [hs, pstep] at h
      | some k =>
        simp only [hs, pstep] at h
        split at h
        · rename_i a lo' hi' mx' hx h1 h2 h3
          split at h
          · rename_i l hh m hb
            simp only [Option.some.injEq] at h
            subst h
            have hr := run_sliceBounds (P := P) (isS := false) h1 h2 h3 hb w
            simp [execOp, Instr.sliceAt, Instr.slice, Sem.run_bind, run_underlying hu, Result.andThen, hx, hr, run_sizeOf hs, Instr.sureAddr, pure, Sem.run]
          · cases h
        · cases h

theorem s_convert {s t : TypeId} {x : Operand} (h : pstep ρ (cop P (.convert s t x) ty) = some v) : (execOp ρ (mk d (.convert s t x) ty pos af g)).run P w = .ok (.value v) w := by
  simp only [cop] at h
  split at h
  · rename_i k1 k hs ht
    simp only [pstep] at h
    split at h
    · rename_i q a hx
      simp only [Option.some.injEq] at h
      subst h
      simp [execOp, convert, Sem.run_bind, run_underlying hs, run_underlying ht, Result.andThen, hx, Conv.intToInt, pure, Sem.run]
    · cases h
  · simp [pstep] at h
  · split at h <;> simp [pstep] at h
  · split at h <;> simp [pstep] at h
  · simp [pstep] at h

theorem xint_run {op : BinOp} {k : IntKind} {a b : Int} {k' : IntKind} (hk : k = k' ∨ op = .shl ∨ op = .shr) (h : xint op k a b = some v) {t : TypeId} : (binOp op t (.int k a) (.int k' b)).run P w = .ok v w := by
  cases op <;> simp only [xint] at h <;>
    (try (split at h <;> try (cases h; done))) <;> simp only [Option.some.injEq] at h <;> subst h <;>
    (try (have hk' : k = k' := by simpa using hk)) <;> (try subst hk') <;>
    simp [binOp, Op.intArith, Op.intDiv, Op.intBits, Op.intCmp, Op.shift, xbits, pure, *]
  all_goals (try (simp [Sem.run_bind, Result.andThen, Sem.run, *]))
  all_goals (try rfl)
  all_goals (try (by_cases he : a = b <;> simp [he]))

theorem xstr_run {op : BinOp} {a b : ByteArray} (h : xstr op a b = some v) {t : TypeId} : (binOp op t (.string a) (.string b)).run P w = .ok v w := by
  have hl : (a.toList == b.toList) = decide (a = b) := by
    by_cases he : a = b
    · simp [he]
    · have : a.toList ≠ b.toList := fun hc => he (by
        rw [ByteArray.toList_eq, ByteArray.toList_eq] at hc
        cases a; cases b; simpa using hc)
      simp [he, this]
  cases op <;> simp only [xstr] at h <;> (try (cases h; done))
  · split at h
    · rename_i hb
      simp only [Option.some.injEq] at h; subst h
      have : ¬ ((a.size + b.size : Nat) : Int) > IntKind.i64.max := by simp [IntKind.max, IntKind.signed, IntKind.bits]; omega
      simp [binOp, Op.stringOp, pure, Sem.run]
      omega
    · cases h
  all_goals (simp only [Option.some.injEq] at h; subst h; simp [binOp, Op.stringOp, hl, pure])

theorem run_program (w : World) : (program).run P w = .ok P w := by simp [program, Sem.run]
theorem eqn_p1 {t e : TypeId} (hu : P.underlying t = some (.pointer e)) (n : Nat) (b : Option Addr) (w : World) : (Op.equalIn (n + 1) t (.pointer none) (.pointer b)).run P w = .ok b.isNone w := by
  simp only [Op.equalIn, Sem.run_bind, run_underlying hu, Result.andThen_ok, pure, Sem.run]
theorem eqn_p2 {t e : TypeId} (hu : P.underlying t = some (.pointer e)) (n : Nat) (a : Addr) (w : World) : (Op.equalIn (n + 1) t (.pointer (some a)) (.pointer none)).run P w = .ok false w := by
  simp only [Op.equalIn, Sem.run_bind, run_underlying hu, Result.andThen_ok, pure, Sem.run]
theorem eqn_s1 {t e : TypeId} (hu : P.underlying t = some (.slice e)) (n : Nat) (b : Option Addr) (l c l' c' : Nat) (w : World) : (Op.equalIn (n + 1) t (.slice none l c) (.slice b l' c')).run P w = .ok b.isNone w := by
  simp only [Op.equalIn, Sem.run_bind, run_underlying hu, Result.andThen_ok, pure, Sem.run]
theorem eqn_s2 {t e : TypeId} (hu : P.underlying t = some (.slice e)) (n : Nat) (a : Addr) (l c l' c' : Nat) (w : World) : (Op.equalIn (n + 1) t (.slice (some a) l c) (.slice none l' c')).run P w = .ok false w := by
  simp only [Op.equalIn, Sem.run_bind, run_underlying hu, Result.andThen_ok, pure, Sem.run]
theorem eqn_m1 {t e e' : TypeId} (hu : P.underlying t = some (.map e e')) (n : Nat) (b : Option Nat) (w : World) : (Op.equalIn (n + 1) t (.map none) (.map b)).run P w = .ok b.isNone w := by
  simp only [Op.equalIn, Sem.run_bind, run_underlying hu, Result.andThen_ok, pure, Sem.run]
theorem eqn_m2 {t e e' : TypeId} (hu : P.underlying t = some (.map e e')) (n : Nat) (a : Nat) (w : World) : (Op.equalIn (n + 1) t (.map (some a)) (.map none)).run P w = .ok false w := by
  simp only [Op.equalIn, Sem.run_bind, run_underlying hu, Result.andThen_ok, pure, Sem.run]
theorem eqn_f1 {t : TypeId} {p q : Array TypeId} {b : Bool} (hu : P.underlying t = some (.func p q b)) (n : Nat) (w : World) : (Op.equalIn (n + 1) t .nilFunc .nilFunc).run P w = .ok true w := by
  simp only [Op.equalIn, Sem.run_bind, run_underlying hu, Result.andThen_ok, pure, Sem.run]
theorem eqn_f2 {t : TypeId} {p q : Array TypeId} {b : Bool} (hu : P.underlying t = some (.func p q b)) (n : Nat) (f : Fn) (x y : Array Value) (w : World) : (Op.equalIn (n + 1) t .nilFunc (.func f x y)).run P w = .ok false w := by
  simp only [Op.equalIn, Sem.run_bind, run_underlying hu, Result.andThen_ok, pure, Sem.run]
theorem eqn_f3 {t : TypeId} {p q : Array TypeId} {b : Bool} (hu : P.underlying t = some (.func p q b)) (n : Nat) (f : Fn) (x y : Array Value) (w : World) : (Op.equalIn (n + 1) t (.func f x y) .nilFunc).run P w = .ok false w := by
  simp only [Op.equalIn, Sem.run_bind, run_underlying hu, Result.andThen_ok, pure, Sem.run]
theorem eqn_b {t : TypeId} (hu : P.underlying t = some .bool) (n : Nat) (a b : Bool) (w : World) : (Op.equalIn (n + 1) t (.bool a) (.bool b)).run P w = .ok (a == b) w := by
  simp only [Op.equalIn, Sem.run_bind, run_underlying hu, Result.andThen_ok, pure, Sem.run]

theorem maxDepth_succ : Op.maxDepth = 9999 + 1 := rfl

/-- what == and != do where the operands are neither ints nor strings -/
theorem binEq_run {neg : Bool} {t : TypeId} {a b : Value} {r : Bool} (he : ∀ w, (Op.equalIn Op.maxDepth t a b).run P w = .ok r w)
    (hi : ∀ k x, a ≠ .int k x) (hs : ∀ x, a ≠ .string x) (hf : ∀ k x, a ≠ .float k x) (hc : ∀ k x y, a ≠ .complex k x y) (w : World) :
    (binOp (if neg then .neq else .eql) t a b).run P w = .ok (.bool (if neg then !r else r)) w := by
  cases neg <;> cases a <;> simp_all [binOp, Op.equal, Sem.run_bind, Result.andThen, pure, Sem.run]

theorem eqGuard_skip {op : BinOp} {t : TypeId} {x y : Operand} {a b : Value} (h1 : a ≠ .nilIface) (hs : (∀ cs, a ≠ .agg cs) ∨ P.eqGuardType P.depth t = false) (w : World) :
    (eqGuard op t x y a b).run P w = .ok () w := by
  unfold eqGuard
  cases op <;> cases a <;> first | (exact absurd rfl h1) | skip
  all_goals (cases b <;> first | (simp [Sem.run, pure, Sem.run_bind, Result.andThen]; done) | skip)
  all_goals (
    rcases hs with hs | hs
    · exact absurd rfl (hs _)
    · simp [pure, Sem.run_bind, Result.andThen, hs])

theorem xeqn_run {t : TypeId} {k : Nat} {x y : Value} {r : Bool} (h : xeqn k x y = some r)
    (hk : (k = 0 ∧ ∃ e, P.underlying t = some (.pointer e)) ∨ (k = 1 ∧ ∃ e, P.underlying t = some (.slice e)) ∨ (k = 2 ∧ ∃ e e', P.underlying t = some (.map e e')) ∨ (k = 3 ∧ ∃ p q b, P.underlying t = some (.func p q b))) (w : World) :
    (Op.equalIn Op.maxDepth t x y).run P w = .ok r w := by
  rw [maxDepth_succ]
  unfold xeqn at h
  rcases hk with ⟨rfl, e, hu⟩ | ⟨rfl, e, hu⟩ | ⟨rfl, e, e', hu⟩ | ⟨rfl, e, e', e'', hu⟩ <;> split at h <;> simp_all <;> subst h
  · exact eqn_p1 hu _ none w
  · exact eqn_p1 hu _ (some _) w
  · exact eqn_p2 hu _ _ w
  · exact eqn_s1 hu _ none _ _ _ _ w
  · exact eqn_s1 hu _ (some _) _ _ _ _ w
  · exact eqn_s2 hu _ _ _ _ _ _ w
  · exact eqn_m1 hu _ none w
  · exact eqn_m1 hu _ (some _) w
  · exact eqn_m2 hu _ _ w
  · exact eqn_f1 hu _ w
  · exact eqn_f2 hu _ _ _ _ w
  · exact eqn_f3 hu _ _ _ _ w
end
end Go.Xs
