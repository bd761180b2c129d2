/- The computing operations, second half: tests, struct values, built-in calls; and the whole. -/
import Derived.Test.YtkdbajfaaifkaaaSound
namespace Go.Xs
section
variable {P : Program} {ρ : Operand → Value} {w : World} {d : Option Tmp} {pos : String} {af : Array Edge} {g : Option (Nat × Bool)} {ty : TypeId} {v : Value}

theorem part_run1 {t : TypeId} {cs : Array Value} {off : Nat} {x : Value} (ha : isAgg? P t = some false) (hx : cs[off]? = some x) (w : World) : (part t cs off).run P w = .ok x w := by
  simp [part, Sem.run_bind, run_isAgg ha, Result.andThen, hx, pure]

theorem isAgg_of {t : TypeId} {x : TypeDesc} (h : P.underlying t = some x) (hx : (∃ k, x = .int k) ∨ x = .string ∨ x = .bool) : isAgg? P t = some false := by
  unfold isAgg?; rw [h]; rcases hx with ⟨k, rfl⟩ | rfl | rfl <;> rfl

theorem beq_bytes (a b : ByteArray) : (a == b) = decide (a = b) := by
  by_cases h : a = b
  · subst h; rw [beq_toListBytes]; simp
  · rw [beq_toListBytes]
    have : a.toList ≠ b.toList := fun hc => h (by rw [ByteArray.toList_eq, ByteArray.toList_eq] at hc; cases a; cases b; simpa using hc)
    simp [h, this]

theorem eq1_run {f : Field} {k : Nat} {a b : Value} {r : Bool} (h : xeq1 k a b = some r)
    (hu : (k = 0 ∧ ∃ q, P.underlying f.type = some (.int q)) ∨ (k = 1 ∧ P.underlying f.type = some .string) ∨ (k = 2 ∧ P.underlying f.type = some .bool)) (n : Nat) (w : World) : (Op.equalIn (n + 1) f.type a b).run P w = .ok r w := by
  unfold xeq1 at h
  rcases hu with ⟨rfl, q, hu⟩ | ⟨rfl, hu⟩ | ⟨rfl, hu⟩ <;> split at h <;> simp_all
  · rename_i k p k' q'
    obtain ⟨rfl, rfl⟩ := h
    rw [run_equalIn_int w n f.type k q p q' hu]; by_cases he : p = q' <;> simp [he]
  · rename_i p q'
    subst h
    rw [run_equalIn_string w n f.type p q' hu, ← beq_toListBytes, beq_bytes]
  · rename_i p q'
    subst h
    exact eqn_b hu n p q' w

theorem eqs_run (n : Nat) (xs ys : Array Value) : ∀ (fs : List Field) (l : List (Nat × Nat)) (r : Bool), flatFields P fs = some l → xeqs xs ys l = some r → ∀ w, (Op.eqFields (n + 1) xs ys fs).run P w = .ok r w
  | [], l, r, hl, hx, w => by
    simp only [flatFields, Option.some.injEq] at hl
    subst hl
    simp only [xeqs, Option.some.injEq] at hx
    subst hx
    simp [Op.eqFields, pure]
  | f :: fs, l, r, hl, hx, w => by
    simp only [flatFields] at hl
    split at hl
    · cases hl
    rename_i hname
    have key : ∀ (k : Nat) (l' : List (Nat × Nat)), flatFields P fs = some l' → l = (f.offset, k) :: l' → isAgg? P f.type = some false →
        ((k = 0 ∧ ∃ q, P.underlying f.type = some (.int q)) ∨ (k = 1 ∧ P.underlying f.type = some .string) ∨ (k = 2 ∧ P.underlying f.type = some .bool)) → (Op.eqFields (n + 1) xs ys (f :: fs)).run P w = .ok r w := by
      intro k l' hl' hll hagg hk
      subst hll
      simp only [xeqs] at hx
      split at hx
      · rename_i a b ha hb
        split at hx
        · rename_i p q hp hq
          simp only [Option.some.injEq] at hx
          subst hx
          simp only [Op.eqFields, hname, ne_eq, not_false_eq_true, if_true, Sem.run_bind, part_run1 hagg ha, part_run1 hagg hb, Result.andThen_ok, eq1_run hp hk n w]
          cases p with
          | false => simp [pure]
          | true => simpa using eqs_run n xs ys fs l' q hl' hq w
        · cases hx
      · cases hx
    split at hl
    · rename_i q l' hu hl'; simp only [Option.some.injEq] at hl; exact key 0 l' hl' hl.symm (isAgg_of hu (.inl ⟨_, rfl⟩)) (.inl ⟨rfl, q, hu⟩)
    · rename_i l' hu hl'; simp only [Option.some.injEq] at hl; exact key 1 l' hl' hl.symm (isAgg_of hu (.inr (.inl rfl))) (.inr (.inl ⟨rfl, hu⟩))
    · rename_i l' hu hl'; simp only [Option.some.injEq] at hl; exact key 2 l' hl' hl.symm (isAgg_of hu (.inr (.inr rfl))) (.inr (.inr ⟨rfl, hu⟩))
    · cases hl

theorem eqOf (neg : Bool) : (if neg then BinOp.neq else BinOp.eql) = (if neg then BinOp.neq else BinOp.eql) := rfl

theorem cEq_sound {neg : Bool} {t : TypeId} {x y : Operand} {X : XOp} (hc : cEq P neg t x y = some X) (h : pstep ρ X = some v) :
    (do eqGuard (if neg then .neq else .eql) t x y (ρ x) (ρ y); binOp (if neg then .neq else .eql) t (ρ x) (ρ y) : Sem Value).run P w = .ok v w := by
  unfold cEq at hc
  have key : ∀ {a b : Value} {r : Bool}, ρ x = a → ρ y = b → (∀ w, (Op.equalIn Op.maxDepth t a b).run P w = .ok r w) → (∀ k x, a ≠ .int k x) → (∀ x, a ≠ .string x) → (∀ k x, a ≠ .float k x) → (∀ k x y, a ≠ .complex k x y) →
      a ≠ .nilIface → ((∀ cs, a ≠ .agg cs) ∨ P.eqGuardType P.depth t = false) → v = .bool (if neg then !r else r) →
      (do eqGuard (if neg then .neq else .eql) t x y (ρ x) (ρ y); binOp (if neg then .neq else .eql) t (ρ x) (ρ y) : Sem Value).run P w = .ok v w := by
    intro a b r ha hb he hi hs hf hcx hn hg hv
    rw [ha, hb, Sem.run_bind, eqGuard_skip hn hg w, Result.andThen_ok, binEq_run he hi hs hf hcx w, hv]
  split at hc
  · -- ints
    rename_i k hu
    simp only [Option.some.injEq] at hc; subst hc
    clear key
    generalize (if neg = true then BinOp.neq else BinOp.eql) = o at h ⊢
    simp only [pstep, xbin] at h
    split at h
    · rename_i k a k' b hx hy
      split at h
      · rename_i hk
        rw [hx, hy, Sem.run_bind, eqGuard_skip (by simp) (.inl (by simp)) w, Result.andThen_ok]
        exact xint_run hk h
      · cases h
    · rename_i a b hx hy
      rw [hx, hy, Sem.run_bind, eqGuard_skip (by simp) (.inl (by simp)) w, Result.andThen_ok]
      exact xstr_run h
    · cases h
  · rename_i hu
    simp only [Option.some.injEq] at hc; subst hc
    clear key
    generalize (if neg = true then BinOp.neq else BinOp.eql) = o at h ⊢
    simp only [pstep, xbin] at h
    split at h
    · rename_i k a k' b hx hy
      split at h
      · rename_i hk
        rw [hx, hy, Sem.run_bind, eqGuard_skip (by simp) (.inl (by simp)) w, Result.andThen_ok]
        exact xint_run hk h
      · cases h
    · rename_i a b hx hy
      rw [hx, hy, Sem.run_bind, eqGuard_skip (by simp) (.inl (by simp)) w, Result.andThen_ok]
      exact xstr_run h
    · cases h
  · rename_i hu
    simp only [Option.some.injEq] at hc; subst hc
    simp only [pstep] at h
    split at h
    · rename_i a b hx hy
      have h' : v = .bool (if neg then !(a == b) else (a == b)) := by
        split at h <;> (simp only [Option.some.injEq] at h; subst h; rfl)
      exact key hx hy (fun w => by rw [maxDepth_succ]; exact eqn_b hu _ a b w) (by simp) (by simp) (by simp) (by simp) (by simp) (.inl (by simp)) h'
    · cases h
  case h_8 =>
    rename_i fs hu
    split at hc
    · cases hc
    rename_i hst
    simp only [Bool.or_eq_true, not_or, Bool.not_eq_true] at hst
    split at hc
    · rename_i l hl
      simp only [Option.some.injEq] at hc; subst hc
      simp only [pstep] at h
      split at h
      · rename_i xs ys hx hy
        have h' : ∃ r, xeqs xs ys l = some r ∧ v = .bool (if neg then !r else r) := by
          split at h <;> first | (rename_i hr; simp only [Option.some.injEq] at h; subst h; exact ⟨_, hr, rfl⟩) | cases h
        obtain ⟨r, hr, hv⟩ := h'
        · refine key hx hy (fun w => ?_) (by simp) (by simp) (by simp) (by simp) (by simp) (.inr hst.2) hv
          have hfo : P.fieldsOf t = fs := by simp [Program.fieldsOf, hu]
          rw [maxDepth_succ, run_equalIn_struct w 9999 t xs ys (by rw [hfo]; exact hu) hst.1, hfo]
          exact eqs_run 9998 xs ys fs.toList l r hl hr w
      · cases h
    · cases hc
  case h_9 => cases hc
  all_goals (
    rename_i hu
    simp only [Option.some.injEq] at hc; subst hc
    simp only [pstep] at h
    generalize hxx : xeqn _ (ρ x) (ρ y) = o at h
    have h' : ∃ r, o = some r ∧ v = .bool (if neg then !r else r) := by
      split at h <;> first | (simp only [Option.some.injEq] at h; subst h; exact ⟨_, rfl, rfl⟩) | cases h
    obtain ⟨r, rfl, hv⟩ := h'
    · have hr := hxx
      have hr' := hr
      refine key rfl rfl (xeqn_run hr ?_) ?_ ?_ ?_ ?_ ?_ (.inl ?_) hv
      · first
          | exact .inl ⟨rfl, _, hu⟩
          | exact .inr (.inl ⟨rfl, _, hu⟩)
          | exact .inr (.inr (.inl ⟨rfl, _, _, hu⟩))
          | exact .inr (.inr (.inr ⟨rfl, _, _, _, hu⟩))
      all_goals (intros; intro hc; rw [hc] at hr'; simp [xeqn] at hr'))

theorem s_binOp {o : BinOp} {t u : TypeId} {x y : Operand} (h : pstep ρ (cop P (.binOp o t x y u) ty) = some v) : (execOp ρ (mk d (.binOp o t x y u) ty pos af g)).run P w = .ok (.value v) w := by
  have fin : (do eqGuard o t x y (ρ x) (ρ y); binOp o t (ρ x) (ρ y) : Sem Value).run P w = .ok v w → (execOp ρ (mk d (.binOp o t x y u) ty pos af g)).run P w = .ok (.value v) w := by
    intro hr
    simp only [execOp]
    rw [Sem.run_bind, hr]
    simp [Result.andThen, pure]
  apply fin
  have plain : o ≠ .eql → o ≠ .neq → pstep ρ (.bin o x y) = some v → (do eqGuard o t x y (ρ x) (ρ y); binOp o t (ρ x) (ρ y) : Sem Value).run P w = .ok v w := by
    intro h1 h2 hp
    have hg : (eqGuard o t x y (ρ x) (ρ y)).run P w = .ok () w := by
      unfold eqGuard
      cases o <;> first | exact absurd rfl h1 | exact absurd rfl h2 | simp [pure]
    rw [Sem.run_bind, hg, Result.andThen_ok]
    simp only [pstep, xbin] at hp
    split at hp
    · rename_i k a k' b hx hy
      split at hp
      · rename_i hk; rw [hx, hy]; exact xint_run hk hp
      · cases hp
    · rename_i a b hx hy; rw [hx, hy]; exact xstr_run hp
    · cases hp
  cases o <;> simp only [cop] at h <;> first | exact plain (by simp) (by simp) h | skip
  · cases hc : cEq P false t x y with
    | none => simp [hc, pstep] at h
    | some X => simp only [hc, Option.getD_some] at h; exact cEq_sound (neg := false) hc h
  · cases hc : cEq P true t x y with
    | none => simp [hc, pstep] at h
    | some X => simp only [hc, Option.getD_some] at h; exact cEq_sound (neg := true) hc h

theorem foldl_setAll (off : Nat) : ∀ (c : List Value) (k : Nat) (cs : Array Value),
    ((c.zipIdx k).foldl (fun cs x => cs.setIfInBounds (off + x.2) x.1) cs).toList = setAll cs.toList (off + k) c
  | [], k, cs => rfl
  | x :: c, k, cs => by
    simp only [List.zipIdx_cons, List.foldl_cons, setAll]
    rw [foldl_setAll off c (k + 1) (cs.setIfInBounds (off + k) x)]
    simp [Nat.add_assoc]

theorem setAll_length : ∀ (c : List Value) (off : Nat) (l : List Value), (setAll l off c).length = l.length
  | [], _, _ => rfl
  | x :: c, off, l => by simp [setAll, setAll_length c]

theorem fill_run (place : Nat → Option (Nat × Nat)) (fs : List Field) (hp : ∀ (i : Nat) (f : Field) (s : Nat), fs[i]? = some f → sizeOf? P f.type = some s → place i = some (f.offset, s)) :
    ∀ (parts : List (Nat × Operand)) (l : List (Nat × Nat × Operand)) (z : List Value) (r : List Value), cParts P fs parts = some l → xbuild ρ z l = some r →
    Instr.fill place z.toArray (parts.map fun x => (x.1, ρ x.2)) = some r.toArray
  | [], l, z, r, hc, hx => by
    simp only [cParts, Option.some.injEq] at hc
    subst hc
    simp only [xbuild, Option.some.injEq] at hx
    subst hx
    simp [Instr.fill]
  | (i, x) :: parts, l, z, r, hc, hx => by
    simp only [cParts] at hc
    split at hc
    · rename_i f l' hf hl'
      split at hc
      · rename_i s hs
        simp only [Option.some.injEq] at hc
        subst hc
        simp only [xbuild] at hx
        split at hx
        · rename_i hb
          have := fill_run place fs hp parts l' _ r hl' hx
          simp only [List.map_cons, Instr.fill, hp i f s hf hs]
          have hcnd : ¬ (((ρ x).cells.size ≠ s || decide (f.offset + (ρ x).cells.size > z.toArray.size)) = true) := by simp; omega
          rw [if_neg hcnd, ← this]
          congr 1
          apply Array.ext'
          rw [← Array.foldl_toList, Array.toList_zipIdx]
          have := foldl_setAll f.offset (ρ x).cells.toList 0 z.toArray
          simp only [Nat.add_zero] at this
          rw [this]
        · cases hx
      · cases hc
    · cases hc

theorem mapM_places (fs : Array Field) (hs : ∀ f ∈ fs.toList, ∃ s, sizeOf? P f.type = some s) (w : World) :
    ∃ places : Array (Nat × Nat), (fs.mapM (fun (f : Field) => (do pure (f.offset, ← sizeOf f.type) : Sem (Nat × Nat)))).run P w = .ok places w ∧ ∀ (i : Nat) (f : Field) (s : Nat), fs[i]? = some f → sizeOf? P f.type = some s → places[i]? = some (f.offset, s) := by
  rw [Array.mapM_eq_mapM_toList]
  have key : ∀ (l : List Field), (∀ f ∈ l, ∃ s, sizeOf? P f.type = some s) → ∃ places : List (Nat × Nat), (l.mapM (fun (f : Field) => (do pure (f.offset, ← sizeOf f.type) : Sem (Nat × Nat)))).run P w = .ok places w ∧ ∀ (i : Nat) (f : Field) (s : Nat), l[i]? = some f → sizeOf? P f.type = some s → places[i]? = some (f.offset, s) := by
    intro l
    induction l with
    | nil => intro _; exact ⟨[], by simp [pure], by simp⟩
    | cons f l ih =>
      intro h
      obtain ⟨s, hs⟩ := h f (by simp)
      obtain ⟨pl, hr, hp⟩ := ih (fun g hg => h g (by simp [hg]))
      refine ⟨(f.offset, s) :: pl, ?_, ?_⟩
      · rw [List.mapM_cons, Sem.run_bind]
        have h1 : (do pure (f.offset, ← sizeOf f.type) : Sem (Nat × Nat)).run P w = .ok (f.offset, s) w := by
          simp [Sem.run_bind, run_sizeOf hs, Result.andThen, pure, Sem.run]
        rw [h1, Result.andThen_ok, Sem.run_bind, hr]
        simp [Result.andThen, pure]
      · intro i g s' hg hs'
        cases i with
        | zero => simp at hg; subst hg; rw [hs] at hs'; simp at hs' ⊢; exact hs'
        | succ i => simp at hg ⊢; exact hp i g s' hg hs'
  obtain ⟨pl, hr, hp⟩ := key fs.toList hs
  refine ⟨pl.toArray, ?_, ?_⟩
  · rw [Sem.run_map, hr]; rfl
  · intro i f s hf; simpa using hp i f s (by simpa using hf)

/-- every field has a size (part of what is compiled) -/
theorem zero_run {t : TypeId} {z : List Value} (h : zero? P t = some z) (w : World) : ∃ v, (zeroValue t).run P w = .ok v w ∧ v.cells.toList = z := by
  unfold zero? at h
  cases hi : P.info? t with
  | none => simp [hi] at h
  | some i =>
    simp only [hi, Option.bind_some] at h
    cases hz : i.zero with
    | none => simp [hz] at h
    | some v =>
      simp only [hz, Option.map_some, Option.some.injEq] at h
      exact ⟨v, by simp [zeroValue, typeInfo, Sem.run_bind, Result.andThen, hi, hz, pure, Sem.run], h⟩
theorem bytes_run {t : TypeId} {b : Nat} (h : bytes? P t = some b) (w : World) : ∃ i, (typeInfo t).run P w = .ok i w ∧ i.bytes = b := by
  unfold bytes? at h
  cases hi : P.info? t with
  | none => simp [hi] at h
  | some i =>
    simp only [hi, Option.map_some, Option.some.injEq] at h
    exact ⟨i, by simp [typeInfo, Sem.run_bind, Result.andThen, hi, pure], h⟩

theorem s_build {t : TypeId} {parts : Array (Nat × Operand)} (h : pstep ρ (cop P (.build t parts) ty) = some v) : (execOp ρ (mk d (.build t parts) ty pos af g)).run P w = .ok (.value v) w := by
  simp only [cop] at h
  split at h
  · rename_i fs z hu hz
    split at h
    · rename_i hall
      split at h
      · rename_i l hl
        simp only [pstep] at h
        split at h
        · rename_i r hr
          simp only [Option.some.injEq] at h
          subst h
          obtain ⟨places, hm, hp⟩ := mapM_places fs (fun f hf => by
            have := List.all_eq_true.1 hall f hf
            exact Option.isSome_iff_exists.1 this) w
          obtain ⟨zv, hzr, hzc⟩ := zero_run hz w
          have hfill := fill_run (ρ := ρ) (fun i => places[i]?) fs.toList (fun i f s hf hs => hp i f s (by simpa using hf) hs) parts.toList l z r hl hr
          have hcells : zv.cells = z.toArray := by apply Array.ext'; simp [hzc]
          simp only [execOp, Instr.build]
          simp only [Sem.run_bind, hzr, Result.andThen_ok, run_underlying hu]
          rw [hm]
          simp only [Result.andThen_ok, hcells, Array.toList_map, hfill, pure, Sem.run]
        · cases h
      · simp [pstep] at h
    · simp [pstep] at h
  · simp [pstep] at h

theorem exec_builtin {c : Go.Call} {b : Builtin} (hb : c.callee = .builtin b) {x : Value} {w' : World}
    (hr : (builtin b c.argTypes ty (c.args.map fun | .const _ => true | _ => false) (c.args.map ρ)).run P w = .ok (.value x) w') : (execOp ρ (mk d (.call c) ty pos af g)).run P w = .ok (.value x) w' := by
  simp only [execOp, resolve, hb, Sem.run_bind, pure, Sem.run, Result.andThen, invoke]
  exact hr

theorem xints_run : ∀ (xs : List Operand) (l : List Int), xints ρ xs = some l → (∀ (k : IntKind) (a : Int), ∀ w, ((xs.map ρ).foldlM Builtin.min2 (.int k a) : Sem Value).run P w = .ok (.int k (xminI a l)) w) ∧ (∀ (k : IntKind) (a : Int), ∀ w, ((xs.map ρ).foldlM Builtin.max2 (.int k a) : Sem Value).run P w = .ok (.int k (xmaxI a l)) w)
  | [], l, h => by
    simp only [xints, Option.some.injEq] at h; subst h
    exact ⟨fun k a w => by simp [xminI, pure], fun k a w => by simp [xmaxI, pure]⟩
  | x :: xs, l, h => by
    simp only [xints] at h
    split at h
    · rename_i a' l' ha hl
      simp only [Option.some.injEq] at h; subst h
      obtain ⟨h1, h2⟩ := xints_run xs l' hl
      cases hx : ρ x <;> rw [hx] at ha <;> simp [asI] at ha
      subst ha
      constructor
      · intro k a w
        simp only [List.map_cons, List.foldlM_cons, hx, Sem.run_bind, Builtin.min2, pure, Sem.run, Result.andThen, xminI]
        exact h1 k _ w
      · intro k a w
        simp only [List.map_cons, List.foldlM_cons, hx, Sem.run_bind, Builtin.max2, pure, Sem.run, Result.andThen, xmaxI]
        exact h2 k _ w
    · cases h

theorem s_call {c : Go.Call} (h : pstep ρ (cop P (.call c) ty) = some v) : (execOp ρ (mk d (.call c) ty pos af g)).run P w = .ok (.value v) w := by
  obtain ⟨callee, args, argTypes⟩ := c
  simp only [cop] at h
  split at h
  · simp [pstep] at h
  · simp [pstep] at h
  · apply exec_builtin rfl
    split at h
    · -- len
      rename_i x t ha ht
      have ha' : args = #[x] := by apply Array.ext'; exact ha
      have ht' : argTypes = #[t] := by apply Array.ext'; exact ht
      subst ha'; subst ht'
      split at h
      · rename_i hu
        simp only [pstep] at h
        split at h
        · rename_i s hx
          simp only [Option.some.injEq] at h; subst h
          simp [builtin, Builtin.len_, Sem.run_bind, run_underlying hu, Result.andThen, hx, pure, Sem.run, goInt]
        · cases h
      · rename_i e hu
        simp only [pstep] at h
        split at h
        · rename_i a k q hx
          simp only [Option.some.injEq] at h; subst h
          simp [builtin, Builtin.len_, Sem.run_bind, run_underlying hu, Result.andThen, hx, pure, Sem.run, goInt]
        · cases h
      · rename_i k e hu
        simp only [pstep, Option.some.injEq] at h; subst h
        simp [builtin, Builtin.len_, Sem.run_bind, run_underlying hu, Result.andThen, pure, Sem.run, goInt]
      · rename_i e hu
        split at h
        · rename_i k e' hu'
          simp only [pstep, Option.some.injEq] at h; subst h
          simp [builtin, Builtin.len_, Sem.run_bind, run_underlying hu, run_underlying hu', Result.andThen, pure, Sem.run, goInt]
        · simp [pstep] at h
      · simp [pstep] at h
    · -- cap
      rename_i x t ha ht
      have ha' : args = #[x] := by apply Array.ext'; exact ha
      have ht' : argTypes = #[t] := by apply Array.ext'; exact ht
      subst ha'; subst ht'
      split at h
      · rename_i e hu
        simp only [pstep] at h
        split at h
        · rename_i a q k hx
          simp only [Option.some.injEq] at h; subst h
          simp [builtin, Builtin.cap_, Sem.run_bind, run_underlying hu, Result.andThen, hx, pure, Sem.run, goInt]
        · cases h
      · simp [pstep] at h
    · -- min
      rename_i x xs ha
      have ha' : args = (x :: xs).toArray := by apply Array.ext'; simpa using ha
      subst ha'
      simp only [pstep] at h
      split at h
      · rename_i k a l hx hl
        simp only [Option.some.injEq] at h; subst h
        have := (xints_run (P := P) xs l hl).1 k a w
        simp [builtin, Builtin.min_, Sem.run_bind, Result.andThen, hx, pure, Sem.run]
        rw [this]
      · cases h
    · -- max
      rename_i x xs ha
      have ha' : args = (x :: xs).toArray := by apply Array.ext'; simpa using ha
      subst ha'
      simp only [pstep] at h
      split at h
      · rename_i k a l hx hl
        simp only [Option.some.injEq] at h; subst h
        have := (xints_run (P := P) xs l hl).2 k a w
        simp [builtin, Builtin.max_, Sem.run_bind, Result.andThen, hx, pure, Sem.run]
        rw [this]
      · cases h
    all_goals first
      | (simp [pstep] at h; done)
      | (split at h <;> first | (simp [pstep] at h; done) | (split at h <;> simp [pstep] at h))

/-- THE WHOLE: what the function on values says, the model does, in every world. -/
theorem pstep_run {op : Op} (h : pstep ρ (cop P op ty) = some v) (w : World) : (execOp ρ (mk d op ty pos af g)).run P w = .ok (.value v) w := by
  cases op
  case move => exact s_move h
  case assign => exact s_assign h
  case pick => exact s_pick h
  case nilCheck => exact s_nilCheck h
  case binOp => exact s_binOp h
  case unOp => exact s_unOp h
  case convert => exact s_convert h
  case fieldAddr => exact s_fieldAddr h
  case field => exact s_field h
  case indexAddr => exact s_indexAddr h
  case index => exact s_index h
  case slice => exact s_slice h
  case extract => exact s_extract h
  case makeFunc => exact s_makeFunc h
  case build => exact s_build h
  case call => exact s_call h
  all_goals (simp only [cop] at h; first | (simp [pstep] at h; done) | (split at h <;> first | (simp [pstep] at h; done) | (split at h <;> simp [pstep] at h)))

/-- an operation that computes is no deferred call -/
theorem pstep_plain {op : Op} (h : pstep ρ (cop P op ty) = some v) : ∀ c, op ≠ .defer c := by
  intro c hc
  subst hc
  simp [cop, pstep] at h
end
end Go.Xs
