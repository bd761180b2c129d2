/- A range over a function: the statement, its rounds, and the calls of yield. -/
import Derived.Test.YtkdbajfaaifkaaaSlc
namespace Go.Xs

/-- a round's temporaries -/
def roundTmps (rc : Loop) (args : Array Value) : Array Value := (rc.params.zip args).foldl (fun tmps (x : Tmp × Value) => tmps.setIfInBounds x.1 x.2) rc.tmps

/-- A CALL OF yield, LOCAL -/
def Yld (P : Program) (l : Nat) (args : Array Value) (S : Segs) (R : Bool → Segs → Prop) : Prop :=
  ∀ (F : Segs) (w : World), Sat (S ++ F) w → ∃ rc : Loop, w.heap[l]? = some (.loop rc) ∧ args.size = rc.params.size ∧
    RoundIn (Fk none) 0 P l rc.fn (roundTmps rc args) rc.assign rc.body w (fun e w' => Ext w w' ∧ ∃ b S', e = .returned (.bool b) ∧ Sat (S' ++ F) w' ∧ R b S')

variable {P : Program} {n : Nat}

theorem Yld.mono {l : Nat} {args : Array Value} {S : Segs} {R R' : Bool → Segs → Prop} (h : Yld P l args S R) (hr : ∀ b S', R b S' → R' b S') : Yld P l args S R' := by
  intro F w hs
  obtain ⟨rc, h1, h2, h3⟩ := h F w hs
  exact ⟨rc, h1, h2, h3.mono fun e w' ⟨x, b, S', e1, s, q⟩ => ⟨x, b, S', e1, s, hr _ _ q⟩⟩
theorem Yld.frame {l : Nat} {args : Array Value} {S : Segs} {R : Bool → Segs → Prop} (G : Segs) (h : Yld P l args S R) : Yld P l args (S ++ G) (fun b S'' => ∃ S', S'' = S' ++ G ∧ R b S') := by
  intro F w hs
  obtain ⟨rc, h1, h2, h3⟩ := h (G ++ F) w (by rw [← List.append_assoc]; exact hs)
  exact ⟨rc, h1, h2, h3.mono fun e w' ⟨x, b, S', e1, s, q⟩ => ⟨x, b, S' ++ G, e1, by rw [List.append_assoc]; exact s, S', rfl, q⟩⟩
theorem Yld.perm {l : Nat} {args : Array Value} {S S₂ : Segs} {R : Bool → Segs → Prop} (p : S₂.flatten.Perm S.flatten) (h : Yld P l args S R) : Yld P l args S₂ R :=
  fun F w hs => h F w (hs.permF p)

section
variable {r : Option Nat} {K : Env → Segs → Prop} {E : Env} {S : Segs} {d : Option Tmp}
/-- the operation that calls yield -/
theorem yyield {f : Operand} {args : List Operand} {l : Nat} {A : Array Value} (hf : ev E f = .func (.yield l) #[] #[]) (ha : args.map (ev E) = A.toList)
    (h : Yld P l A S (fun b S' => K (putE d (.bool b) E) S')) : YO P r n d (.call f args) K E S := by
  intro op ty pos af g hc hd
  obtain ⟨ats, rfl⟩ := cop_inv hc
  intro D F a w hs
  refine ⟨about_none_of_wide, ?_⟩
  rw [semAt_of (by simp), eval_envOf, hs.env]
  obtain ⟨rc, h1, h2, h3⟩ := h (dsegs D :: F) w hs.sat
  have hA : (args.map (ev E)).toArray = A := by apply Array.ext'; simpa using ha
  have hrun : (execOp (ev E) (mk d (.call { callee := .value f, args := args.toArray, argTypes := ats }) ty pos af g)).run P w = .ok (.round l rc.fn (roundTmps rc A) rc.assign rc.body) w := by
    simp only [execOp, resolve, Sem.run_bind, hf, Deferred.ofValue, pure, Sem.run, Result.andThen, invoke]
    have : (#[] : Array Value) ++ Array.map (ev E) args.toArray = A := by rw [← hA]; simp
    rw [this]
    exact run_yield h1 h2
  rw [hrun]
  refine ⟨(fun h => by cases h), ?_⟩
  refine RoundIn.mono (F := Fk r) h3 ?_
  rintro e w' ⟨hx, b, S', rfl, hsat, hk⟩
  exact ⟨hx, _, S', hs.put hd (.bool b) hsat, hk⟩
/-- yield is called with what J says; what else there is (G) stays -/
theorem yyieldG {f : Operand} {args : List Operand} {l : Nat} {A : Array Value} {T G : Segs} {R : Bool → Segs → Prop} (hY : Yld P l A T R) (hf : ev E f = .func (.yield l) #[] #[]) (ha : args.map (ev E) = A.toList)
    (p : S.flatten.Perm (T.flatten ++ G.flatten)) (h : ∀ b T', R b T' → K (putE d (.bool b) E) (T' ++ G)) : YO P r n d (.call f args) K E S :=
  yyield hf ha (((hY.frame G).perm (by rw [List.flatten_append]; exact p)).mono fun b S'' ⟨T', e, q⟩ => by subst e; exact h b T' q)
theorem yyieldI {f : Operand} {args : List Operand} {l : Nat} {A : Array Value} {T G : Segs} {R : Bool → Segs → Prop} (hY : Yld P l A T R) (hf : ev E f = .func (.yield l) #[] #[]) (ha : args.map (ev E) = A.toList)
    [hs : Sub S T G] (h : ∀ b T', R b T' → K (putE d (.bool b) E) (T' ++ G)) : YO P r n d (.call f args) K E S := yyieldG hY hf ha hs.perm h
end

/-! ### the statement -/
def setPs : List Tmp → List Value → Env → Env
  | t :: ts, v :: vs, E => setPs ts vs (upd E t v)
  | _, _, E => E

theorem envOf_setPs : ∀ (ps : List Tmp) (vs : List Value) (tmps : Array Value) (df df' : List Deferred), (∀ t ∈ ps, t < tmps.size) →
    envOf { tmps := (ps.zip vs).foldl (fun tmps (x : Tmp × Value) => tmps.setIfInBounds x.1 x.2) tmps, defers := df } = setPs ps vs (envOf { tmps := tmps, defers := df' }) ∧
    ((ps.zip vs).foldl (fun tmps (x : Tmp × Value) => tmps.setIfInBounds x.1 x.2) tmps).size = tmps.size
  | [], vs, tmps, df, df', h => by simp [setPs]; rfl
  | t :: ps, [], tmps, df, df', h => by simp [setPs]; rfl
  | t :: ps, v :: vs, tmps, df, df', h => by
    simp only [List.zip_cons_cons, List.foldl_cons, setPs]
    have h1 := envOf_setPs ps vs (tmps.setIfInBounds t v) df df' (fun t' ht' => by simpa using h t' (by simp [ht']))
    refine ⟨?_, by rw [h1.2]; simp⟩
    rw [h1.1]
    congr 1
    have := envOf_put (a := { tmps := tmps, defers := df' }) (d := some t) (v := v) (n := tmps.size) rfl (by simpa [dOk, Nat.blt_eq] using h t (by simp))
    exact this

def jumpOf : Exit → Option Code
  | .ret => some .ret
  | .exit id => some (.exit id)
  | .goto t => some (.goto t)
  | _ => none

/-- what a round must achieve, by the way it is left -/
def roundQ (J : List (Array Value) → Segs → Prop) (Jx : Exit → List (Array Value) → Segs → Prop) (pre : List (Array Value)) : Exit → Env → Segs → Prop
  | .normal, _, S => J pre S
  | .ret, _, S => Jx .ret pre S
  | .exit id, _, S => Jx (.exit id) pre S
  | .goto t, _, S => Jx (.goto t) pre S
  | _, _, _ => False

theorem Ext.putObj (w : World) (b : Nat) (o : Obj) : Ext w (w.putObj b o) := ⟨rfl, rfl, rfl, by simp⟩

theorem sat_putObj {S F : Segs} {l : Nat} {o o' : Obj} {w : World} (h : Sat ((([(l, o)] : List Chunk) :: S) ++ F) w) : Sat ((([(l, o')] : List Chunk) :: S) ++ F) (w.putObj l o') := by
  have h1 : SatL ([] ++ (l, o) :: (S ++ F).flatten) w := by have : SatL _ w := h; simpa using this
  have hb : w.heap[l]? = some o := h1.at_ (l, o) (by simp)
  have hlt : l < w.heap.size := (Array.getElem?_eq_some_iff.1 hb).1
  have := h1.upd (o' := o') (w' := w.putObj l o') (World.putObj_heap_same hlt) (fun i hi => World.putObj_heap_other hi)
  show SatL _ _
  simpa using this

/-- one round, out of its body -/
theorem yld_of {l : Nat} {rc : Loop} {x : Array Value} {S : Segs} {xa xb : XCode} {J : List (Array Value) → Segs → Prop} {Jx : Exit → List (Array Value) → Segs → Prop} {pre : List (Array Value)}
    (hst : rc.state = .ready) (hpd : rc.pending = none) (hsz : rc.tmps.size = n) (hps : ∀ t ∈ rc.params.toList, t < n) (hx : x.size = rc.params.size) (ha : comp P n rc.assign = xa) (hb : comp P n rc.body = xb)
    (h : Y P (some l) n xa (thenQ (fun E1 S1 => Y P (some l) n xb (roundQ J Jx (pre ++ [x])) E1 S1) (fun _ _ _ => False)) (setPs rc.params.toList x.toList (envOf { tmps := rc.tmps, defers := [] })) S) :
    Yld P l x ([(l, .loop rc)] :: S) (fun b S' => (b = true ∧ ∃ T, S' = [(l, .loop rc)] :: T ∧ J (pre ++ [x]) T) ∨ (b = false ∧ ∃ e c T, jumpOf e = some c ∧ S' = [(l, .loop { rc with state := .done, pending := some c })] :: T ∧ Jx e (pre ++ [x]) T)) := by
  intro F w hs
  have hl : w.heap[l]? = some (.loop rc) := hs.at_ (s := [(l, .loop rc)]) (by simp) (x := (l, .loop rc)) (by simp)
  refine ⟨rc, hl, hx, ?_⟩
  have henv := envOf_setPs rc.params.toList x.toList rc.tmps [] [] (fun t ht => by rw [hsz]; exact hps t ht)
  have hrt : roundTmps rc x = (rc.params.toList.zip x.toList).foldl (fun tmps (y : Tmp × Value) => tmps.setIfInBounds y.1 y.2) rc.tmps := by
    unfold roundTmps
    rw [← Array.foldl_toList]
    simp
  rw [hrt]
  have hst0 : St n [] ([(l, Obj.loop rc)] :: F) (setPs rc.params.toList x.toList (envOf { tmps := rc.tmps, defers := [] })) S { tmps := (rc.params.toList.zip x.toList).foldl (fun tmps (y : Tmp × Value) => tmps.setIfInBounds y.1 y.2) rc.tmps, defers := [] } w := by
    refine ⟨henv.2.trans hsz, henv.1, rfl, ?_⟩
    refine SatL.perm (show SatL _ w from hs) ?_
    simp only [dsegs, List.map_nil, List.flatten_append, List.flatten_cons, List.nil_append, List.cons_append]
    exact List.perm_middle.symm
  refine roundIn_of_wpIn trivial ?_
  refine Go.wpIn_mono (h rc.assign ha [] ([(l, Obj.loop rc)] :: F) _ w hst0) ?_
  rintro e a₁ w₁ ⟨hx1, D1, E1, S1, hs1, hq⟩
  cases e with
  | normal =>
    have hl1 : w₁.heap[l]? = some (.loop rc) := hs1.sat.at_ (s := [(l, .loop rc)]) (by simp) (x := (l, .loop rc)) (by simp)
    refine ⟨_, run_beginRound hl1 hst, ?_⟩
    have hsat1 : Sat (S1 ++ (dsegs D1 :: ([(l, Obj.loop { rc with state := .busy })] :: F))) (w₁.putObj l (.loop { rc with state := .busy })) := by
      have h0 : Sat (([(l, Obj.loop rc)] :: S1) ++ (dsegs D1 :: F)) w₁ := by
        refine SatL.perm (show SatL _ w₁ from hs1.sat) ?_
        simp only [List.flatten_append, List.flatten_cons, List.cons_append, List.nil_append]
        rw [← List.append_assoc, ← List.append_assoc]
        exact List.perm_middle
      have h1 := sat_putObj (o' := .loop { rc with state := .busy }) h0
      refine SatL.perm (show SatL _ _ from h1) ?_
      simp only [List.flatten_append, List.flatten_cons, List.cons_append, List.nil_append]
      rw [← List.append_assoc, ← List.append_assoc]
      exact List.perm_middle.symm
    have hst1 : St n D1 ([(l, Obj.loop { rc with state := .busy })] :: F) E1 S1 a₁ (w₁.putObj l (.loop { rc with state := .busy })) := ⟨hs1.size, hs1.env, hs1.defers, hsat1⟩
    refine Go.wpIn_mono (hq rc.body hb D1 _ a₁ _ hst1) ?_
    rintro e2 a₂ w₂ ⟨hx2, D2, E2, S2, hs2, hq2⟩
    have hl2 : w₂.heap[l]? = some (.loop { rc with state := .busy }) := hs2.sat.at_ (s := [(l, .loop { rc with state := .busy })]) (by simp) (x := (l, .loop { rc with state := .busy })) (by simp)
    have hxx : Ext w w₂ := (hx1.trans (Ext.putObj _ _ _)).trans hx2
    have fin : ∀ jump : Option Code, ∃ v w', (Instr.endRound l jump).run P w₂ = .ok v w' ∧ v = .bool jump.isNone ∧ Ext w w' ∧ Sat (([(l, Obj.loop { rc with state := if jump.isNone then .ready else .done, pending := jump })] :: S2) ++ F) w' := by
      intro jump
      refine ⟨_, _, run_endRound jump hl2, rfl, hxx.trans (Ext.putObj _ _ _), ?_⟩
      have h0 : Sat (([(l, Obj.loop { rc with state := .busy })] :: S2) ++ F) w₂ := by
        refine SatL.sub (l := [(l, Obj.loop { rc with state := .busy })] ++ (S2.flatten ++ (dsegs D2 ++ F.flatten))) ?_ ?_
        · refine SatL.perm (show SatL _ w₂ from hs2.sat) ?_
          simp only [List.flatten_append, List.flatten_cons, List.cons_append, List.nil_append]
          rw [← List.append_assoc]
          refine List.perm_middle.trans ?_
          simp
        · simp
      exact sat_putObj h0
    cases e2 with
    | normal =>
      obtain ⟨v, w', hr, hv, hx', hsat⟩ := fin none
      refine ⟨v, w', hr, hx', true, _, by rw [hv]; rfl, hsat, .inl ⟨rfl, S2, ?_, hq2⟩⟩
      simp only [Option.isNone_none, if_true]
      obtain ⟨st, pd⟩ := rc
      simp only at hst hpd
      subst hst; subst hpd; rfl
    | ret =>
      obtain ⟨v, w', hr, hv, hx', hsat⟩ := fin (some .ret)
      exact ⟨v, w', hr, hx', false, _, by rw [hv]; rfl, hsat, .inr ⟨rfl, .ret, .ret, S2, rfl, rfl, hq2⟩⟩
    | exit id =>
      obtain ⟨v, w', hr, hv, hx', hsat⟩ := fin (some (.exit id))
      exact ⟨v, w', hr, hx', false, _, by rw [hv]; rfl, hsat, .inr ⟨rfl, .exit id, .exit id, S2, rfl, rfl, hq2⟩⟩
    | goto t =>
      obtain ⟨v, w', hr, hv, hx', hsat⟩ := fin (some (.goto t))
      exact ⟨v, w', hr, hx', false, _, by rw [hv]; rfl, hsat, .inr ⟨rfl, .goto t, .goto t, S2, rfl, rfl, hq2⟩⟩
    | panic c => exact hq2.elim
    | outgrown => exact hq2.elim
  | _ => exact hq.elim

/-- WHAT AN ITERATOR OWES: entered with yield, in memory S of which J speaks, it brings what V lets through, and ends having brought all (dn), or having been told to stop. -/
def IterOk (P : Program) (f : FuncId) (first caps : Array Value) (own S : Segs) (V : List (Array Value) → Array Value → Prop) (dn : List (Array Value) → Prop) : Prop :=
  ∀ (l : Nat) (c : Chunk) (J Jx : List (Array Value) → Segs → Prop), J [] ([c] :: S) →
    (∀ pre x T, V pre x → J pre T → Yld P l x T (fun b T' => (b = true ∧ J (pre ++ [x]) T') ∨ (b = false ∧ Jx (pre ++ [x]) T'))) →
    Tri P f (first ++ #[.func (.yield l) #[] #[]] ++ caps) ([c] :: (own ++ S)) (fun _ S' => (∃ xs, dn xs ∧ J xs S') ∨ (∃ pre, Jx pre S'))

variable {Q : Exit → Env → Segs → Prop} {E : Env} {S : Segs}

/-- A RANGE OVER A FUNCTION: own is the iterator's own. -/
theorem yrange {g : Operand} {ps : List Tmp} {xa xb : XCode} {f : FuncId} {first caps : Array Value} {V : List (Array Value) → Array Value → Prop} {dn : List (Array Value) → Prop} {own S0 G0 : Segs} [hsub : Sub S0 (own ++ S) G0]
    (J : List (Array Value) → Segs → Prop) (Jx : Exit → List (Array Value) → Segs → Prop)
    (hg : ev E g = .func (.func f) first caps) (hps : ps.all (fun t => Nat.blt t n) = true) (hit : IterOk P f first caps own S V dn) (hJ0 : J [] S)
    (hV : ∀ pre x, V pre x → x.size = ps.length)
    (hround : ∀ l pre x T, V pre x → J pre T → Y P (some l) n xa (thenQ (fun E1 S1 => Y P (some l) n xb (roundQ J Jx (pre ++ [x])) E1 S1) (fun _ _ _ => False)) (setPs ps x.toList E) T)
    (hdone : ∀ xs S', dn xs → J xs S' → Q .normal E S')
    (hstop : ∀ e pre S', (jumpOf e).isSome = true → Jx e pre S' → Q e E S') : Y P none n (.range g ps xa xb) Q E S0 := by
  refine yforget (S0 := own ++ S) ⟨_, hsub.perm⟩ ?_
  intro c hc
  obtain ⟨c1, c2, rfl, h1, h2⟩ := (comp_inv hc).2.2.2.2.1 g ps xa xb rfl
  intro D F a w hs
  refine wpIn_rangeFunc fun fn _ => ?_
  have hga : a.eval g = .func (.func f) first caps := by rw [eval_envOf, hs.env]; exact hg
  let rc : Loop := { state := .ready, pending := none, fn, tmps := a.tmps, params := ps.toArray, assign := c1, body := c2, defers := w.heap.size }
  let w1 : World := (w.alloc (.deferred (some []))).alloc (.loop rc)
  let l : Nat := w.heap.size + 1
  have hsat1 : Sat (([(l, Obj.loop rc)] :: (own ++ S)) ++ (dsegs (w.heap.size :: D) :: F)) w1 := by
    have a1 := Sat.new (.deferred (some [])) hs.sat
    have a2 := Sat.new (.loop rc) a1
    have e1 : ({ ({ w with heap := w.heap.push (.deferred (some [])) } : World) with heap := (w.heap.push (.deferred (some []))).push (.loop rc) } : World) = w1 := rfl
    rw [e1] at a2
    refine SatL.perm (show SatL _ w1 from a2) ?_
    simp only [dsegs, List.map_cons, List.flatten_append, List.flatten_cons, List.cons_append, List.nil_append, Array.size_push]
    refine List.Perm.cons _ ?_
    exact List.perm_middle.symm
  have hx1 : Ext w w1 := (Ext.push w _).trans (Ext.push _ _)
  let JI : List (Array Value) → Segs → Prop := fun pre S' => ∃ T, S' = [(l, .loop rc)] :: T ∧ J pre T
  let JX : List (Array Value) → Segs → Prop := fun pre S' => ∃ e cd T, jumpOf e = some cd ∧ S' = [(l, .loop { rc with state := .done, pending := some cd })] :: T ∧ Jx e pre T
  have hpsn : ∀ t ∈ ps, t < n := fun t ht => by have := List.all_eq_true.1 hps t ht; simpa [Nat.blt_eq] using this
  have hcall := hit l (l, .loop rc) JI JX ⟨S, rfl, hJ0⟩ (by
    rintro pre x T hv ⟨T0, rfl, hj⟩
    have henv : envOf { tmps := a.tmps, defers := [] } = E := hs.env
    have := yld_of (P := P) (n := n) (l := l) (rc := rc) (x := x) (S := T0) (xa := xa) (xb := xb) (J := J) (Jx := Jx) (pre := pre) rfl rfl hs.size (by simpa [rc] using hpsn) (by rw [hV pre x hv]; simp [rc]) h1 h2
      (by have h0 := hround l pre x T0 hv hj; simp only [rc, henv]; exact h0)
    refine this.mono ?_
    rintro b S' (⟨hb, T, e, hj'⟩ | ⟨hb, e, cd, T, he, e2, hj'⟩)
    · exact .inl ⟨hb, T, e, hj'⟩
    · exact .inr ⟨hb, e, cd, T, he, e2, hj'⟩)
  refine ⟨l, [{ target := .collected w.heap.size, args := #[] }], w1, { target := .fn (.func f) caps, args := first ++ #[.func (.yield l) #[] #[]] }, w1, f, first ++ #[.func (.yield l) #[] #[]] ++ caps, w1, ?_, ?_, ?_, ?_, ?_, ?_⟩
  · rw [Fk_round]; exact run_enterLoop_outer fn a.tmps ps.toArray c1 c2
  · have hm : Array.map a.eval #[Operand.const (Value.func (Fn.yield l) #[] #[])] = #[Value.func (Fn.yield l) #[] #[]] := by simp [Act.eval]
    simp only [resolve, hga, Deferred.ofValue, hm]
    rfl
  · intro f' _; trivial
  · simp only [invoke]; exact callFunc_run hcall.ent _ w1
  · intro h; cases h
  · refine callsIn_Fk.2 ((hcall.run (dsegs (w.heap.size :: D) :: F) w1 hsat1).mono ?_)
    rintro e w3 ⟨hx3, v, S', rfl, hsat3, hq⟩
    have fin : ∀ (o : Loop) (T : Segs), S' = [(l, .loop o)] :: T → o.state ≠ .busy → ∃ w4, (Instr.endLoop l).run P w3 = .ok o.pending w4 ∧ Ext w w4 ∧
        St n (w.heap.size :: D) F E T { a with defers := [{ target := .collected w.heap.size, args := #[] }] ++ a.defers } w4 := by
      intro o T hS ho
      subst hS
      have hl3 : w3.heap[l]? = some (.loop o) := hsat3.at_ (s := [(l, .loop o)]) (by simp) (x := (l, .loop o)) (by simp)
      refine ⟨_, run_endLoop hl3 ho, (hx1.trans hx3).trans (Ext.putObj _ _ _), hs.size, hs.env, by simp [dmarks, hs.defers], ?_⟩
      have := sat_putObj (o' := .loop { o with state := .exhausted }) hsat3
      exact SatL.sub (show SatL _ _ from this) (by simp)
    rcases hq with ⟨xs, hdn, T, hS, hj⟩ | ⟨pre, ex, cd, T, hex, hS, hj⟩
    · obtain ⟨w4, hr, hx4, hst4⟩ := fin rc T hS (by simp [rc])
      exact ⟨_, w4, hr, hx4, _, E, T, hst4, hdone xs T hdn hj⟩
    · obtain ⟨w4, hr, hx4, hst4⟩ := fin _ T hS (by simp)
      refine ⟨_, w4, hr, ?_⟩
      have hQ := hstop ex pre T (by rw [hex]; rfl) hj
      cases ex <;> simp only [jumpOf, Option.some.injEq, reduceCtorEq] at hex <;> subst hex
      · exact wpIn_exit ⟨hx4, _, E, T, hst4, hQ⟩
      · exact wpIn_goto ⟨hx4, _, E, T, hst4, hQ⟩
      · exact wpIn_ret ⟨hx4, _, E, T, hst4, hQ⟩
end Go.Xs
