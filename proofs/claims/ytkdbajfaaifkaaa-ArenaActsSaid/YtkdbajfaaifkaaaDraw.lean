/- Regions that draw their order: one tree of orders serves every order. -/
import Derived.Test.YtkdbajfaaifkaaaMem
namespace Go.Xs

/-- the stable chunks lie in the world as they are named -/
def Cw (R : Segs) (w : World) : Prop := ∀ s ∈ R, ∀ x ∈ s, w.heap[x.1]? = some x.2

section
variable {P : Program} {n : Nat} {r : Option Nat} {ops : Array Oper} {C : World → Prop} {Q : Exit → Act → World → Prop}

def isLoad (P : Program) (o : Oper) : Bool := loadOp (cop P o.op o.type)
def isQuiet (P : Program) (ops : Array Oper) (i : Nat) : Bool := match ops[i]? with | some o => quietOp (cop P o.op o.type) | none => false

/-- what a quiet operation yields: in every world, or (a load) in every world of the class -/
def YQ (P : Program) (ops : Array Oper) (C : World → Prop) (o : Oper) (v : Value) (a : Act) : Prop :=
  (Region.wanted o (yielded ops a.tmps) = true ∧ (∀ c, o.op ≠ .defer c) ∧ ∀ w, (isLoad P o = true → C w) → (execOp a.eval o).run P w = .ok (.value v) w) ∨
  (Region.wanted o (yielded ops a.tmps) = false ∧ v = undef)

theorem YQ.of_same {o : Oper} {v : Value} {a a' : Act} (hy : YQ P ops C o v a) (he : execOp a'.eval o = execOp a.eval o)
    (hw : Region.wanted o (yielded ops a'.tmps) = Region.wanted o (yielded ops a.tmps)) : YQ P ops C o v a' := by
  unfold YQ at *
  rw [he, hw]
  exact hy

def wpC (P : Program) (r : Option Nat) (C : World → Prop) (ops : Array Oper) (Q : Exit → Act → World → Prop) : Nat → Array Bool → Act → World → Prop
  | 0, listed, a, w => Region.ready .any ops listed = [] ∧ Q .normal a w
  | f + 1, listed, a, w =>
    (Region.ready .any ops listed = [] → Q .normal a w) ∧
    ∀ i ∈ Region.ready .any ops listed, wpOpIn (Fk r) 0 P ops (fun _ _ _ => False) i
      (fun a' w' => ((isQuiet P ops i = true → w' = w) ∧ (isQuiet P ops i = false → chkB P ops i = true → C w → C w')) ∧ wpC P r C ops Q f (listed.setIfInBounds i true) a' w') a w

theorem wpOpIn_weaken {F : Fence} {m i : Nat} {K K' : Act → World → Prop} {Q Q' : Exit → Act → World → Prop} {a : Act} {w : World} (hK : ∀ a w, K a w → K' a w) (hQ : ∀ e a w, Q e a w → Q' e a w)
    (h : wpOpIn F m P ops Q i K a w) : wpOpIn F m P ops Q' i K' a w := by
  unfold wpOpIn at *
  split
  · rename_i ho; simp only [ho] at h; exact hK _ _ h
  · rename_i o ho
    simp only [ho] at h
    split
    · rename_i hw; simp only [hw, if_true] at h; exact Oper.wpIn_mono h hK hQ
    · rename_i hw; simp only [hw] at h; exact ⟨h.1, hK _ _ h.2⟩

theorem wpAny_of_wpC : ∀ (f : Nat) (listed : Array Bool) (a : Act) (w : World), wpC P r C ops Q f listed a w → wpAnyIn (Fk r) 0 P .any ops Q f listed a w
  | 0, _, _, _, h => h
  | f + 1, _listed, _a, _w, h => ⟨h.1, fun i hi => wpOpIn_weaken (fun a' w' hk => wpAny_of_wpC f _ a' w' hk.2) (fun _ _ _ hf => hf.elim) (h.2 i hi)⟩

def Closed (ops : Array Oper) (listed : Array Bool) : Prop :=
  ∀ j oj, ops[j]? = some oj → listed.getD j false = true → ∀ e ∈ oj.after, Region.binds .any e = true → listed.getD e.on false = true

theorem Closed.set {listed : Array Bool} {i : Nat} (h : Closed ops listed) (hi : i ∈ Region.ready .any ops listed) : Closed ops (listed.setIfInBounds i true) := by
  obtain ⟨_, oi, hoi, hall⟩ := mem_ready.1 hi
  intro j oj hj hl e he hb
  by_cases hij : i = j
  · subst hij
    have : oj = oi := Option.some.inj (hj.symm.trans hoi)
    subst this
    exact getD_set_true (hall e he hb)
  · rw [getD_set_ne false hij] at hl
    exact getD_set_true (h j oj hj hl e he hb)

theorem ahead_listed {listed : Array Bool} (hc : Closed ops listed) : ∀ (k j : Nat) (oj : Oper), ops[j]? = some oj → (∀ e ∈ oj.after, Region.binds .any e = true → listed.getD e.on false = true) →
    ∀ i ∈ aheadB ops k j, listed.getD i false = true
  | 0, _, _, _, _, i, hi => by simp [aheadB] at hi
  | k + 1, j, oj, hj, hall, i, hi => by
    simp only [aheadB, hj, List.mem_flatMap, List.mem_filter, List.mem_cons] at hi
    obtain ⟨e, ⟨he, hb⟩, hi⟩ := hi
    have h1 := hall e (by simpa using he) hb
    rcases hi with rfl | hi
    · exact h1
    · cases ho : ops[e.on]? with
      | none =>
        cases k with
        | zero => simp [aheadB] at hi
        | succ k => simp [aheadB, ho] at hi
      | some oe => exact ahead_listed hc k e.on oe ho (fun e' he' hb' => hc e.on oe ho h1 e' he' hb') i hi

/-- a load that is not yet listed does not come ahead of an operation that may come up -/
theorem chk_of {listed : Array Bool} (hc : Closed ops listed) {i j : Nat} {oi : Oper} (hi : ops[i]? = some oi) (hl : isLoad P oi = true) (hun : listed.getD i true = false) (hj : j ∈ Region.ready .any ops listed) (hne : i ≠ j) :
    chkB P ops j = true := by
  obtain ⟨_, oj, hoj, hall⟩ := mem_ready.1 hj
  have hlt : i < ops.size := (Array.getElem?_eq_some_iff.1 hi).1
  unfold chkB
  rw [List.any_eq_true]
  refine ⟨i, List.mem_range.2 hlt, ?_⟩
  simp only [hi, Bool.and_eq_true, bne_iff_ne, ne_eq, Bool.not_eq_true']
  refine ⟨⟨hne, hl⟩, ?_⟩
  cases hm : (aheadB ops ops.size j).contains i with
  | false => rfl
  | true =>
    have h1 := ahead_listed hc ops.size j oj hoj hall i (by simpa using hm)
    have : listed.getD i false = false := by
      rcases Nat.lt_or_ge i listed.size with h | h
      · simp [h] at hun ⊢; exact hun
      · simp [Array.getElem?_eq_none h]
    rw [this] at h1; cases h1

theorem YQ.wpOpIn {i : Nat} {o : Oper} {v : Value} {a : Act} (hi : ops[i]? = some o) (hy : YQ P ops C o v a) {K : Act → World → Prop} {w : World} (hC : isLoad P o = true → C w)
    (h : K (a.put o.dst v) w) : wpOpIn (Fk r) 0 P ops (fun _ _ _ => False) i K a w := by
  unfold Go.wpOpIn
  simp only [hi]
  rcases hy with ⟨hw, hd, hv⟩ | ⟨hw, rfl⟩
  · simp only [hw, if_true]
    refine ⟨fun _ _ => trivial, ?_⟩
    rw [semAt_of hd, hv w hC]
    exact h
  · simp only [hw, Bool.false_eq_true, if_false]; exact ⟨fun _ _ => trivial, h⟩

theorem wpOpIn_putQ {j : Nat} {oi oj : Oper} {v : Value} (hj : ops[j]? = some oj) (hap : oi.apart ops oj = true)
    (hsi : ∀ cs b, oi.op ≠ .select cs b) (hsj : ∀ cs b, oj.op ≠ .select cs b) {K : Act → World → Prop} {a : Act} {w : World}
    (hy : YQ P ops C oi v a) (h : wpOpIn (Fk r) 0 P ops (fun _ _ _ => False) j K (a.put oi.dst v) w) :
    wpOpIn (Fk r) 0 P ops (fun _ _ _ => False) j (fun a' w' => YQ P ops C oi v a' ∧ K (a'.put oi.dst v) w') a w := by
  obtain ⟨h1, h2, h3⟩ := Oper.apart_spec hap
  have keep : ∀ (a : Act), YQ P ops C oi v a → ∀ u, YQ P ops C oi v (a.put oj.dst u) := fun a hy u =>
    hy.of_same (execOp_put oi hsi a oj.dst u h3) (wanted_put oi a oj.dst u h3)
  have keepD : ∀ d, YQ P ops C oi v { a with defers := d :: a.defers } := fun d => hy.of_same rfl rfl
  have hsem : ∀ (a : Act) (u : Value), oj.semAt (Fk r).round (a.put oi.dst u).eval = oj.semAt (Fk r).round a.eval := by
    intro a u
    by_cases hd : ∀ c, oj.op ≠ .defer c
    · rw [semAt_of hd, semAt_of hd, execOp_put oj hsj a oi.dst u h1]
    · have hex := execOp_put oj hsj a oi.dst u h1
      cases r with
      | none => exact hex
      | some l =>
        have ⟨c, hc⟩ : ∃ c, oj.op = .defer c := by
          cases ho : oj.op <;> first | exact ⟨_, rfl⟩ | (exfalso; apply hd; intro c hc; rw [ho] at hc; cases hc)
        unfold Oper.semAt
        rw [Fk_round, hc]
        simp only
        have hr := resolve_congr (ρ := (a.put oi.dst u).eval) (ρ' := a.eval) c oj.type (fun x hx => Act.eval_put fun d hd' hxd => h1 d hd' (by
          subst hxd
          exact List.mem_append_left _ (List.mem_filterMap.2 ⟨.tmp d, by rw [hc]; simpa [Op.operands] using hx, rfl⟩)))
        rw [hr]
  unfold wpOpIn at *
  simp only [hj] at *
  rw [wanted_put oj a oi.dst v h1] at h
  split
  · rename_i hw
    simp only [hw, if_true] at h
    unfold Oper.wpIn at *
    refine ⟨fun _ _ => trivial, ?_⟩
    have h := h.2
    rw [hsem] at h
    generalize (oj.semAt (Fk r).round a.eval).run P w = q at *
    cases q with
    | ok x w' =>
      cases x <;> simp only [Oper.uponIn] at h ⊢
      case value u => exact ⟨keep a hy u, by rw [← Act.put_comm a v u h2]; exact h⟩
      case skip => exact ⟨keep a hy _, by rw [← Act.put_comm a v undef h2]; exact h⟩
      case defer d =>
        refine ⟨keep _ (keepD d) _, ?_⟩
        rw [← Act.put_comm _ v undef h2, ← Act.put_defers]
        exact h
      case enter f args =>
        refine ⟨h.1, CallsIn.mono h.2 fun e w'' he => ?_⟩
        cases e with
        | returned u => exact ⟨keep a hy u, by rw [← Act.put_comm a v u h2]; exact he⟩
        | panicked c => exact he
        | outgrown => exact he
      case row row args => exact ⟨h.1, RowsIn.mono h.2 fun u w'' he => ⟨keep a hy u, by rw [← Act.put_comm a v u h2]; exact he⟩⟩
      case round l f tmps assign body =>
        refine ⟨h.1, RoundIn.mono h.2 fun e w'' he => ?_⟩
        cases e with
        | returned u => exact ⟨keep a hy u, by rw [← Act.put_comm a v u h2]; exact he⟩
        | panicked c => exact he
        | outgrown => exact he
    | halt x w' =>
      cases x <;> simp only [Oper.uponIn] at h ⊢
  · rename_i hw
    simp only [hw] at h
    exact ⟨fun _ _ => trivial, keep a hy _, by rw [← Act.put_comm a v undef h2]; exact h.2⟩

theorem wpC_first {i : Nat} {oi : Oper} {v : Value} (hi : ops[i]? = some oi) (hq : isQuiet P ops i = true) (hsel : ∀ (j : Nat) (o : Oper) cs b, ops[j]? = some o → o.op ≠ .select cs b) :
    ∀ (fuel : Nat) (listed : Array Bool) (a : Act) (w : World),
      (∀ j oj, ops[j]? = some oj → j ≠ i → listed.getD j true = false → (∀ e ∈ oj.after, Region.binds .any e = true → e.on ≠ i) → oi.apart ops oj = true) →
      Closed ops listed → i ∈ Region.ready .any ops listed → YQ P ops C oi v a → (isLoad P oi = true → C w) →
      wpC P r C ops Q fuel (listed.setIfInBounds i true) (a.put oi.dst v) w → wpC P r C ops Q (fuel + 1) listed a w := by
  intro fuel
  induction fuel with
  | zero =>
    intro listed a w _ _ hr hy hC H
    refine ⟨fun h => (by rw [h] at hr; cases hr), fun j hj => ?_⟩
    by_cases hji : j = i
    · subst hji; exact hy.wpOpIn hi hC ⟨⟨fun _ => rfl, fun h => by rw [hq] at h; cases h⟩, H⟩
    · have := ready_mono hj hji
      rw [H.1] at this
      cases this
  | succ fuel ih =>
    intro listed a w hfree hcl hr hy hC H
    refine ⟨fun h => (by rw [h] at hr; cases hr), fun j hj => ?_⟩
    by_cases hji : j = i
    · subst hji; exact hy.wpOpIn hi hC ⟨⟨fun _ => rfl, fun h => by rw [hq] at h; cases h⟩, H⟩
    · have h1 := H.2 j (ready_mono hj hji)
      obtain ⟨hjun, oj, hoj, hall⟩ := mem_ready.1 hj
      have hiun := (mem_ready.1 hr).1
      have hnot : ∀ e ∈ oj.after, Region.binds .any e = true → e.on ≠ i := fun e he hb heq => by
        have h1 := hall e he hb
        rw [heq] at h1
        rcases Nat.lt_or_ge i listed.size with h' | h'
        · simp [h'] at hiun h1; rw [hiun] at h1; cases h1
        · simp [Array.getElem?_eq_none h'] at h1
      have h2 := wpOpIn_putQ hoj (hfree j oj hoj hji hjun hnot) (fun cs b => hsel i oi cs b hi) (fun cs b => hsel j oj cs b hoj) hy h1
      have hfree' : ∀ k ok, ops[k]? = some ok → k ≠ i → (listed.setIfInBounds j true).getD k true = false →
          (∀ e ∈ ok.after, Region.binds .any e = true → e.on ≠ i) → oi.apart ops ok = true := fun k ok hk hki hun hno => by
        refine hfree k ok hk hki ?_ hno
        by_cases hjk : j = k
        · subst hjk; exact hjun
        · rw [getD_set_ne true hjk] at hun; exact hun
      refine wpOpIn_weaken (fun a' w' h3 => ?_) (fun _ _ _ hf => hf) h2
      obtain ⟨hy', ⟨hA, hB⟩, hrest⟩ := h3
      refine ⟨⟨hA, hB⟩, ih (listed.setIfInBounds j true) a' w' hfree' (hcl.set hj) (ready_mono hr (Ne.symm hji)) hy' ?_ ?_⟩
      · intro hl
        cases hqj : isQuiet P ops j with
        | true => rw [hA hqj]; exact hC hl
        | false => exact hB hqj (chk_of hcl hi hl hiun hj (Ne.symm hji)) (hC hl)
      · rw [Array.setIfInBounds_comm _ _ hji]
        exact hrest

theorem getD_replicate_false' (m j : Nat) : (Array.replicate m false).getD j false = false := by
  rcases Nat.lt_or_ge j m with h | h
  · simp [h]
  · simp [h]

theorem wpAnyIn_mono {F : Fence} {m : Nat} {Q Q' : Exit → Act → World → Prop} (hQ : ∀ e a w, Q e a w → Q' e a w) : ∀ (f : Nat) (listed : Array Bool) (a : Act) (w : World), wpAnyIn F m P .any ops Q f listed a w → wpAnyIn F m P .any ops Q' f listed a w
  | 0, _, _, _, h => ⟨h.1, hQ _ _ _ h.2⟩
  | f + 1, _, _, _, h => ⟨fun h0 => hQ _ _ _ (h.1 h0), fun i hi => wpOpIn_weaken (fun a' w' hk => wpAnyIn_mono hQ f _ a' w' hk) hQ (h.2 i hi)⟩

/-! ### the judgement over trees -/
/-- what a quiet operation yields in a frame: computed; or loaded from what is stable -/
inductive QV (R : Segs) (E : Env) : XOp → Value → Prop
  | comp {x : XOp} {v : Value} : pstep (ev E) x = some v → QV R E x v
  | load1 {a : Operand} {b off : Nat} {c : Array Value} {ty : TypeId} {fz : Nat × Nat} {v : Value} : ev E a = .pointer (some ⟨b, off, none⟩) → [(b, Obj.cells c ty fz)] ∈ R → c[off]? = some v → QV R E (.load1 a) v
  | loadN {k : Nat} {a : Operand} {b off : Nat} {c : Array Value} {ty : TypeId} {fz : Nat × Nat} {l : List Value} : ev E a = .pointer (some ⟨b, off, none⟩) → [(b, Obj.cells c ty fz)] ∈ R → (c.toList.drop off).take k = l → l.length = k →
      QV R E (.loadN k a) (.agg l.toArray)

def YT (P : Program) (r : Option Nat) (n : Nat) (R : Segs) (K : Env → Segs → Prop) : XTree → Env → Segs → Prop
  | .done, E, S => K E S
  | .noalt, _, _ => True
  | .q o t, E, S => match o.guard with
    | none => ∃ v, QV R E o.op v ∧ YT P r n R K t (putE o.dst v E) S
    | some (g, b) => (gB (E g) = some b → ∃ v, QV R E o.op v ∧ YT P r n R K t (putE o.dst v E) S) ∧ (gB (E g) ≠ some b → YT P r n R K t (putE o.dst undef E) S)
  | .alt o chk t rest, E, S => (match o.guard with
    | none => YO P r n o.dst o.op (fun E' S' => (chk = true → ∀ s ∈ R, s ∈ S') ∧ YT P r n R K t E' S') E S
    | some (g, b) => (gB (E g) = some b → YO P r n o.dst o.op (fun E' S' => (chk = true → ∀ s ∈ R, s ∈ S') ∧ YT P r n R K t E' S') E S) ∧ (gB (E g) ≠ some b → YT P r n R K t (putE o.dst undef E) S)) ∧ YT P r n R K rest E S

theorem Cw_of_mem {R S F : Segs} {w : World} (hs : Sat (S ++ F) w) (h : ∀ s ∈ R, s ∈ S) : Cw R w := fun s hsR _x hx => hs.at_ (List.mem_append.2 (.inl (h s hsR))) hx

theorem QV.run {R : Segs} {E : Env} {x : XOp} {v : Value} (h : QV R E x v) {op : Op} {ty : TypeId} (hc : cop P op ty = x) (d : Option Tmp) (pos : String) (af : Array Edge) (g : Option (Nat × Bool)) :
    (∀ c, op ≠ .defer c) ∧ ∀ w, (loadOp x = true → Cw R w) → (execOp (ev E) (mk d op ty pos af g)).run P w = .ok (.value v) w := by
  cases h with
  | comp hv =>
    subst hc
    exact ⟨pstep_plain hv, fun w _ => pstep_run hv w⟩
  | @load1 a b off c tb fz v ha hm hv =>
    obtain ⟨t', rfl, hagg⟩ := cop_inv hc
    refine ⟨by simp, fun w hC => ?_⟩
    have hb : w.heap[b]? = some (.cells c tb fz) := hC rfl _ hm (b, _) (by simp)
    have hcell : w.cell? ⟨b, off, none⟩ = some v := by rw [cellOf hb, hv]
    simp [execOp, ha, Instr.loadAt, Instr.sureAddr, loadVar, Sem.run_bind, run_isAgg hagg, load_run hcell, Result.andThen, pure, Sem.run]
  | @loadN k a b off c tb fz l ha hm hv hk =>
    obtain ⟨t', rfl, hagg, hsz⟩ := cop_inv hc
    refine ⟨by simp, fun w hC => ?_⟩
    have hb : w.heap[b]? = some (.cells c tb fz) := hC rfl _ hm (b, _) (by simp)
    have hlen : k ≤ (c.toList.drop off).length := by rw [← hk, ← hv]; simp; omega
    have hr := loadCells_run (P := P) (b := b) (off := off) (w := w) (l := c.toList.drop off) k (fun j hj => by rw [cellOf hb]; simp) hlen
    rw [hv] at hr
    simp [execOp, ha, Instr.loadAt, Instr.sureAddr, loadVar, Sem.run_bind, run_isAgg hagg, run_sizeOf hsz, hr, Result.andThen, pure, Sem.run]

theorem wanted_of {o : Oper} {j : Nat} {b : Bool} {t : Tmp} {a : Act} (hg : o.guard = some (j, b)) (ht : (ops[j]?).bind (·.dst) = some t) : Region.wanted o (yielded ops a.tmps) = (gB (envOf a t) == some b) := by
  simp [Region.wanted, hg, yielded_gB ht]

theorem eq_not_of_ne {b c : Bool} (h : ¬ c = b) : c = !b := by cases b <;> cases c <;> simp_all

variable {R : Segs} {K : Env → Segs → Prop}

theorem wpC_of_tree (hs : Region.noSelect ops = true) {D : List Nat} {F : Segs} {w0 : World} : ∀ (fuel : Nat) (listed : Array Bool) (t : XTree), treeOf P n ops fuel listed = some t → ∀ (E : Env) (S : Segs) (a : Act) (w : World),
    St n D F E S a w → Ext w0 w → Closed ops listed → (∀ i oi, ops[i]? = some oi → isLoad P oi = true → listed.getD i true = false → Cw R w) → YT P r n R K t E S →
    wpC P r (Cw R) ops (fun e a' w' => e = .normal ∧ Ext w0 w' ∧ ∃ E' S', St n D F E' S' a' w' ∧ K E' S') fuel listed a w
  | 0, listed, t, ht, E, S, a, w, hst, hx, hcl, hld, hy => by
    simp only [treeOf] at ht
    split at ht
    · rename_i he
      simp only [Option.some.injEq] at ht; subst ht
      exact ⟨by simpa using he, rfl, hx, E, S, hst, hy⟩
    · cases ht
  | fuel + 1, listed, t, ht, E, S, a, w, hst, hx, hcl, hld, hy => by
    have ih := wpC_of_tree hs (D := D) (F := F) (w0 := w0) fuel
    simp only [treeOf] at ht
    split at ht
    · rename_i he
      simp only [Option.some.injEq] at ht; subst ht
      exact ⟨fun _ => ⟨rfl, hx, E, S, hst, hy⟩, fun i hi => by rw [he] at hi; cases hi⟩
    rename_i j l hready
    split at ht
    · -- a quiet one is taken
      rename_i i hfind
      have hqa := List.find?_some hfind
      have hmem : i ∈ Region.ready .any ops listed := by rw [hready]; exact List.mem_of_find?_eq_some hfind
      split at ht
      · rename_i o t' ho ht'
        simp only [Option.some.injEq] at ht; subst ht
        cases hoi : ops[i]? with
        | none => simp [hoi] at ho
        | some oi =>
        simp only [hoi, Option.bind_some] at ho
        unfold quietAt at hqa
        simp only [hoi, Bool.and_eq_true] at hqa
        have hun := (mem_ready.1 hmem).1
        have hq : isQuiet P ops i = true := by unfold isQuiet; rw [hoi]; exact hqa.1
        have next : ∀ v, YT P r n R K t' (putE oi.dst v E) S → dOk n oi.dst = true → YQ P ops (Cw R) oi v a →
            wpC P r (Cw R) ops (fun e a' w' => e = .normal ∧ Ext w0 w' ∧ ∃ E' S', St n D F E' S' a' w' ∧ K E' S') (fuel + 1) listed a w := by
          intro v hyt hd hyq
          refine wpC_first hoi hq (Region.noSelect_spec hs) fuel listed a w (Region.free_spec hoi hqa.2) hcl hmem hyq (fun hl => hld i oi hoi hl hun) ?_
          refine ih _ t' ht' (putE oi.dst v E) S (a.put oi.dst v) w (hst.put hd v hst.sat) hx (hcl.set hmem) ?_ hyt
          intro k ok hk hlk hkun
          refine hld k ok hk hlk ?_
          by_cases hik : i = k
          · subst hik; exact hun
          · rw [getD_set_ne true hik] at hkun; exact hkun
        obtain ⟨d, x, g⟩ := o
        cases g with
        | none =>
          obtain ⟨hg, rfl, rfl, hd⟩ := compOper_none ho
          obtain ⟨v, hqv, hyt⟩ := hy
          obtain ⟨hdf, hrun⟩ := hqv.run (P := P) rfl oi.dst oi.pos oi.after oi.guard
          refine next v hyt hd (.inl ⟨by simp [Region.wanted, hg], hdf, fun w' hC => ?_⟩)
          rw [eval_envOf, hst.env]
          exact hrun w' hC
        | some gb =>
          obtain ⟨gt, b⟩ := gb
          obtain ⟨jj, hg, ht2, rfl, rfl, hd⟩ := compOper_some ho
          obtain ⟨h1, h2⟩ := hy
          have hw := wanted_of (a := a) hg ht2
          rw [hst.env] at hw
          by_cases hcb : gB (E gt) = some b
          · obtain ⟨v, hqv, hyt⟩ := h1 hcb
            obtain ⟨hdf, hrun⟩ := hqv.run (P := P) rfl oi.dst oi.pos oi.after oi.guard
            refine next v hyt hd (.inl ⟨by rw [hw]; simp [hcb], hdf, fun w' hC => ?_⟩)
            rw [eval_envOf, hst.env]
            exact hrun w' hC
          · exact next undef (h2 hcb) hd (.inr ⟨by rw [hw]; simp [hcb], rfl⟩)
      · cases ht
    · -- the loud ones, each
      rename_i hnone
      refine ⟨fun h => (by rw [hready] at h; cases h), ?_⟩
      have key : ∀ (L : List Nat) (t : XTree), altsWith P n ops (fun i => treeOf P n ops fuel (listed.setIfInBounds i true)) L = some t → YT P r n R K t E S → (∀ i ∈ L, i ∈ Region.ready .any ops listed) → ∀ i ∈ L,
          wpOpIn (Fk r) 0 P ops (fun _ _ _ => False) i (fun a' w' => ((isQuiet P ops i = true → w' = w) ∧ (isQuiet P ops i = false → chkB P ops i = true → Cw R w → Cw R w')) ∧
            wpC P r (Cw R) ops (fun e a' w' => e = .normal ∧ Ext w0 w' ∧ ∃ E' S', St n D F E' S' a' w' ∧ K E' S') fuel (listed.setIfInBounds i true) a' w') a w := by
        intro L
        induction L with
        | nil => intro _ _ _ _ i hi; cases hi
        | cons k L ihL =>
          intro t ht hy hsub i hi
          simp only [altsWith] at ht
          split at ht
          · rename_i o t' rest ho ht' hrest
            split at ht
            · cases ht
            rename_i hnq
            simp only [Option.some.injEq] at ht; subst ht
            rcases List.mem_cons.1 hi with rfl | hi'
            · have hmem := hsub i (by simp)
              have hun := (mem_ready.1 hmem).1
              cases hoi : ops[i]? with
              | none => simp [hoi] at ho
              | some oi =>
              simp only [hoi, Option.bind_some] at ho
              have hy1 := hy.1
              have hq : quietOp o.op = false := by simpa using hnq
              have fin : ∀ (w' : World) (a' : Act) (E' : Env) (S' : Segs), Ext w w' → St n D F E' S' a' w' → (∀ k ok, ops[k]? = some ok → isLoad P ok = true → (listed.setIfInBounds i true).getD k true = false → Cw R w') → YT P r n R K t' E' S' →
                  wpC P r (Cw R) ops (fun e a' w' => e = .normal ∧ Ext w0 w' ∧ ∃ E' S', St n D F E' S' a' w' ∧ K E' S') fuel (listed.setIfInBounds i true) a' w' := by
                intro w' a' E' S' hx' hst' hchk hyt
                exact ih _ t' ht' E' S' a' w' hst' (hx.trans hx') (hcl.set hmem) hchk hyt
              have unl : ∀ k, (listed.setIfInBounds i true).getD k true = false → i ≠ k ∧ listed.getD k true = false := by
                intro k hk
                have hik : i ≠ k := by
                  intro h; subst h
                  simp only [Array.getD_eq_getD_getElem?, Array.getElem?_setIfInBounds_self] at hk
                  split at hk <;> simp at hk
                rw [getD_set_ne true hik] at hk
                exact ⟨hik, hk⟩
              have isq : isQuiet P ops i = quietOp (cop P oi.op oi.type) := by unfold isQuiet; rw [hoi]
              unfold wpOpIn
              simp only [hoi]
              obtain ⟨d, x, g⟩ := o
              have wanted1 : (Region.wanted oi (yielded ops a.tmps) = true) → oi.dst = d → cop P oi.op oi.type = x → dOk n d = true →
                  YO P r n d x (fun E' S' => (chkB P ops i = true → ∀ s ∈ R, s ∈ S') ∧ YT P r n R K t' E' S') E S →
                  Oper.wpIn (Fk r) 0 P oi a w (fun a' w' => ((isQuiet P ops i = true → w' = w) ∧ (isQuiet P ops i = false → chkB P ops i = true → Cw R w → Cw R w')) ∧
                    wpC P r (Cw R) ops (fun e a' w' => e = .normal ∧ Ext w0 w' ∧ ∃ E' S', St n D F E' S' a' w' ∧ K E' S') fuel (listed.setIfInBounds i true) a' w') (fun _ _ _ => False) := by
                intro hw hd hx2 hdok hyo
                subst hd
                refine Oper.wpIn_mono (hyo oi.op oi.type oi.pos oi.after oi.guard hx2 hdok D F a w hst) ?_ (fun _ _ _ hf => hf)
                rintro a' w' ⟨hx', E', S', hst', hchk, hyt⟩
                have hCw : chkB P ops i = true → Cw R w' := fun h => Cw_of_mem hst'.sat (hchk h)
                exact ⟨⟨(fun h => by rw [isq, hx2] at h; rw [h] at hq; cases hq), fun _ hch _ => hCw hch⟩,
                  fin w' a' E' S' hx' hst' (fun k ok hk hlk hkun => hCw (chk_of hcl hk hlk (unl k hkun).2 hmem (Ne.symm (unl k hkun).1))) hyt⟩
              cases g with
              | none =>
                obtain ⟨hg, rfl, rfl, hd⟩ := compOper_none ho
                have hw : Region.wanted oi (yielded ops a.tmps) = true := by simp [Region.wanted, hg]
                rw [if_pos hw]
                exact wanted1 hw rfl rfl hd hy1
              | some gb =>
                obtain ⟨gt, b⟩ := gb
                obtain ⟨jj, hg, ht2, rfl, rfl, hd⟩ := compOper_some ho
                obtain ⟨h1, h2⟩ := hy1
                have hw := wanted_of (a := a) hg ht2
                rw [hst.env] at hw
                by_cases hcb : gB (E gt) = some b
                · have hw' : Region.wanted oi (yielded ops a.tmps) = true := by rw [hw]; simp [hcb]
                  rw [if_pos hw']
                  exact wanted1 hw' rfl rfl hd (h1 hcb)
                · have hw' : ¬ Region.wanted oi (yielded ops a.tmps) = true := by rw [hw]; simp [hcb]
                  rw [if_neg hw']
                  refine ⟨fun _ _ => trivial, ⟨fun _ => trivial, fun _ _ h => h⟩, ?_⟩
                  exact fin w _ (putE oi.dst undef E) S (Ext.refl w) (hst.put hd undef hst.sat) (fun k ok hk hlk hkun => hld k ok hk hlk (unl k hkun).2) (h2 hcb)
            · exact ihL rest hrest hy.2 (fun i hi => hsub i (by simp [hi])) i hi'
          · cases ht
      exact key (j :: l) t ht hy (fun i hi => by rw [hready]; exact hi) |> fun h => by rw [hready]; exact h
end

section
variable {P : Program} {n : Nat} {r : Option Nat} {R S : Segs} {K : Env → Segs → Prop} {Q : Exit → Env → Segs → Prop} {E : Env}

/-- A REGION THAT DRAWS ITS ORDER; R: the chunks that stay as they are while something may still be read -/
theorem ydrawR {t : XTree} (hR : ∀ s ∈ R, s ∈ S) (h : YT P r n R (fun E S => Q .normal E S) t E S) : Y P r n (.draw t) Q E S := by
  intro c hc
  obtain ⟨id, ops, rfl, hm, hns, htr⟩ := (comp_inv hc).2.2.2.2.2.2.2.2.2.2.2 t rfl
  intro D F a w hst
  have hst' : St n D F E S a { w with drawn := w.drawn + 1 } := ⟨hst.size, hst.env, hst.defers, ⟨SatL.nodup hst.sat, fun x hx => SatL.at_ (w := w) hst.sat x hx⟩⟩
  have hx : Ext w { w with drawn := w.drawn + 1 } := ⟨rfl, rfl, rfl, Nat.le_refl _⟩
  refine wpIn_region_any hm ?_
  have hcl : Closed ops (Array.replicate ops.size false) := by
    intro j oj hj hl
    rw [getD_replicate_false'] at hl; cases hl
  have := wpC_of_tree (K := fun E S => Q .normal E S) hns (D := D) (F := F) (w0 := w) ops.size _ t htr E S a _ hst' hx hcl (fun _ _ _ _ _ => Cw_of_mem hst'.sat hR) h
  have h2 := wpAny_of_wpC _ _ _ _ this
  exact wpAnyIn_mono (fun e a' w' ⟨he, hx', E', S', s', k⟩ => by subst he; exact ⟨hx', D, E', S', s', k⟩) _ _ _ _ h2
theorem ydraw {t : XTree} (h : YT P r n S (fun E S => Q .normal E S) t E S) : Y P r n (.draw t) Q E S := ydrawR (fun _ h => h) h

theorem ytdone (h : K E S) : YT P r n R K .done E S := h
theorem ytno : YT P r n R K .noalt E S := trivial
theorem ytq {d : Option Tmp} {o : XOp} {v : Value} {t : XTree} (hv : pstep (ev E) o = some v) (h : YT P r n R K t (putE d v E) S) : YT P r n R K (.q ⟨d, o, none⟩ t) E S := ⟨v, .comp hv, h⟩
theorem ytl1 {d : Option Tmp} {a : Operand} {b off : Nat} {c : Array Value} {ty : TypeId} {fz : Nat × Nat} {f : Obj → Segs} {v : Value} {t : XTree} [hA : At R b (.cells c ty fz) f]
    (ha : ev E a = .pointer (some ⟨b, off, none⟩)) (hv' : c.toList[off]? = some v) (h : YT P r n R K t (putE d v E) S) : YT P r n R K (.q ⟨d, .load1 a, none⟩ t) E S := by
  have hv : c[off]? = some v := by simpa using hv'
  obtain ⟨S1, S2, e, _⟩ := hA.ex
  exact ⟨v, .load1 (ty := ty) (fz := fz) ha (by rw [e]; exact List.mem_append.2 (.inr (List.mem_cons_self ..))) hv, h⟩
theorem ytlN {d : Option Tmp} {a : Operand} {b off k : Nat} {c : Array Value} {ty : TypeId} {fz : Nat × Nat} {f : Obj → Segs} {l : List Value} {t : XTree} [hA : At R b (.cells c ty fz) f]
    (ha : ev E a = .pointer (some ⟨b, off, none⟩)) (hv : (c.toList.drop off).take k = l) (hk : l.length = k) (h : YT P r n R K t (putE d (.agg l.toArray) E) S) : YT P r n R K (.q ⟨d, .loadN k a, none⟩ t) E S := by
  obtain ⟨S1, S2, e, _⟩ := hA.ex
  exact ⟨_, .loadN (ty := ty) (fz := fz) ha (by rw [e]; exact List.mem_append.2 (.inr (List.mem_cons_self ..))) hv hk, h⟩
theorem ytgT {d : Option Tmp} {o : XOp} {g : Tmp} {b : Bool} {t : XTree} (hv : E g = .bool b) (h : YT P r n R K (.q ⟨d, o, none⟩ t) E S) : YT P r n R K (.q ⟨d, o, some (g, b)⟩ t) E S := by
  obtain ⟨v, hq, hy⟩ := h
  exact ⟨fun _ => ⟨v, hq, hy⟩, fun hc => absurd (by rw [hv]; rfl) hc⟩
theorem ytgF {d : Option Tmp} {o : XOp} {g : Tmp} {b : Bool} {t : XTree} (hv : E g = .bool (!b)) (h : YT P r n R K t (putE d undef E) S) : YT P r n R K (.q ⟨d, o, some (g, b)⟩ t) E S :=
  ⟨fun hc => absurd hc (gB_ne hv), fun _ => h⟩
/-- behind an operation that was passed over -/
theorem ytgU {d : Option Tmp} {o : XOp} {g : Tmp} {b : Bool} {t : XTree} (hv : E g = undef) (h : YT P r n R K t (putE d undef E) S) : YT P r n R K (.q ⟨d, o, some (g, b)⟩ t) E S :=
  ⟨(fun hc => by rw [hv] at hc; cases hc), fun _ => h⟩
/-- the guard's value is not known: both ways -/
theorem ytg {d : Option Tmp} {o : XOp} {g : Tmp} {b c : Bool} {t : XTree} (hv : E g = .bool c) (h1 : c = b → YT P r n R K (.q ⟨d, o, none⟩ t) E S) (h2 : c = !b → YT P r n R K t (putE d undef E) S) : YT P r n R K (.q ⟨d, o, some (g, b)⟩ t) E S :=
  ⟨fun hc => h1 (by rw [hv] at hc; exact Option.some.inj hc), fun hc => h2 (eq_not_of_ne fun e => hc (by rw [hv, e]; rfl))⟩
theorem ytalt {d : Option Tmp} {o : XOp} {t rest : XTree} (h : YO P r n d o (YT P r n R K t) E S) (h2 : YT P r n R K rest E S) : YT P r n R K (.alt ⟨d, o, none⟩ false t rest) E S := by
  refine ⟨?_, h2⟩
  intro op ty pos af g hc hd D F a w hs
  refine Oper.wpIn_mono (h op ty pos af g hc hd D F a w hs) ?_ (fun _ _ _ hf => hf)
  rintro a' w' ⟨hx, E', S', hs', hk⟩
  exact ⟨hx, E', S', hs', (fun h => by cases h), hk⟩
/-- the same, where something may still be read behind it: what is stable stays -/
theorem ytaltC {d : Option Tmp} {o : XOp} {c : Bool} {t rest : XTree} (h : YO P r n d o (fun E' S' => (∀ s ∈ R, s ∈ S') ∧ YT P r n R K t E' S') E S) (h2 : YT P r n R K rest E S) : YT P r n R K (.alt ⟨d, o, none⟩ c t rest) E S := by
  refine ⟨?_, h2⟩
  intro op ty pos af g hc hd D F a w hs
  refine Oper.wpIn_mono (h op ty pos af g hc hd D F a w hs) ?_ (fun _ _ _ hf => hf)
  rintro a' w' ⟨hx, E', S', hs', hR, hk⟩
  exact ⟨hx, E', S', hs', (fun _ => hR), hk⟩
theorem ytaltT {d : Option Tmp} {o : XOp} {c : Bool} {g : Tmp} {b : Bool} {t rest : XTree} (hv : E g = .bool b) (h : YT P r n R K (.alt ⟨d, o, none⟩ c t .noalt) E S) (h2 : YT P r n R K rest E S) : YT P r n R K (.alt ⟨d, o, some (g, b)⟩ c t rest) E S :=
  ⟨⟨fun _ => h.1, fun hc => absurd (by rw [hv]; rfl) hc⟩, h2⟩
theorem ytaltF {d : Option Tmp} {o : XOp} {c : Bool} {g : Tmp} {b : Bool} {t rest : XTree} (hv : E g = .bool (!b)) (h : YT P r n R K t (putE d undef E) S) (h2 : YT P r n R K rest E S) : YT P r n R K (.alt ⟨d, o, some (g, b)⟩ c t rest) E S :=
  ⟨⟨fun hc => absurd hc (gB_ne hv), fun _ => h⟩, h2⟩
theorem ytaltU {d : Option Tmp} {o : XOp} {c : Bool} {g : Tmp} {b : Bool} {t rest : XTree} (hv : E g = undef) (h : YT P r n R K t (putE d undef E) S) (h2 : YT P r n R K rest E S) : YT P r n R K (.alt ⟨d, o, some (g, b)⟩ c t rest) E S :=
  ⟨⟨(fun hc => by rw [hv] at hc; cases hc), fun _ => h⟩, h2⟩
end
end Go.Xs
