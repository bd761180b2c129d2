/- Code with what is static resolved; the judgements over it; structural rules, computing operations, calls. -/
import Derived.Test.YtkdbajfaaifkaaaSound2
namespace Go.Xs

structure XOper where
  dst : Option Tmp
  op : XOp
  guard : Option (Tmp × Bool)
  deriving Inhabited

inductive XTree where
  | done
  | q (o : XOper) (t : XTree)
  | alt (o : XOper) (chk : Bool) (t rest : XTree)
  | noalt
  deriving Inhabited

inductive XCode where
  | skip
  | label (l : Nat)
  | region (ops : List XOper)
  | draw (t : XTree)
  | seq (a b : XCode)
  | cond (c : Operand) (thn els : XCode)
  | block (id : Nat) (c : XCode)
  | loop (c : XCode)
  | exit (id : Nat)
  | ret
  | goto (l : Nat)
  | range (f : Operand) (params : List Tmp) (assign body : XCode)
  | bad
  deriving Inhabited

def compOper (P : Program) (n : Nat) (ops : Array Oper) (o : Oper) : Option XOper :=
  if dOk n o.dst then
    match o.guard with
    | none => some ⟨o.dst, cop P o.op o.type, none⟩
    | some (j, b) => match (ops[j]?).bind (·.dst) with
      | some t => some ⟨o.dst, cop P o.op o.type, some (t, b)⟩
      | none => none
  else none
def compOps (P : Program) (n : Nat) (ops : Array Oper) : List Oper → Option (List XOper)
  | [] => some []
  | o :: l => match compOper P n ops o, compOps P n ops l with
    | some x, some xs => some (x :: xs)
    | _, _ => none

/-! ### regions that draw their order: the tree of the orders in which every quiet operation is taken as early as it may be -/
def quietOp : XOp → Bool
  | .load1 _ => true
  | .loadN _ _ => true
  | .alloc _ _ => false
  | .box _ _ => false
  | .store _ _ _ => false
  | .bsl _ _ _ _ _ => false
  | .mksl _ _ _ _ _ _ => false
  | .app _ _ _ _ _ _ => false
  | .copy _ _ _ => false
  | .clr _ _ => false
  | .b2s _ => false
  | .s2b _ _ => false
  | .call _ _ => false
  | .raw _ _ => false
  | _ => true
def loadOp : XOp → Bool
  | .load1 _ => true
  | .loadN _ _ => true
  | _ => false

/-- the operations that surely come ahead of operation j, by their edges -/
def aheadB (ops : Array Oper) : Nat → Nat → List Nat
  | 0, _ => []
  | k + 1, j => match ops[j]? with
    | some o => (o.after.toList.filter (Region.binds .any)).flatMap fun e => e.on :: aheadB ops k e.on
    | none => []
/-- is there a load that need not come ahead of j? -/
def chkB (P : Program) (ops : Array Oper) (j : Nat) : Bool :=
  (List.range ops.size).any fun i => i != j && (match ops[i]? with | some o => loadOp (cop P o.op o.type) | none => false) && !(aheadB ops ops.size j).contains i

def altsWith (P : Program) (n : Nat) (ops : Array Oper) (f : Nat → Option XTree) : List Nat → Option XTree
  | [] => some .noalt
  | i :: l => match (ops[i]?).bind (compOper P n ops), f i, altsWith P n ops f l with
    | some o, some t, some rest => if quietOp o.op then none else some (.alt o (chkB P ops i) t rest)
    | _, _, _ => none
def quietAt (P : Program) (ops : Array Oper) (listed : Array Bool) (i : Nat) : Bool :=
  match ops[i]? with
  | some o => quietOp (cop P o.op o.type) && Region.free .any ops listed i
  | none => false
def treeOf (P : Program) (n : Nat) (ops : Array Oper) : Nat → Array Bool → Option XTree
  | 0, listed => if (Region.ready .any ops listed).isEmpty then some .done else none
  | fuel + 1, listed =>
    match Region.ready .any ops listed with
    | [] => some .done
    | j :: l => match (j :: l).find? (quietAt P ops listed) with
      | some i => match (ops[i]?).bind (compOper P n ops), treeOf P n ops fuel (listed.setIfInBounds i true) with
        | some o, some t => some (.q o t)
        | _, _ => none
      | none => altsWith P n ops (fun i => treeOf P n ops fuel (listed.setIfInBounds i true)) (j :: l)

def compRegion (P : Program) (n : Nat) (ops : Array Oper) (draw : Bool) : XCode :=
  if draw then
    if P.follows .mixedOrders && Region.noSelect ops then
      match treeOf P n ops ops.size (Array.replicate ops.size false) with
      | some t => .draw t
      | none => .bad
    else .bad
  else match compOps P n ops ops.toList with
    | some l => .region l
    | none => .bad

def comp (P : Program) (n : Nat) : Code → XCode
  | .skip => .skip
  | .region _ ops draw => compRegion P n ops draw
  | .seq a b => .seq (comp P n a) (comp P n b)
  | .cond c a b => .cond c (comp P n a) (comp P n b)
  | .block id c => .block id (comp P n c)
  | .loop c => .loop (comp P n c)
  | .rangeFunc f ps a b => .range f ps.toList (comp P n a) (comp P n b)
  | .exit id => .exit id
  | .label l => .label l
  | .ret => .ret
  | .goto l => .goto l
  | _ => .bad

variable {P : Program} {r : Option Nat} {n : Nat} {Q Q' : Exit → Env → Segs → Prop} {K K' : Env → Segs → Prop} {E : Env} {S : Segs}

def Y (P : Program) (r : Option Nat) (n : Nat) (x : XCode) (Q : Exit → Env → Segs → Prop) (E : Env) (S : Segs) : Prop :=
  ∀ c, comp P n c = x → X P r n c Q E S
def YL (P : Program) (r : Option Nat) (n : Nat) (l : List XOper) (K : Env → Segs → Prop) (E : Env) (S : Segs) : Prop :=
  ∀ ops l', compOps P n ops l' = some l → XL P r n ops l' K E S
def YO (P : Program) (r : Option Nat) (n : Nat) (d : Option Tmp) (x : XOp) (K : Env → Segs → Prop) (E : Env) (S : Segs) : Prop :=
  ∀ op ty pos af g, cop P op ty = x → dOk n d = true → XO P r n (mk d op ty pos af g) K E S

theorem Y.mono {x : XCode} (h : Y P r n x Q E S) (hq : ∀ e E S, Q e E S → Q' e E S) : Y P r n x Q' E S := fun c hc => (h c hc).mono hq
theorem Y.perm {x : XCode} {S₂ : Segs} (p : S₂.flatten.Perm S.flatten) (h : Y P r n x Q E S) : Y P r n x Q E S₂ := fun c hc => (h c hc).perm p

theorem compRegion_shape (ops : Array Oper) (draw : Bool) : (∃ l, compRegion P n ops draw = .region l) ∨ (∃ t, compRegion P n ops draw = .draw t) ∨ compRegion P n ops draw = .bad := by
  unfold compRegion
  split
  · split
    · split
      · exact .inr (.inl ⟨_, rfl⟩)
      · exact .inr (.inr rfl)
    · exact .inr (.inr rfl)
  · split
    · exact .inl ⟨_, rfl⟩
    · exact .inr (.inr rfl)

theorem comp_inv {c : Code} {x : XCode} (h : comp P n c = x) :
    (∀ a b, x = .seq a b → ∃ c1 c2, c = .seq c1 c2 ∧ comp P n c1 = a ∧ comp P n c2 = b) ∧
    (∀ o a b, x = .cond o a b → ∃ c1 c2, c = .cond o c1 c2 ∧ comp P n c1 = a ∧ comp P n c2 = b) ∧
    (∀ id a, x = .block id a → ∃ c1, c = .block id c1 ∧ comp P n c1 = a) ∧
    (∀ a, x = .loop a → ∃ c1, c = .loop c1 ∧ comp P n c1 = a) ∧
    (∀ f ps a b, x = .range f ps a b → ∃ c1 c2, c = .rangeFunc f ps.toArray c1 c2 ∧ comp P n c1 = a ∧ comp P n c2 = b) ∧
    (∀ id, x = .exit id → c = .exit id) ∧ (∀ l, x = .label l → c = .label l) ∧ (∀ l, x = .goto l → c = .goto l) ∧ (x = .ret → c = .ret) ∧ (x = .skip → c = .skip) ∧
    (∀ l, x = .region l → ∃ id ops, c = .region id ops false ∧ compOps P n ops ops.toList = some l) ∧
    (∀ t, x = .draw t → ∃ id ops, c = .region id ops true ∧ P.follows .mixedOrders = true ∧ Region.noSelect ops = true ∧ treeOf P n ops ops.size (Array.replicate ops.size false) = some t) := by
  subst h
  cases c with
  | region id ops draw =>
    simp only [comp]
    rcases compRegion_shape (P := P) (n := n) ops draw with ⟨l, hl⟩ | ⟨t, ht⟩ | hb
    · rw [hl]
      simp only [reduceCtorEq, XCode.region.injEq, false_implies, implies_true, and_true, true_and]
      rintro l' rfl
      refine ⟨id, ops, ?_, ?_⟩
      · unfold compRegion at hl; cases draw with
        | false => rfl
        | true => (repeat' split at hl) <;> simp_all
      · unfold compRegion at hl; cases draw with
        | false => simp only [Bool.false_eq_true, if_false] at hl; split at hl <;> simp_all
        | true => (repeat' split at hl) <;> simp_all
    · rw [ht]
      simp only [reduceCtorEq, XCode.draw.injEq, false_implies, implies_true, true_and]
      rintro t' rfl
      unfold compRegion at ht
      cases draw with
      | false => simp only [Bool.false_eq_true, if_false] at ht; split at ht <;> simp_all
      | true =>
        simp only [if_true] at ht
        split at ht
        · rename_i hc
          simp only [Bool.and_eq_true] at hc
          split at ht
          · rename_i t' htr
            simp only [XCode.draw.injEq] at ht
            subst ht
            exact ⟨id, ops, rfl, hc.1, hc.2, htr⟩
          · cases ht
        · cases ht
    · rw [hb]; simp
  | seq a b => simp [comp]; exact ⟨_, _, ⟨rfl, rfl⟩, rfl, rfl⟩
  | cond c a b => simp [comp]; exact ⟨_, _, ⟨rfl, rfl⟩, rfl, rfl⟩
  | rangeFunc f ps a b => simp [comp]; rintro g q x y rfl rfl rfl rfl; exact ⟨_, _, ⟨rfl, rfl, rfl, rfl⟩, rfl, rfl⟩
  | _ => simp [comp]

theorem yskip (h : Q .normal E S) : Y P r n .skip Q E S := fun c hc => by rw [(comp_inv hc).2.2.2.2.2.2.2.2.2.1 rfl]; exact xskip h
theorem ylabel {l : Nat} (h : Q .normal E S) : Y P r n (.label l) Q E S := fun c hc => by rw [(comp_inv hc).2.2.2.2.2.2.1 l rfl]; exact xlabel h
theorem ygoto {l : Nat} (h : Q (.goto l) E S) : Y P r n (.goto l) Q E S := fun c hc => by rw [(comp_inv hc).2.2.2.2.2.2.2.1 l rfl]; exact xgoto h
theorem yexit {id : Nat} (h : Q (.exit id) E S) : Y P r n (.exit id) Q E S := fun c hc => by rw [(comp_inv hc).2.2.2.2.2.1 id rfl]; exact xexit h
theorem yret (h : Q .ret E S) : Y P r n .ret Q E S := fun c hc => by rw [(comp_inv hc).2.2.2.2.2.2.2.2.1 rfl]; exact xret h
theorem yseq {a b : XCode} (h : Y P r n a (thenQ (Y P r n b Q) Q) E S) : Y P r n (.seq a b) Q E S := by
  intro c hc
  obtain ⟨c1, c2, rfl, h1, h2⟩ := (comp_inv hc).1 a b rfl
  refine xseq ((h c1 h1).mono ?_)
  intro e E S hq
  cases e with
  | normal => exact hq c2 h2
  | _ => exact hq
theorem yblock {id : Nat} {a : XCode} (h : Y P r n a (blockQ id Q) E S) : Y P r n (.block id a) Q E S := by
  intro c hc
  obtain ⟨c1, rfl, h1⟩ := (comp_inv hc).2.2.1 id a rfl
  exact xblock (h c1 h1)
theorem ycond {o : Operand} {a b : XCode} {t : Bool} (ho : ev E o = .bool t) (h1 : t = true → Y P r n a Q E S) (h2 : t = false → Y P r n b Q E S) : Y P r n (.cond o a b) Q E S := by
  intro c hc
  obtain ⟨c1, c2, rfl, e1, e2⟩ := (comp_inv hc).2.1 o a b rfl
  exact xcond ho (fun h => h1 h c1 e1) (fun h => h2 h c2 e2)
theorem ycondT {o : Operand} {a b : XCode} (ho : ev E o = .bool true) (h : Y P r n a Q E S) : Y P r n (.cond o a b) Q E S := ycond ho (fun _ => h) (fun h => by cases h)
theorem ycondF {o : Operand} {a b : XCode} (ho : ev E o = .bool false) (h : Y P r n b Q E S) : Y P r n (.cond o a b) Q E S := ycond ho (fun h => by cases h) (fun _ => h)
theorem ycondD {o : Operand} {a b : XCode} {p : Prop} [Decidable p] (ho : ev E o = .bool (decide p)) (h1 : p → Y P r n a Q E S) (h2 : ¬ p → Y P r n b Q E S) : Y P r n (.cond o a b) Q E S :=
  ycond ho (fun h => h1 (by simpa using h)) (fun h => h2 (by simpa using h))
theorem ycondN {o : Operand} {a b : XCode} {p : Prop} [Decidable p] (ho : ev E o = .bool (!decide p)) (h1 : ¬ p → Y P r n a Q E S) (h2 : p → Y P r n b Q E S) : Y P r n (.cond o a b) Q E S :=
  ycond ho (fun h => h1 (by simpa using h)) (fun h => h2 (by simpa using h))

theorem yloop {a : XCode} {σ : Type} (I : σ → Env → Segs → Prop) (μ : σ → Nat) (s₀ : σ) (h₀ : I s₀ E S)
    (hr : ∀ s E S, I s E S → Y P r n a (thenQ (fun E' S' => ∃ s', I s' E' S' ∧ μ s' < μ s) Q) E S) : Y P r n (.loop a) Q E S := by
  intro c hc
  obtain ⟨c1, rfl, h1⟩ := (comp_inv hc).2.2.2.1 a rfl
  exact xloop I μ s₀ h₀ fun s E S hI => hr s E S hI c1 h1

theorem yregion {l : List XOper} (h : YL P r n l (fun E S => Q .normal E S) E S) : Y P r n (.region l) Q E S := by
  intro c hc
  obtain ⟨id, ops, rfl, h1⟩ := (comp_inv hc).2.2.2.2.2.2.2.2.2.2.1 l rfl
  have := xregion (P := P) (r := r) (n := n) (Q := Q) (E := E) (S := S) (id := id) (l := ops.toList) (h ops.toList.toArray ops.toList (by simpa using h1))
  simpa using this

theorem compOps_cons {ops : Array Oper} {l' : List Oper} {x : XOper} {l : List XOper} (h : compOps P n ops l' = some (x :: l)) : ∃ o l'', l' = o :: l'' ∧ compOper P n ops o = some x ∧ compOps P n ops l'' = some l := by
  cases l' with
  | nil => simp [compOps] at h
  | cons o l'' =>
    simp only [compOps] at h
    split at h
    · rename_i y ys hy hys
      simp only [Option.some.injEq, List.cons.injEq] at h
      obtain ⟨rfl, rfl⟩ := h
      exact ⟨o, l'', rfl, hy, hys⟩
    · cases h

theorem ynil (h : K E S) : YL P r n [] K E S := by
  intro ops l' hl
  cases l' with
  | nil => exact xnil h
  | cons o l'' =>
    simp only [compOps] at hl
    split at hl <;> simp at hl

theorem compOper_none {ops : Array Oper} {o : Oper} {d : Option Tmp} {x : XOp} (h : compOper P n ops o = some ⟨d, x, none⟩) : o.guard = none ∧ o.dst = d ∧ cop P o.op o.type = x ∧ dOk n d = true := by
  unfold compOper at h
  split at h
  · rename_i hd
    split at h
    · rename_i hg
      simp only [Option.some.injEq, XOper.mk.injEq, and_true] at h
      obtain ⟨rfl, rfl⟩ := h
      exact ⟨hg, rfl, rfl, hd⟩
    · split at h <;> simp at h
  · cases h
theorem compOper_some {ops : Array Oper} {o : Oper} {d : Option Tmp} {x : XOp} {t : Tmp} {b : Bool} (h : compOper P n ops o = some ⟨d, x, some (t, b)⟩) :
    ∃ j, o.guard = some (j, b) ∧ (ops[j]?).bind (·.dst) = some t ∧ o.dst = d ∧ cop P o.op o.type = x ∧ dOk n d = true := by
  unfold compOper at h
  split at h
  · rename_i hd
    split at h
    · simp at h
    · rename_i j b' hg
      split at h
      · rename_i t' ht
        simp only [Option.some.injEq, XOper.mk.injEq, Prod.mk.injEq] at h
        obtain ⟨rfl, rfl, rfl, rfl⟩ := h
        exact ⟨j, hg, ht, rfl, rfl, hd⟩
      · cases h
  · cases h

theorem ycons {d : Option Tmp} {x : XOp} {l : List XOper} (h : YO P r n d x (YL P r n l K) E S) : YL P r n (⟨d, x, none⟩ :: l) K E S := by
  intro ops l' hl
  obtain ⟨o, l'', rfl, h1, h2⟩ := compOps_cons hl
  obtain ⟨hg, rfl, rfl, hd⟩ := compOper_none h1
  refine xcons hg ?_
  have := h o.op o.type o.pos o.after o.guard rfl hd
  intro D F a w hs
  refine Oper.wpIn_mono (this D F a w hs) ?_ (fun _ _ _ hf => hf)
  rintro a' w' ⟨hx, E', S', hs', hk⟩
  exact ⟨hx, E', S', hs', hk ops l'' h2⟩

theorem defer_raw {op : Op} {ty : TypeId} (c : Go.Call) (h : op = .defer c) : cop P op ty = .raw op ty := by subst h; rfl

theorem yguard {d : Option Tmp} {x : XOp} {l : List XOper} {t : Tmp} {b : Bool} (h1 : gB (E t) = some b → YO P r n d x (YL P r n l K) E S) (h2 : gB (E t) ≠ some b → YL P r n l K (putE d undef E) S) :
    YL P r n (⟨d, x, some (t, b)⟩ :: l) K E S := by
  intro ops l' hl
  obtain ⟨o, l'', rfl, e1, e2⟩ := compOps_cons hl
  obtain ⟨j, hg, ht, rfl, rfl, hd⟩ := compOper_some e1
  refine xguard hg ht hd ?_ (fun hc => h2 hc ops l'' e2)
  intro hc D F a w hs
  refine Oper.wpIn_mono (h1 hc o.op o.type o.pos o.after o.guard rfl hd D F a w hs) ?_ (fun _ _ _ hf => hf)
  rintro a' w' ⟨hx, E', S', hs', hk⟩
  exact ⟨hx, E', S', hs', hk ops l'' e2⟩
theorem gB_ne {v : Value} {b : Bool} (h : v = .bool (!b)) : gB v ≠ some b := by subst h; cases b <;> simp [gB]
theorem ygT {d : Option Tmp} {x : XOp} {l : List XOper} {t : Tmp} {b : Bool} (hv : E t = .bool b) (h : YO P r n d x (YL P r n l K) E S) : YL P r n (⟨d, x, some (t, b)⟩ :: l) K E S :=
  yguard (fun _ => h) (fun hc => absurd (by rw [hv]; rfl) hc)
theorem ygF {d : Option Tmp} {x : XOp} {l : List XOper} {t : Tmp} {b : Bool} (hv : E t = .bool (!b)) (h : YL P r n l K (putE d undef E) S) : YL P r n (⟨d, x, some (t, b)⟩ :: l) K E S :=
  yguard (fun hc => absurd hc (gB_ne hv)) (fun _ => h)
/-- behind an operation that was passed over -/
theorem ygU {d : Option Tmp} {x : XOp} {l : List XOper} {t : Tmp} {b : Bool} (hv : E t = undef) (h : YL P r n l K (putE d undef E) S) : YL P r n (⟨d, x, some (t, b)⟩ :: l) K E S :=
  yguard (fun hc => by rw [hv] at hc; cases hc) (fun _ => h)

/-! ### computing operations -/
theorem yop {d : Option Tmp} {x : XOp} {v : Value} (hv : pstep (ev E) x = some v) (h : K (putE d v E) S) : YO P r n d x K E S := by
  intro op ty pos af g hc hd
  subst hc
  exact xpure v (fun w => pstep_run hv w) (pstep_plain hv) hd h
/-- the same, its record and all -/
theorem yp {d : Option Tmp} {x : XOp} {v : Value} {l : List XOper} (hv : pstep (ev E) x = some v) (h : YL P r n l K (putE d v E) S) : YL P r n (⟨d, x, none⟩ :: l) K E S := ycons (yop hv h)

/-! ### a function's contract out of its body -/
/-- a function, as it is compiled -/
structure FnX (P : Program) (f : FuncId) (m : Nat) (rs : Array ResultVar) (x : XCode) : Prop where
  ex : ∃ fn, P.funcs[f]? = some fn ∧ fn.body.map (comp P m) = some x ∧ fn.ntmps = m ∧ fn.results = rs ∧ (fn.name == "runtime.NumGoroutine") = false

def Res (P : Program) (rs : Array ResultVar) (E : Env) (S : Segs) (v : Value) : Prop :=
  ∀ (fn : Func) (F : Segs) (w : World) (tmps : Array Value), fn.results = rs → Sat (S ++ F) w → (fun i => tmps.getD i undef) = E → (results fn tmps).run P w = .ok v w

def fnQ (P : Program) (rs : Array ResultVar) (R : Value → Segs → Prop) : Exit → Env → Segs → Prop
  | .normal, E, S => ∃ v, Res P rs E S v ∧ R v S
  | .ret, E, S => ∃ v, Res P rs E S v ∧ R v S
  | _, _, _ => False

theorem SatL.upd {l1 l2 : List Chunk} {b : Nat} {o o' : Obj} {w w' : World} (h : SatL (l1 ++ (b, o) :: l2) w) (hb : w'.heap[b]? = some o') (hne : ∀ i, i ≠ b → w'.heap[i]? = w.heap[i]?) : SatL (l1 ++ (b, o') :: l2) w' := by
  have hk : (l1 ++ (b, o') :: l2).map Prod.fst = (l1 ++ (b, o) :: l2).map Prod.fst := by simp
  have hnd := h.nodup
  refine ⟨by rw [hk]; exact hnd, ?_⟩
  intro x hx
  have hne1 : ∀ y, (y ∈ l1 ∨ y ∈ l2) → y.1 ≠ b := by
    intro y hy hyb
    simp only [List.map_append, List.map_cons, List.nodup_append, List.nodup_cons, List.mem_map, List.mem_cons] at hnd
    rcases hy with hy | hy
    · exact hnd.2.2 y.1 ⟨y, hy, rfl⟩ b (.inl rfl) hyb
    · exact hnd.2.1.1 ⟨y, hy, hyb⟩
  rcases List.mem_append.1 hx with hx1 | hx1
  · rw [hne _ (hne1 x (.inl hx1))]; exact h.at_ x (List.mem_append.2 (.inl hx1))
  · rcases List.mem_cons.1 hx1 with rfl | hx2
    · exact hb
    · rw [hne _ (hne1 x (.inr hx2))]; exact h.at_ x (List.mem_append.2 (.inr (List.mem_cons_of_mem _ hx2)))

theorem SatL.drop_mid {l1 l2 : List Chunk} {b : Nat} {o : Obj} {w w' : World} (h : SatL (l1 ++ (b, o) :: l2) w) (hne : ∀ i, i ≠ b → w'.heap[i]? = w.heap[i]?) : SatL (l1 ++ l2) w' := by
  have hnd := h.nodup
  refine ⟨(h.sub (l' := l1 ++ l2) (by simp)).nodup, ?_⟩
  intro x hx
  have hxb : x.1 ≠ b := by
    intro hyb
    simp only [List.map_append, List.map_cons, List.nodup_append, List.nodup_cons, List.mem_map, List.mem_cons] at hnd
    rcases List.mem_append.1 hx with hy | hy
    · exact hnd.2.2 x.1 ⟨x, hy, rfl⟩ b (.inl rfl) hyb
    · exact hnd.2.1.1 ⟨x, hy, hyb⟩
  rw [hne _ hxb]
  exact h.at_ x (by rcases List.mem_append.1 hx with hy | hy <;> simp [hy])

theorem flatten_mid (S F : Segs) (c : List Chunk) : (S ++ (c :: F)).flatten = S.flatten ++ (c ++ F.flatten) := by simp

theorem leaves_marks {fn : Func} {R : Ending → World → Prop} {tmps : Array Value} {w0 : World} : ∀ (D : List Nat) (S F : Segs) (w : World), Sat (S ++ (dsegs D :: F)) w → Ext w0 w →
    (∀ w', Ext w0 w' → Sat (S ++ ([] :: F)) w' → ∃ v, (results fn tmps).run P w' = .ok v w' ∧ R (.returned v) w') → LeavesInM (Fk none) 0 P fn tmps R (dmarks D) .returning w
  | [], S, F, w, hs, hx, h => h w hx hs
  | b :: D, S, F, w, hs, hx, h => by
    have hs' : SatL (S.flatten ++ (b, Obj.deferred (some [])) :: (dsegs D ++ F.flatten)) w := by
      have := hs; unfold Sat at this; rw [flatten_mid] at this; simpa [dsegs] using this
    have hb := hs'.at_ (b, Obj.deferred (some [])) (by simp)
    simp only at hb
    refine ⟨(by simp), .inl ⟨b, w.putObj b (.deferred none), rfl, run_takeDeferred hb, ?_⟩⟩
    have hne : ∀ i, i ≠ b → (w.putObj b (.deferred none)).heap[i]? = w.heap[i]? := fun i hi => World.putObj_heap_other hi
    refine leaves_marks D S F _ ?_ ?_ h
    · have := hs'.drop_mid hne
      unfold Sat
      rw [flatten_mid]
      exact this
    · exact hx.trans ⟨rfl, rfl, rfl, by simp⟩

theorem ofArgs_env (args : Array Value) (k : Nat) : envOf { tmps := args ++ Array.replicate k undef, defers := [] } = ofArgs args.toList := by
  funext i
  simp only [envOf, ofArgs, Array.getD_eq_getD_getElem?, List.getD_eq_getElem?_getD]
  by_cases h : i < args.size
  · rw [Array.getElem?_append_left h]; simp
  · rw [Array.getElem?_append_right (by omega)]
    have : args.toList[i]? = none := by simp; omega
    rw [this]
    by_cases h2 : i - args.size < k <;> simp [h2]

/-- A CONTRACT FROM THE BODY. -/
theorem ycallee {f : FuncId} {args : Array Value} {R : Value → Segs → Prop} {x : XCode} {m : Nat} {rs : Array ResultVar}
    (hx : FnX P f m rs x) (ha : args.size ≤ m) (h : Y P none m x (fnQ P rs R) (ofArgs args.toList) S) : Tri P f args S R := by
  obtain ⟨fn, hf, hb', hn, hrs, hname⟩ := hx.ex
  cases hb : fn.body with
  | none => rw [hb] at hb'; cases hb'
  | some body =>
  have hx : comp P m body = x := by rw [hb] at hb'; simpa using hb'
  refine ⟨⟨fn, hf, by rw [hb]; rfl, hname⟩, ?_⟩
  intro F w hs
  rw [← callsIn_Fk (r := none) (m := 0)]
  subst hn
  refine callsIn_of_wp_marks hf hb trivial ?_ rfl
  have hst : St fn.ntmps [] F (ofArgs args.toList) S { tmps := args ++ Array.replicate (fn.ntmps - args.size) undef, defers := [] } w :=
    ⟨by simp; omega, ofArgs_env _ _, rfl, by
      have : SatL (S ++ F).flatten w := hs
      show SatL (S ++ (dsegs [] :: F)).flatten w
      rw [flatten_mid]; simpa [dsegs] using this⟩
  refine Go.wpIn_mono (h body hx [] F _ w hst) ?_
  rintro e a' w' ⟨hx', D', E', S', hs', hq⟩
  have fin : ∀ v, Res P rs E' S' v → R v S' → LeavesInM (Fk none) 0 P fn a'.tmps (fun e w' => Ext w w' ∧ ∃ v S', e = .returned v ∧ Sat (S' ++ F) w' ∧ R v S') a'.defers .returning w' := by
    intro v hres hR
    rw [hs'.defers]
    refine leaves_marks D' S' F w' hs'.sat hx' ?_
    intro w2 hx2 hsat2
    have hsat3 : Sat (S' ++ F) w2 := by
      have : SatL (S' ++ ([] :: F)).flatten w2 := hsat2
      rw [flatten_mid] at this
      show SatL (S' ++ F).flatten w2
      simpa using this
    exact ⟨v, hres fn F w2 a'.tmps hrs hsat3 hs'.env, hx2, v, S', rfl, hsat3, hR⟩
  cases e with
  | normal => obtain ⟨v, h1, h2⟩ := hq; exact fin v h1 h2
  | ret => obtain ⟨v, h1, h2⟩ := hq; exact fin v h1 h2
  | _ => exact hq.elim

/-! results -/
theorem res0 : Res P #[] E S (.tuple #[]) := fun _fn _F w tmps h _ _ => results_none h tmps P w
theorem res1 {t : Tmp} {v : Value} (hv : E t = v) : Res P #[.tmp t] E S v := fun fn F w tmps h _ he => by
  rw [results_tmp h, ← hv, ← he]
theorem res2 {t u : Tmp} {v v' : Value} (hv : E t = v) (hv' : E u = v') : Res P #[.tmp t, .tmp u] E S (.tuple #[v, v']) := fun fn F w tmps h _ he => by
  rw [results_tmp2 h, ← hv, ← hv', ← he]
theorem res3 {t u s : Tmp} {v v' v'' : Value} (hv : E t = v) (hv' : E u = v') (hv'' : E s = v'') : Res P #[.tmp t, .tmp u, .tmp s] E S (.tuple #[v, v', v'']) := fun fn F w tmps h _ he => by
  rw [← hv, ← hv', ← hv'', ← he]
  simp [results, h, Sem.run_bind, Sem.run, Result.andThen, pure]
/-- the end of a function, in each way -/
theorem yfin {R : Value → Segs → Prop} {rs : Array ResultVar} {v : Value} (h1 : Res P rs E S v) (h2 : R v S) : fnQ P rs R .ret E S := ⟨v, h1, h2⟩
theorem yfinN {R : Value → Segs → Prop} {rs : Array ResultVar} {v : Value} (h1 : Res P rs E S v) (h2 : R v S) : fnQ P rs R .normal E S := ⟨v, h1, h2⟩
end Go.Xs
