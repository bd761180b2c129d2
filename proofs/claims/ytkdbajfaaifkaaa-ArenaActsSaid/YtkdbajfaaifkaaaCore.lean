/- A small separation logic over the kit's fenced walk: owned heap chunks, framed by construction; structural rules for code, operations, calls, loops. -/
import Derived.TacticsIn
import Derived.WalkKit
import Derived.RangeFuncLeaves
import Derived.Handy
import Derived.RangeFuncRecord
import Derived.OrdersIn
namespace Go.Xs

abbrev Env := Nat → Value
def upd (E : Env) (i : Nat) (v : Value) : Env := fun j => if i = j then v else E j
theorem upd_apply (E : Env) (i : Nat) (v : Value) (j : Nat) : upd E i v j = if i = j then v else E j := rfl
theorem upd_same (E : Env) (i : Nat) (v : Value) : upd E i v i = v := by simp [upd]
def ofArgs (l : List Value) : Env := fun i => l.getD i undef
def envOf (a : Act) : Env := fun i => a.tmps.getD i undef
def putE (d : Option Tmp) (v : Value) (E : Env) : Env :=
  match d with
  | some d => upd E d v
  | none => E
def ev (E : Env) : Operand → Value
  | .tmp t => E t
  | .const v => v
  | .global g => .pointer (some ⟨g, 0, none⟩)
  | .func f => .func (.func f) #[] #[]
def dOk (n : Nat) : Option Tmp → Bool
  | some d => Nat.blt d n
  | none => true

theorem eval_envOf (a : Act) : a.eval = ev (envOf a) := funext fun x => by cases x <;> rfl

abbrev Chunk := Nat × Obj
abbrev Segs := List (List Chunk)

structure SatL (l : List Chunk) (w : World) : Prop where
  nodup : (l.map Prod.fst).Nodup
  at_ : ∀ x ∈ l, w.heap[x.1]? = some x.2

def Sat (S : Segs) (w : World) : Prop := SatL S.flatten w

structure Ext (w w' : World) : Prop where
  tape : w'.tape = w.tape
  os : w'.os = w.os
  output : w'.output = w.output
  size : w.heap.size ≤ w'.heap.size

theorem Ext.refl (w : World) : Ext w w := ⟨rfl, rfl, rfl, Nat.le_refl _⟩
theorem Ext.trans {a b c : World} (h : Ext a b) (k : Ext b c) : Ext a c :=
  ⟨k.tape.trans h.tape, k.os.trans h.os, k.output.trans h.output, Nat.le_trans h.size k.size⟩

theorem SatL.perm {l l' : List Chunk} {w : World} (h : SatL l w) (p : l.Perm l') : SatL l' w :=
  ⟨(p.map _).nodup_iff.1 h.nodup, fun x hx => h.at_ x (p.mem_iff.2 hx)⟩
theorem SatL.sub {l l' : List Chunk} {w : World} (h : SatL l w) (p : List.Sublist l' l) : SatL l' w :=
  ⟨h.nodup.sublist (p.map _), fun x hx => h.at_ x (p.subset hx)⟩
theorem Sat.perm {S S' : Segs} {w : World} (h : Sat S w) (p : S.Perm S') : Sat S' w := SatL.perm h p.flatten
theorem Sat.permF {S S' F : Segs} {w : World} (h : Sat (S ++ F) w) (p : S.flatten.Perm S'.flatten) : Sat (S' ++ F) w := by
  refine SatL.perm h ?_
  rw [List.flatten_append, List.flatten_append]
  exact p.append_right _
theorem Sat.drop_left {S T : Segs} {w : World} (h : Sat (S ++ T) w) : Sat T w := by
  refine SatL.sub h ?_
  rw [List.flatten_append]
  exact List.sublist_append_right _ _
theorem Sat.at_ {S : Segs} {w : World} (h : Sat S w) {s : List Chunk} (hs : s ∈ S) {x : Chunk} (hx : x ∈ s) : w.heap[x.1]? = some x.2 :=
  SatL.at_ h x (List.mem_flatten.2 ⟨s, hs, hx⟩)

/-- the deferred blocks of a function's ranges over functions -/
def dsegs (D : List Nat) : List Chunk := D.map fun r => (r, .deferred (some []))
def dmarks (D : List Nat) : List Deferred := D.map fun r => { target := .collected r, args := #[] }

structure St (n : Nat) (D : List Nat) (F : Segs) (E : Env) (S : Segs) (a : Act) (w : World) : Prop where
  size : a.tmps.size = n
  env : envOf a = E
  defers : a.defers = dmarks D
  sat : Sat (S ++ (dsegs D :: F)) w

theorem envOf_put {a : Act} {d : Option Tmp} {v : Value} {n : Nat} (hn : a.tmps.size = n) (hd : dOk n d = true) : envOf (a.put d v) = putE d v (envOf a) := by
  cases d with
  | none => rfl
  | some d =>
    funext j
    have hlt : d < a.tmps.size := by rw [hn]; simpa [dOk, Nat.blt_eq] using hd
    simp only [envOf, Act.put, putE, upd]
    by_cases h : d = j
    · subst h; simp [Array.getD_eq_getD_getElem?, hlt]
    · simp [Array.getD_eq_getD_getElem?, Array.getElem?_setIfInBounds_ne h, h]

theorem put_size (a : Act) (d : Option Tmp) (v : Value) : (a.put d v).tmps.size = a.tmps.size := by cases d <;> simp [Act.put]
theorem put_defers (a : Act) (d : Option Tmp) (v : Value) : (a.put d v).defers = a.defers := by cases d <;> rfl

theorem St.put {n : Nat} {D : List Nat} {F : Segs} {E : Env} {S S' : Segs} {a : Act} {w w' : World} (h : St n D F E S a w) {d : Option Tmp} (hd : dOk n d = true) (v : Value)
    (hs : Sat (S' ++ (dsegs D :: F)) w') : St n D F (putE d v E) S' (a.put d v) w' :=
  ⟨(put_size a d v).trans h.size, (envOf_put h.size hd).trans (by rw [h.env]), (put_defers a d v).trans h.defers, hs⟩

/-- the fence of a plain frame (none) or of a round's frame -/
def Fk (r : Option Nat) : Fence := { Fence.wide with round := r }
theorem Fk_round (r : Option Nat) : (Fk r).round = r := rfl
theorem Fk_fn (r : Option Nat) (f : FuncId) : (Fk r).fn f := trivial
theorem Fk_depth (r : Option Nat) : (Fk r).depth = none := rfl
theorem Fk_room (r : Option Nat) (k : Nat) : (Fk r).room k := fun d h => by cases h
theorem callsIn_Fk {r : Option Nat} {m : Nat} {P : Program} {f : FuncId} {args : Array Value} {w : World} {R : Ending → World → Prop} : CallsIn (Fk r) m P f args w R ↔ Calls P f args w R :=
  callsIn_wide (n := m)

variable {P : Program} {r : Option Nat} {n : Nat}

/-- the function is one that is entered when it is called -/
def Ent (P : Program) (f : FuncId) : Prop := ∃ fn, P.funcs[f]? = some fn ∧ fn.body.isSome = true ∧ (fn.name == "runtime.NumGoroutine") = false

/-- A CALL, LOCAL: it owns S; whatever else lies in the heap stays. -/
structure Tri (P : Program) (f : FuncId) (args : Array Value) (S : Segs) (R : Value → Segs → Prop) : Prop where
  ent : Ent P f
  run : ∀ (F : Segs) (w : World), Sat (S ++ F) w → Calls P f args w (fun e w' => Ext w w' ∧ ∃ v S', e = .returned v ∧ Sat (S' ++ F) w' ∧ R v S')

theorem Tri.mono {f : FuncId} {args : Array Value} {S : Segs} {R R' : Value → Segs → Prop} (h : Tri P f args S R) (hr : ∀ v S', R v S' → R' v S') : Tri P f args S R' :=
  ⟨h.ent, fun F w hs => (h.run F w hs).mono fun _ _ ⟨x, v, S', e, s, q⟩ => ⟨x, v, S', e, s, hr _ _ q⟩⟩

theorem Tri.frame {f : FuncId} {args : Array Value} {S : Segs} {R : Value → Segs → Prop} (G : Segs) (h : Tri P f args S R) : Tri P f args (S ++ G) (fun v S'' => ∃ S', S'' = S' ++ G ∧ R v S') :=
  ⟨h.ent, fun F w hs => (h.run (G ++ F) w (by rw [← List.append_assoc]; exact hs)).mono fun _ _ ⟨x, v, S', e, s, q⟩ =>
    ⟨x, v, S' ++ G, e, by rw [List.append_assoc]; exact s, S', rfl, q⟩⟩

theorem Tri.perm {f : FuncId} {args : Array Value} {S S₂ : Segs} {R : Value → Segs → Prop} (p : S₂.flatten.Perm S.flatten) (h : Tri P f args S R) : Tri P f args S₂ R :=
  ⟨h.ent, fun F w hs => h.run F w (hs.permF p)⟩

def X (P : Program) (r : Option Nat) (n : Nat) (c : Code) (Q : Exit → Env → Segs → Prop) (E : Env) (S : Segs) : Prop :=
  ∀ (D : List Nat) (F : Segs) (a : Act) (w : World), St n D F E S a w →
    c.wpIn (Fk r) 0 P (fun e a' w' => Ext w w' ∧ ∃ D' E' S', St n D' F E' S' a' w' ∧ Q e E' S') a w

def XL (P : Program) (r : Option Nat) (n : Nat) (ops : Array Oper) (l : List Oper) (K : Env → Segs → Prop) (E : Env) (S : Segs) : Prop :=
  ∀ (D : List Nat) (F : Segs) (a : Act) (w : World), St n D F E S a w →
    wpListIn (Fk r) 0 P ops (fun e a' w' => e = .normal ∧ Ext w w' ∧ ∃ E' S', St n D F E' S' a' w' ∧ K E' S') l a w

def XO (P : Program) (r : Option Nat) (n : Nat) (o : Oper) (K : Env → Segs → Prop) (E : Env) (S : Segs) : Prop :=
  ∀ (D : List Nat) (F : Segs) (a : Act) (w : World), St n D F E S a w →
    o.wpIn (Fk r) 0 P a w (fun a' w' => Ext w w' ∧ ∃ E' S', St n D F E' S' a' w' ∧ K E' S') (fun _ _ _ => False)

def thenQ (N : Env → Segs → Prop) (Q : Exit → Env → Segs → Prop) : Exit → Env → Segs → Prop
  | .normal, E, S => N E S
  | e, E, S => Q e E S
def blockQ (id : Nat) (Q : Exit → Env → Segs → Prop) : Exit → Env → Segs → Prop
  | .exit id', E, S => if id' = id then Q .normal E S else Q (.exit id') E S
  | e, E, S => Q e E S

variable {Q Q' : Exit → Env → Segs → Prop} {K K' : Env → Segs → Prop} {E : Env} {S : Segs}

theorem X.mono {c : Code} (h : X P r n c Q E S) (hq : ∀ e E S, Q e E S → Q' e E S) : X P r n c Q' E S :=
  fun D F a w hs => Go.wpIn_mono (h D F a w hs) fun _ _ _ ⟨x, D', E', S', s, q⟩ => ⟨x, D', E', S', s, hq _ _ _ q⟩

/-- memory may be given up at any time -/
theorem X.perm {c : Code} {S₂ : Segs} (p : S₂.flatten.Perm S.flatten) (h : X P r n c Q E S) : X P r n c Q E S₂ :=
  fun D F a w hs => h D F a w ⟨hs.size, hs.env, hs.defers, hs.sat.permF p⟩

theorem xskip (h : Q .normal E S) : X P r n .skip Q E S := fun D _ _ w hs => wpIn_skip ⟨Ext.refl w, D, E, S, hs, h⟩
theorem xlabel {l : Nat} (h : Q .normal E S) : X P r n (.label l) Q E S := fun D _ _ w hs => wpIn_label ⟨Ext.refl w, D, E, S, hs, h⟩
theorem xexit {id : Nat} (h : Q (.exit id) E S) : X P r n (.exit id) Q E S := fun D _ _ w hs => wpIn_exit ⟨Ext.refl w, D, E, S, hs, h⟩
theorem xret (h : Q .ret E S) : X P r n .ret Q E S := fun D _ _ w hs => wpIn_ret ⟨Ext.refl w, D, E, S, hs, h⟩
theorem xgoto {l : Nat} (h : Q (.goto l) E S) : X P r n (.goto l) Q E S := fun D _ _ w hs => wpIn_goto ⟨Ext.refl w, D, E, S, hs, h⟩

theorem xseq {x y : Code} (h : X P r n x (thenQ (X P r n y Q) Q) E S) : X P r n (.seq x y) Q E S := by
  intro D F a w hs
  refine wpIn_seq (Go.wpIn_mono (h D F a w hs) ?_)
  intro e a' w' hq
  obtain ⟨hx, D', E', S', hs', hq⟩ := hq
  cases e with
  | normal =>
    refine Go.wpIn_mono (hq D' F a' w' hs') ?_
    exact fun _ _ _ ⟨x2, D2, E2, S2, s2, q2⟩ => ⟨hx.trans x2, D2, E2, S2, s2, q2⟩
  | _ => exact ⟨hx, D', E', S', hs', hq⟩

theorem xblock {id : Nat} {c : Code} (h : X P r n c (blockQ id Q) E S) : X P r n (.block id c) Q E S := by
  intro D F a w hs
  refine wpIn_block (Go.wpIn_mono (h D F a w hs) ?_)
  intro e a' w' hq
  obtain ⟨hx, D', E', S', hs', hq⟩ := hq
  cases e with
  | exit id' =>
    simp only [blockQ] at hq
    simp only [Exit.inBlock]
    split
    · rename_i h'; rw [if_pos h'] at hq; exact ⟨hx, D', E', S', hs', hq⟩
    · rename_i h'; rw [if_neg h'] at hq; exact ⟨hx, D', E', S', hs', hq⟩
  | _ => exact ⟨hx, D', E', S', hs', hq⟩

theorem xcond {c : Operand} {x y : Code} {t : Bool} (hc : ev E c = .bool t) (h1 : t = true → X P r n x Q E S) (h2 : t = false → X P r n y Q E S) : X P r n (.cond c x y) Q E S := by
  intro D F a w hs
  have hc' : a.eval c = .bool t := by rw [eval_envOf, hs.env]; exact hc
  refine wpIn_cond hc' ?_
  cases t
  · exact h2 rfl D F a w hs
  · exact h1 rfl D F a w hs
theorem xcondT {c : Operand} {x y : Code} (hc : ev E c = .bool true) (h : X P r n x Q E S) : X P r n (.cond c x y) Q E S := xcond hc (fun _ => h) (fun h => by cases h)
theorem xcondF {c : Operand} {x y : Code} (hc : ev E c = .bool false) (h : X P r n y Q E S) : X P r n (.cond c x y) Q E S := xcond hc (fun h => by cases h) (fun _ => h)

/-- A LOOP, by an invariant over a ghost and a measure of it. -/
theorem xloop {c : Code} {σ : Type} (I : σ → Env → Segs → Prop) (μ : σ → Nat) (s₀ : σ) (h₀ : I s₀ E S)
    (hr : ∀ s E S, I s E S → X P r n c (thenQ (fun E' S' => ∃ s', I s' E' S' ∧ μ s' < μ s) Q) E S) : X P r n (.loop c) Q E S := by
  intro D F a w hs b k cs hro hb hroom
  have key : ∀ j s D E S a w, μ s = j → I s E S → St n D F E S a w →
      ∃ e a' w', (Ext w w' ∧ ∃ D' E' S', St n D' F E' S' a' w' ∧ Q e E' S') ∧ ArrivesIn (Machine.fenced P (Fk r)) P (lone (b.atR a (.code c :: .inLoop c :: k)) cs w) b k cs e a' w' := by
    intro j
    induction j using Nat.strongRecOn with
    | _ j ih =>
      intro s D E S a w hj hI hst
      obtain ⟨e, a₁, w₁, hq, harr⟩ := hr s E S hI D F a w hst b (.inLoop c :: k) cs hro hb hroom
      obtain ⟨hx, D', E', S', hst', hq⟩ := hq
      cases e with
      | normal =>
        obtain ⟨s', hI', hlt⟩ := hq
        obtain ⟨e₂, a₂, w₂, ⟨hx2, D2, E2, S2, st2, q2⟩, harr₂⟩ := ih (μ s') (hj ▸ hlt) s' D' E' S' a₁ w₁ rfl hI' hst'
        exact ⟨e₂, a₂, w₂, ⟨hx.trans hx2, D2, E2, S2, st2, q2⟩, .of_steps (StepsIn.trans harr (.one (fenced_calm hb hroom rfl) stepR_inLoop)) harr₂⟩
      | exit id => exact ⟨_, a₁, w₁, ⟨hx, D', E', S', hst', hq⟩, .pass (x := .inLoop c) rfl (fun _ _ => .inl (by simp)) harr⟩
      | goto l => exact ⟨_, a₁, w₁, ⟨hx, D', E', S', hst', hq⟩, .pass (x := .inLoop c) rfl (fun _ _ => .inl (by simp)) harr⟩
      | ret => exact ⟨_, a₁, w₁, ⟨hx, D', E', S', hst', hq⟩, .pass (x := .inLoop c) rfl (fun _ _ => .inl (by simp)) harr⟩
      | panic ch => exact ⟨_, a₁, w₁, ⟨hx, D', E', S', hst', hq⟩, .pass (x := .inLoop c) rfl (fun _ _ => .inl (by simp)) harr⟩
      | outgrown => exact ⟨_, a₁, w₁, ⟨hx, D', E', S', hst', hq⟩, .pass (x := .inLoop c) rfl (fun _ _ => .inl (by simp)) harr⟩
  obtain ⟨e, a', w', hq, harr⟩ := key _ s₀ D E S a w rfl h₀ hs
  exact ⟨e, a', w', hq, .of_steps (.one (fenced_calm hb hroom rfl) stepR_loop) harr⟩

/-! ### operations -/
theorem Oper.uponIn_mono {F : Fence} {m : Nat} {o : Oper} {a : Act} {next next' : Act → World → Prop} {Q Q' : Exit → Act → World → Prop} {x : Result Next}
    (h : o.uponIn F m P a next Q x) (hn : ∀ a w, next a w → next' a w) (hq : ∀ e a w, Q e a w → Q' e a w) : o.uponIn F m P a next' Q' x := by
  have hout : LetsOut Q → LetsOut Q' := fun ⟨a, w, q⟩ => ⟨a, w, hq _ _ _ q⟩
  cases x with
  | ok nx w =>
    cases nx with
    | value v => exact hn _ _ h
    | skip => exact hn _ _ h
    | defer d => exact hn _ _ h
    | enter f args =>
      refine ⟨h.1, h.2.mono fun e w' he => ?_⟩
      cases e with
      | returned v => exact hn _ _ he
      | panicked ch => exact hq _ _ _ he
      | outgrown => exact hout he
    | row row args => exact ⟨h.1, h.2.mono fun v w' he => hn _ _ he⟩
    | round l f tmps assign body =>
      refine ⟨h.1, h.2.mono fun e w' he => ?_⟩
      cases e with
      | returned v => exact hn _ _ he
      | panicked ch => exact hq _ _ _ he
      | outgrown => exact hout he
    | _ => exact h.elim
  | halt hh w =>
    cases hh with
    | panic v => exact hq _ _ _ h
    | _ => exact h.elim

theorem Oper.wpIn_mono {F : Fence} {m : Nat} {o : Oper} {a : Act} {w : World} {next next' : Act → World → Prop} {Q Q' : Exit → Act → World → Prop}
    (h : o.wpIn F m P a w next Q) (hn : ∀ a w, next a w → next' a w) (hq : ∀ e a w, Q e a w → Q' e a w) : o.wpIn F m P a w next' Q' :=
  ⟨h.1, Oper.uponIn_mono h.2 hn hq⟩

theorem wpListIn_mono {F : Fence} {m : Nat} {ops : Array Oper} {Q Q' : Exit → Act → World → Prop} (hq : ∀ e a w, Q e a w → Q' e a w) : ∀ (l : List Oper) (a : Act) (w : World),
    wpListIn F m P ops Q l a w → wpListIn F m P ops Q' l a w
  | [], _, _, h => hq _ _ _ h
  | o :: l, a, w, h => by
    simp only [wpListIn] at h ⊢
    split
    · rename_i hw; rw [if_pos hw] at h; exact Oper.wpIn_mono h (fun a w => wpListIn_mono hq l a w) hq
    · rename_i hw; rw [if_neg hw] at h; exact ⟨h.1, wpListIn_mono hq l _ _ h.2⟩

theorem xnil {ops : Array Oper} (h : K E S) : XL P r n ops [] K E S :=
  fun _ _ _ w hs => ⟨rfl, Ext.refl w, E, S, hs, h⟩

theorem xregion {id : Nat} {l : List Oper} (h : XL P r n l.toArray l (fun E S => Q .normal E S) E S) : X P r n (.region id l.toArray false) Q E S := by
  intro D F a w hs
  refine wpIn_region_lit (wpListIn_mono ?_ l a w (h D F a w hs))
  rintro e a' w' ⟨rfl, hx, E', S', hs', hk⟩
  exact ⟨hx, D, E', S', hs', hk⟩

theorem xl_then {ops : Array Oper} {l : List Oper} {a : Act} {w w0 : World} {D : List Nat} {F : Segs} (h : XL P r n ops l K E S) (hx : Ext w0 w) (hs : St n D F E S a w) :
    wpListIn (Fk r) 0 P ops (fun e a' w' => e = .normal ∧ Ext w0 w' ∧ ∃ E' S', St n D F E' S' a' w' ∧ K E' S') l a w :=
  wpListIn_mono (fun _ _ _ ⟨e, x, q⟩ => ⟨e, hx.trans x, q⟩) l a w (h D F a w hs)

theorem xcons {ops : Array Oper} {o : Oper} {l : List Oper} (hg : o.guard = none) (h : XO P r n o (XL P r n ops l K) E S) : XL P r n ops (o :: l) K E S := by
  intro D F a w hs
  simp only [wpListIn, Region.wanted, hg, if_true]
  refine Oper.wpIn_mono (h D F a w hs) ?_ (fun _ _ _ hf => hf.elim)
  rintro a' w' ⟨hx, E', S', hs', hk⟩
  exact xl_then hk hx hs'

/-- what a guard says; none: the operation that it names was passed over -/
def gB : Value → Option Bool
  | .bool b => some b
  | _ => none
theorem yielded_gB {ops : Array Oper} {a : Act} {j : Nat} {t : Tmp} (ht : (ops[j]?).bind (·.dst) = some t) : yielded ops a.tmps j = gB (envOf a t) := by
  unfold yielded envOf
  rw [ht, Array.getD_eq_getD_getElem?]
  simp only [Option.bind_some]
  cases a.tmps[t]? with
  | none => rfl
  | some x => cases x <;> rfl
/-- a guarded operation -/
theorem xguard {ops : Array Oper} {o : Oper} {l : List Oper} {j : Nat} {b : Bool} {t : Tmp} (hg : o.guard = some (j, b)) (ht : (ops[j]?).bind (·.dst) = some t) (hd : dOk n o.dst = true)
    (h1 : gB (E t) = some b → XO P r n o (XL P r n ops l K) E S) (h2 : gB (E t) ≠ some b → XL P r n ops l K (putE o.dst undef E) S) : XL P r n ops (o :: l) K E S := by
  intro D F a w hs
  have hy : yielded ops a.tmps j = gB (E t) := by rw [yielded_gB ht, hs.env]
  by_cases hc : gB (E t) = some b
  · have hw : Region.wanted o (yielded ops a.tmps) = true := by simp [Region.wanted, hg, hy, hc]
    simp only [wpListIn, hw, if_true]
    refine Oper.wpIn_mono (h1 hc D F a w hs) ?_ (fun _ _ _ hf => hf.elim)
    rintro a' w' ⟨hx, E', S', hs', hk⟩
    exact xl_then hk hx hs'
  · have hw : Region.wanted o (yielded ops a.tmps) = false := by simp [Region.wanted, hg, hy, hc]
    simp only [wpListIn, hw]
    refine ⟨fun f _ => trivial, ?_⟩
    exact xl_then (h2 hc) (Ext.refl w) (hs.put hd undef hs.sat)

theorem about_none_of_wide {o : Oper} {a : Act} {w : World} : ∀ f, o.about P w a.eval = some f → (Fk r).fn f := fun _ _ => trivial

theorem semAt_of {o : Oper} {ρ : Operand → Value} (hd : ∀ c, o.op ≠ .defer c) : Oper.semAt (Fk r).round ρ o = execOp ρ o := Oper.semAt_eq _ ρ o hd

/-- an operation that computes -/
theorem xpure {o : Oper} (v : Value) (hr : ∀ w, (execOp (ev E) o).run P w = .ok (.value v) w) (hn : ∀ c, o.op ≠ .defer c) (hd : dOk n o.dst = true) (h : K (putE o.dst v E) S) : XO P r n o K E S := by
  intro D F a w hs
  refine ⟨about_none_of_wide, ?_⟩
  rw [semAt_of hn, eval_envOf, hs.env, hr w]
  exact ⟨Ext.refl w, _, S, hs.put hd v hs.sat, h⟩

/-- an operation that yields a value, whatever it does to the memory -/
theorem xsem {o : Oper} (hn : ∀ c, o.op ≠ .defer c) (hd : dOk n o.dst = true)
    (h : ∀ (F : Segs) (w : World), Sat (S ++ F) w → ∃ v w' S', (execOp (ev E) o).run P w = .ok (.value v) w' ∧ Ext w w' ∧ Sat (S' ++ F) w' ∧ K (putE o.dst v E) S') : XO P r n o K E S := by
  intro D F a w hs
  refine ⟨about_none_of_wide, ?_⟩
  rw [semAt_of hn, eval_envOf, hs.env]
  obtain ⟨v, w', S', h1, h2, h3, h4⟩ := h (dsegs D :: F) w hs.sat
  rw [h1]
  exact ⟨h2, _, S', hs.put hd v h3, h4⟩

theorem xunit {o : Oper} (hn : ∀ c, o.op ≠ .defer c) (hd : dOk n o.dst = true)
    (h : ∀ (F : Segs) (w : World), Sat (S ++ F) w → ∃ w' S', (execOp (ev E) o).run P w = .ok .skip w' ∧ Ext w w' ∧ Sat (S' ++ F) w' ∧ K (putE o.dst undef E) S') : XO P r n o K E S := by
  intro D F a w hs
  refine ⟨about_none_of_wide, ?_⟩
  rw [semAt_of hn, eval_envOf, hs.env]
  obtain ⟨w', S', h1, h2, h3, h4⟩ := h (dsegs D :: F) w hs.sat
  rw [h1]
  exact ⟨h2, _, S', hs.put hd undef h3, h4⟩

/-- a call of a function -/
theorem xcall {o : Oper} {f : FuncId} {args : Array Value} (hr : ∀ w, (execOp (ev E) o).run P w = .ok (.enter f args) w) (hn : ∀ c, o.op ≠ .defer c) (hd : dOk n o.dst = true)
    (h : Tri P f args S (fun v S' => K (putE o.dst v E) S')) : XO P r n o K E S := by
  intro D F a w hs
  refine ⟨about_none_of_wide, ?_⟩
  rw [semAt_of hn, eval_envOf, hs.env, hr w]
  refine ⟨(fun h => by cases h), callsIn_Fk.2 ((h.run (dsegs D :: F) w hs.sat).mono ?_)⟩
  rintro e w' ⟨hx, v, S', rfl, hsat, hk⟩
  exact ⟨hx, _, S', hs.put hd v hsat, hk⟩

end Go.Xs
