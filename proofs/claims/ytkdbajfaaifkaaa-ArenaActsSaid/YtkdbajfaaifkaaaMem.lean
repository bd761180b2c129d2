/- Memory: loads, stores, new blocks, calls. -/
import Derived.Test.YtkdbajfaaifkaaaCode
namespace Go.Xs

/-- S holds the chunk (b, o); f puts another object in its place -/
class At (S : Segs) (b : Nat) (o : outParam Obj) (f : outParam (Obj → Segs)) : Prop where
  ex : ∃ S1 S2, S = S1 ++ [(b, o)] :: S2 ∧ ∀ o', f o' = S1 ++ [(b, o')] :: S2
instance At.here {S : Segs} {b : Nat} {o : Obj} : At ([(b, o)] :: S) b o (fun o' => [(b, o')] :: S) := ⟨[], S, rfl, fun _ => rfl⟩
instance At.there {S : Segs} {x : List Chunk} {b : Nat} {o : Obj} {f : Obj → Segs} [h : At S b o f] : At (x :: S) b o (fun o' => x :: f o') := by
  obtain ⟨S1, S2, e, hf⟩ := h.ex
  exact ⟨x :: S1, S2, by rw [e]; rfl, fun o' => by rw [hf]; rfl⟩

/-- S is x and S' -/
class Pick (S : Segs) (x : List Chunk) (S' : outParam Segs) : Prop where
  perm : S.flatten.Perm (x ++ S'.flatten)
instance Pick.there {S S' : Segs} {x y : List Chunk} [h : Pick S x S'] : Pick (y :: S) x (y :: S') := ⟨by
  simp only [List.flatten_cons]
  refine (h.perm.append_left y).trans ?_
  rw [← List.append_assoc, ← List.append_assoc]
  exact List.perm_append_comm.append_right _⟩
instance Pick.here {S : Segs} {x : List Chunk} : Pick (x :: S) x S := ⟨.refl _⟩
instance Pick.nil {S : Segs} : Pick S [] S := ⟨.refl _⟩
instance At.app0 {S : Segs} {b : Nat} {o : Obj} {f : Obj → Segs} [h : At S b o f] : At ([] ++ S) b o f := h
instance At.app {A S : Segs} {x : List Chunk} {b : Nat} {o : Obj} {f : Obj → Segs} [h : At (x :: (A ++ S)) b o f] : At ((x :: A) ++ S) b o f := h
instance Pick.app0 {S S' : Segs} {x : List Chunk} [h : Pick S x S'] : Pick ([] ++ S) x S' := h
instance Pick.app {A S S' : Segs} {x y : List Chunk} [h : Pick (y :: (A ++ S)) x S'] : Pick ((y :: A) ++ S) x S' := h
/-- S is S0 and G -/
class Sub (S S0 : Segs) (G : outParam Segs) : Prop where
  perm : S.flatten.Perm (S0.flatten ++ G.flatten)
instance Sub.nil {S : Segs} : Sub S [] S := ⟨.refl _⟩
instance Sub.cons {S S1 S0 G : Segs} {x : List Chunk} [h : Pick S x S1] [k : Sub S1 S0 G] : Sub S (x :: S0) G := ⟨h.perm.trans (by
  simp only [List.flatten_cons, List.append_assoc]
  exact k.perm.append_left x)⟩
instance Sub.appT0 {S B G : Segs} [h : Sub S B G] : Sub S ([] ++ B) G := h
instance Sub.appT {S A B G : Segs} {x : List Chunk} [h : Sub S (x :: (A ++ B)) G] : Sub S ((x :: A) ++ B) G := h
instance (priority := low) Sub.self {S : Segs} : Sub S S [] := ⟨by simp⟩
instance (priority := low) Sub.appSelf {T G : Segs} : Sub (T ++ G) T G := ⟨by simp⟩
instance (priority := low) Sub.skip {S T G : Segs} {x : List Chunk} [h : Sub S T G] : Sub (x :: S) T (x :: G) := ⟨by
  simp only [List.flatten_cons]
  refine (h.perm.append_left x).trans ?_
  rw [← List.append_assoc, ← List.append_assoc]
  exact List.perm_append_comm.append_right _⟩
instance (priority := low) Pick.appR {A S S' : Segs} {x : List Chunk} [h : Pick S x S'] : Pick (A ++ S) x (A ++ S') := ⟨by
  simp only [List.flatten_append]
  refine (h.perm.append_left A.flatten).trans ?_
  rw [← List.append_assoc, ← List.append_assoc]
  exact List.perm_append_comm.append_right _⟩

variable {P : Program} {r : Option Nat} {n : Nat} {K : Env → Segs → Prop} {E : Env} {S : Segs} {d : Option Tmp}

theorem At.heap {b : Nat} {o : Obj} {f : Obj → Segs} (h : At S b o f) {F : Segs} {w : World} (hs : Sat (S ++ F) w) : w.heap[b]? = some o := by
  obtain ⟨S1, S2, rfl, _⟩ := h.ex
  exact hs.at_ (s := [(b, o)]) (by simp) (x := (b, o)) (by simp)

theorem At.upd {b : Nat} {o o' : Obj} {f : Obj → Segs} (h : At S b o f) {F : Segs} {w w' : World} (hs : Sat (S ++ F) w) (hb : w'.heap[b]? = some o') (hne : ∀ i, i ≠ b → w'.heap[i]? = w.heap[i]?) : Sat (f o' ++ F) w' := by
  obtain ⟨S1, S2, rfl, hf⟩ := h.ex
  rw [hf]
  have h1 : SatL (S1.flatten ++ (b, o) :: (S2.flatten ++ F.flatten)) w := by
    have : SatL _ w := hs
    simpa using this
  have := h1.upd hb hne
  show SatL _ w'
  simpa using this

theorem Sat.new {F : Segs} {w : World} (o : Obj) (hs : Sat F w) : Sat ([(w.heap.size, o)] :: F) { w with heap := w.heap.push o } := by
  have hlt : ∀ x ∈ F.flatten, x.1 < w.heap.size := fun x hx => by
    have := SatL.at_ hs x hx
    exact (Array.getElem?_eq_some_iff.1 this).1
  refine ⟨?_, ?_⟩
  · simp only [List.flatten_cons, List.cons_append, List.nil_append, List.map_cons, List.nodup_cons]
    refine ⟨?_, SatL.nodup hs⟩
    intro hc
    obtain ⟨x, hx, hxe⟩ := List.mem_map.1 hc
    have := hlt x hx
    omega
  · intro x hx
    simp only [List.flatten_cons, List.cons_append, List.nil_append, List.mem_cons] at hx
    rcases hx with rfl | hx
    · simp
    · rw [Array.getElem?_push_lt (hlt x hx), ← SatL.at_ hs x hx, Array.getElem?_eq_getElem (hlt x hx)]

theorem Ext.push (w : World) (o : Obj) : Ext w { w with heap := w.heap.push o } := ⟨rfl, rfl, rfl, by simp⟩

theorem cellOf {w : World} {b : Nat} {c : Array Value} {ty : TypeId} {fz : Nat × Nat} (h : w.heap[b]? = some (.cells c ty fz)) (i : Nat) : w.cell? ⟨b, i, none⟩ = c[i]? := by
  simp [World.cell?, h]
theorem frozenOf {w : World} {b : Nat} {c : Array Value} {ty : TypeId} {fz : Nat × Nat} (h : w.heap[b]? = some (.cells c ty fz)) (i : Nat) : w.frozen? ⟨b, i, none⟩ = (decide (fz.1 ≤ i) && decide (i < fz.2)) := by
  obtain ⟨lo, hi⟩ := fz
  simp [World.frozen?, h]

/-! loads -/
theorem load_run {a : Addr} {v : Value} {w : World} (h : w.cell? a = some v) : (load a).run P w = .ok v w := by simp [load, Sem.run, h]

theorem loadCellsFrom_run {b off : Nat} {w : World} {l : List Value} : ∀ (k i : Nat) (acc : Array Value), (∀ j, j < k → w.cell? ⟨b, off + (i + j), none⟩ = l[i + j]?) → i + k ≤ l.length →
    (loadCellsFrom ⟨b, off, none⟩ i k acc).run P w = .ok (acc ++ ((l.drop i).take k).toArray) w
  | 0, i, acc, h, hl => by simp [loadCellsFrom, pure]
  | k + 1, i, acc, h, hl => by
    have h0 := h 0 (by omega)
    have hi : i < l.length := by omega
    simp only [Nat.add_zero, List.getElem?_eq_getElem hi] at h0
    simp only [loadCellsFrom, Sem.run_bind, add_plain, load_run h0, Result.andThen_ok]
    rw [loadCellsFrom_run k (i + 1) _ (fun j hj => by have := h (j + 1) (by omega); rw [show i + 1 + j = i + (j + 1) by omega]; exact this) (by omega)]
    congr 1
    have e : (l.drop i).take (k + 1) = l[i] :: (l.drop (i + 1)).take k := by rw [List.drop_eq_getElem_cons hi, List.take_succ_cons]
    apply Array.ext'
    rw [e]
    simp

theorem loadCells_run {b off : Nat} {w : World} {l : List Value} (k : Nat) (h : ∀ j, j < k → w.cell? ⟨b, off + j, none⟩ = l[j]?) (hl : k ≤ l.length) :
    (loadCells ⟨b, off, none⟩ k).run P w = .ok (l.take k).toArray w := by
  have := loadCellsFrom_run (P := P) (b := b) (off := off) (w := w) (l := l) k 0 #[] (fun j hj => by simpa using h j hj) (by omega)
  simpa [loadCells] using this

theorem cEq_shape {neg : Bool} {t : TypeId} {x y : Operand} {X : XOp} (h : cEq P neg t x y = some X) : (∃ o a b, X = .bin o a b) ∨ (∃ o a b, X = .eqb o a b) ∨ (∃ k o a b, X = .eqn k o a b) ∨ (∃ k o a b, X = .eqs k o a b) := by
  unfold cEq at h
  split at h <;> first | (simp only [Option.some.injEq] at h; subst h; first | exact .inl ⟨_, _, _, rfl⟩ | exact .inr (.inl ⟨_, _, _, rfl⟩) | exact .inr (.inr (.inl ⟨_, _, _, _, rfl⟩))) | skip
  · split at h
    · cases h
    · split at h
      · simp only [Option.some.injEq] at h; subst h; exact .inr (.inr (.inr ⟨_, _, _, _, rfl⟩))
      · cases h
  · cases h

/-- which operation of the model's stands behind one on memory -/
def memInv (P : Program) (op : Op) (ty : TypeId) : XOp → Prop
  | .load1 a => ∃ t, op = .load t a ∧ isAgg? P t = some false
  | .loadN k a => ∃ t, op = .load t a ∧ isAgg? P t = some true ∧ sizeOf? P t = some k
  | .store k a v => ∃ t, op = .store t a v ∧ sizeOf? P t = some k
  | .alloc t z => op = .alloc t ∧ zero? P t = some z
  | .box t x => op = .box t x
  | .bsl e len k z parts => ∃ t, op = .buildSlice t len parts.toArray ∧ P.underlying t = some (.slice e) ∧ sizeOf? P e = some k ∧ zero? P e = some z
  | .mksl e k b z l c => ∃ t, op = .makeSlice t l c ∧ P.underlying t = some (.slice e) ∧ sizeOf? P e = some k ∧ zero? P e = some z ∧ bytes? P e = some b
  | .app e k b z s x => ∃ t u xu, op = .call { callee := .builtin .append, args := #[s, x], argTypes := #[t, u] } ∧ P.underlying t = some (.slice e) ∧ P.underlying u = some xu ∧ (∀ q, xu ≠ .int q) ∧ sizeOf? P e = some k ∧ zero? P e = some z ∧ bytes? P e = some b
  | .copy k d s => ∃ t r e, op = .call { callee := .builtin .copy, args := #[d, s], argTypes := (t :: r).toArray } ∧ P.underlying t = some (.slice e) ∧ sizeOf? P e = some k
  | .clr z x => ∃ t e, op = .call { callee := .builtin .clear, args := #[x], argTypes := #[t] } ∧ P.underlying t = some (.slice e) ∧ zero? P e = some z
  | .b2s x => ∃ s d e, op = .convert s d x ∧ P.underlying s = some (.slice e) ∧ P.underlying d = some .string ∧ P.underlying e = some (.int .u8)
  | .s2b e x => ∃ s d, op = .convert s d x ∧ P.underlying s = some .string ∧ P.underlying d = some (.slice e) ∧ P.underlying e = some (.int .u8)
  | .call f args => ∃ ats, op = .call { callee := .value f, args := args.toArray, argTypes := ats }
  | .raw o t => op = o ∧ ty = t
  | _ => True

theorem cop_inv {op : Op} {ty : TypeId} {X : XOp} (h : cop P op ty = X) : memInv P op ty X := by
  subst h
  cases op
  case binOp o t x y u =>
    cases o <;> simp only [cop, memInv]
    · cases hc : cEq P false t x y with
      | none => simp
      | some X => rcases cEq_shape hc with ⟨_, _, _, rfl⟩ | ⟨_, _, _, rfl⟩ | ⟨_, _, _, _, rfl⟩ | ⟨_, _, _, _, rfl⟩ <;> simp
    · cases hc : cEq P true t x y with
      | none => simp
      | some X => rcases cEq_shape hc with ⟨_, _, _, rfl⟩ | ⟨_, _, _, rfl⟩ | ⟨_, _, _, _, rfl⟩ | ⟨_, _, _, _, rfl⟩ <;> simp
  case call c =>
    obtain ⟨callee, args, ats⟩ := c
    simp only [cop]
    split
    · simp [memInv]
    · simp [memInv]
    · split
      case h_5 s x t u ha hb =>
        have ha' : args = #[s, x] := by apply Array.ext'; exact ha
        have hb' : ats = #[t, u] := by apply Array.ext'; exact hb
        subst ha'; subst hb'
        split
        · simp [memInv]
        · rename_i xu hni ht hu
          split
          · rename_i k z b hk hz hb2
            exact ⟨t, u, _, rfl, ht, hu, fun q hq => hni q hq, hk, hz, hb2⟩
          · simp [memInv]
        · simp [memInv]
      case h_6 dd s t rest ha hb =>
        have ha' : args = #[dd, s] := by apply Array.ext'; exact ha
        have hb' : ats = (t :: rest).toArray := by apply Array.ext'; simpa using hb
        subst ha'; subst hb'
        split
        · rename_i e ht
          split
          · rename_i k hk; exact ⟨t, rest, e, rfl, ht, hk⟩
          · simp [memInv]
        · simp [memInv]
      case h_7 x t ha hb =>
        have ha' : args = #[x] := by apply Array.ext'; exact ha
        have hb' : ats = #[t] := by apply Array.ext'; exact hb
        subst ha'; subst hb'
        split
        · rename_i e ht
          split
          · rename_i z hz; exact ⟨t, e, rfl, ht, hz⟩
          · simp [memInv]
        · simp [memInv]
      all_goals ((repeat' split) <;> simp [memInv])
  all_goals (simp only [cop]; (repeat' split) <;> simp_all [memInv])
  all_goals first | exact ⟨_, _, ⟨rfl, rfl⟩, _, ‹_›, ‹_›, ‹_›⟩ | exact ⟨_, _, ⟨rfl, rfl⟩, ‹_›, ‹_›⟩

/-! ### the rules -/
theorem yload1 {b off : Nat} {a : Operand} {c : Array Value} {ty : TypeId} {fz : Nat × Nat} {f : Obj → Segs} {v : Value} [hA : At S b (.cells c ty fz) f]
    (ha : ev E a = .pointer (some ⟨b, off, none⟩)) (hv' : c.toList[off]? = some v) (h : K (putE d v E) S) : YO P r n d (.load1 a) K E S := by
  have hv : c[off]? = some v := by simpa using hv'
  intro op t pos af g hc hd
  obtain ⟨t', rfl, hagg⟩ := cop_inv hc
  refine xsem (by simp) hd fun F w hs => ⟨v, w, S, ?_, Ext.refl w, hs, h⟩
  have hb := hA.heap hs
  have hcell : w.cell? ⟨b, off, none⟩ = some v := by rw [cellOf hb, hv]
  simp [execOp, ha, Instr.loadAt, Instr.sureAddr, loadVar, Sem.run_bind, run_isAgg hagg, load_run hcell, Result.andThen, pure, Sem.run]

theorem yloadN {b off k : Nat} {a : Operand} {c : Array Value} {ty : TypeId} {fz : Nat × Nat} {f : Obj → Segs} {l : List Value} [hA : At S b (.cells c ty fz) f]
    (ha : ev E a = .pointer (some ⟨b, off, none⟩)) (hv : (c.toList.drop off).take k = l) (hk : l.length = k) (h : K (putE d (.agg l.toArray) E) S) : YO P r n d (.loadN k a) K E S := by
  intro op t pos af g hc hd
  obtain ⟨t', rfl, hagg, hsz⟩ := cop_inv hc
  refine xsem (by simp) hd fun F w hs => ⟨.agg l.toArray, w, S, ?_, Ext.refl w, hs, h⟩
  have hb := hA.heap hs
  have hlen : k ≤ (c.toList.drop off).length := by rw [← hk, ← hv]; simp; omega
  have hr := loadCells_run (P := P) (b := b) (off := off) (w := w) (l := c.toList.drop off) k (fun j hj => by rw [cellOf hb]; simp) hlen
  rw [hv] at hr
  simp [execOp, ha, Instr.loadAt, Instr.sureAddr, loadVar, Sem.run_bind, run_isAgg hagg, run_sizeOf hsz, hr, Result.andThen, pure, Sem.run]

/-- a value of one cell -/
def plainV : Value → Bool
  | .agg _ => false
  | .tuple _ => false
  | _ => true

theorem store_run {a : Addr} {v old : Value} {w : World} (hv : plainV v = true) (hc : w.cell? a = some old) (hf : w.frozen? a = false) : (store a v).run P w = .ok () (w.setCell a v) := by
  cases v <;> simp [plainV] at hv <;> simp [store, Sem.run, hc, hf]

theorem setCell_heap {w : World} {b i : Nat} {v : Value} {c : Array Value} {ty : TypeId} {fz : Nat × Nat} (h : w.heap[b]? = some (.cells c ty fz)) :
    (w.setCell ⟨b, i, none⟩ v).heap[b]? = some (.cells (c.setIfInBounds i v) ty fz) := by
  simp [World.setCell, Array.getElem?_modify, h]
theorem setCell_other {w : World} {b i j : Nat} {v : Value} (h : j ≠ b) : (w.setCell ⟨b, i, none⟩ v).heap[j]? = w.heap[j]? := by
  simp [World.setCell, Array.getElem?_modify, Ne.symm h]

theorem storeCells_run {b off : Nat} {ty : TypeId} {fz : Nat × Nat} : ∀ (vs : List Value) (i : Nat) (c : Array Value) (w : World), w.heap[b]? = some (.cells c ty fz) → vs.all plainV = true → off + i + vs.length ≤ c.size →
    (fz.2 ≤ off + i ∨ off + i + vs.length ≤ fz.1) →
    ∃ w', (storeCells ⟨b, off, none⟩ vs i).run P w = .ok () w' ∧ w'.heap[b]? = some (.cells (setAll c.toList (off + i) vs).toArray ty fz) ∧ (∀ j, j ≠ b → w'.heap[j]? = w.heap[j]?) ∧ Ext w w'
  | [], i, c, w, hb, hp, hl, hz => ⟨w, by simp [storeCells, pure], by simpa [setAll] using hb, fun _ _ => rfl, Ext.refl w⟩
  | v :: vs, i, c, w, hb, hp, hl, hz => by
    simp only [List.all_cons, Bool.and_eq_true] at hp
    simp only [List.length_cons] at hl hz
    have hc : w.cell? ⟨b, off + i, none⟩ = some (c[off + i]'(by omega)) := by rw [cellOf hb]; simp
    have hf : w.frozen? ⟨b, off + i, none⟩ = false := by
      rw [frozenOf hb]
      rcases hz with hz | hz
      · have : ¬ off + i < fz.2 := by omega
        simp [this]
      · have : ¬ fz.1 ≤ off + i := by omega
        simp [this]
    obtain ⟨w', h1, h2, h3, h4⟩ := storeCells_run (off := off) vs (i + 1) (c.setIfInBounds (off + i) v) (w.setCell ⟨b, off + i, none⟩ v) (setCell_heap hb) hp.2 (by simp; omega) (by omega)
    refine ⟨w', ?_, ?_, fun j hj => (h3 j hj).trans (setCell_other hj), Ext.trans (b := w.setCell ⟨b, off + i, none⟩ v) ⟨rfl, rfl, rfl, by simp [World.setCell]⟩ h4⟩
    · simp only [storeCells, Sem.run_bind, add_plain, store_run hp.1 hc hf, Result.andThen_ok]
      exact h1
    · rw [h2]
      simp [setAll, Nat.add_assoc]

theorem ystore {b off k : Nat} {a v : Operand} {c : Array Value} {ty : TypeId} {fz : Nat × Nat} {f : Obj → Segs} {vs : List Value} [hA : At S b (.cells c ty fz) f]
    (ha : ev E a = .pointer (some ⟨b, off, none⟩)) (hv : (ev E v).cells.toList = vs) (hk : vs.length = k) (hp : vs.all plainV = true) (hl : off + k ≤ c.size) (hz : fz.2 ≤ off ∨ off + k ≤ fz.1)
    (h : K (putE d undef E) (f (.cells (setAll c.toList off vs).toArray ty fz))) : YO P r n d (.store k a v) K E S := by
  intro op t pos af g hc hd
  obtain ⟨t', rfl, hsz⟩ := cop_inv hc
  refine xunit (by simp) hd fun F w hs => ?_
  have hb := hA.heap hs
  obtain ⟨w', h1, h2, h3, h4⟩ := storeCells_run (P := P) (off := off) vs 0 c w hb hp (by omega) (by omega)
  simp only [Nat.add_zero] at h2
  refine ⟨w', _, ?_, h4, hA.upd hs h2 h3, h⟩
  have hsz' : ((ev E v).cells.size = k) := by rw [← hk, ← hv]; simp
  simp [execOp, ha, Instr.storeAt, Instr.sureAddr, storeVar, Sem.run_bind, run_sizeOf hsz, hsz', hv, h1, Result.andThen, pure, Sem.run]

/-! new blocks -/
theorem newRow_run (e : TypeId) (c : Array Value) (w : World) : (newRow e c).run P w = .ok ⟨w.heap.size, 0, none⟩ { w with heap := w.heap.push (.cells c e) } := by
  rfl

theorem yalloc {t : TypeId} {z : List Value} (h : ∀ b, K (putE d (.pointer (some ⟨b, 0, none⟩)) E) ([(b, .cells z.toArray t)] :: S)) : YO P r n d (.alloc t z) K E S := by
  intro op ty pos af g hc hd
  obtain ⟨rfl, hz⟩ := cop_inv hc
  refine xsem (by simp) hd fun F w hs => ?_
  obtain ⟨zv, hzr, hzc⟩ := zero_run hz w
  have hcells : zv.cells = z.toArray := by apply Array.ext'; simp [hzc]
  refine ⟨_, _, [(w.heap.size, .cells z.toArray t)] :: S, ?_, Ext.push w _, Sat.new _ hs, h w.heap.size⟩
  simp [execOp, Instr.alloc, Sem.run_bind, hzr, Result.andThen, newVar, newRow_run, hcells, pure, Sem.run]

theorem ybox {t : TypeId} {x : Operand} {vs : List Value} (hv : (ev E x).cells.toList = vs) (h : ∀ b, K (putE d (.pointer (some ⟨b, 0, none⟩)) E) ([(b, .cells vs.toArray t)] :: S)) : YO P r n d (.box t x) K E S := by
  intro op ty pos af g hc hd
  obtain rfl := cop_inv hc
  refine xsem (by simp) hd fun F w hs => ?_
  have hcells : (ev E x).cells = vs.toArray := by apply Array.ext'; simp [hv]
  refine ⟨_, _, [(w.heap.size, .cells vs.toArray t)] :: S, ?_, Ext.push w _, Sat.new _ hs, h w.heap.size⟩
  simp [execOp, Instr.box, Sem.run_bind, Result.andThen, newVar, newRow_run, hcells, pure, Sem.run]

/-! calls -/
theorem callFunc_run {f : FuncId} (h : Ent P f) (args : Array Value) (w : World) : (callFunc f args).run P w = .ok (.enter f args) w := by
  obtain ⟨fn, h1, h2, h3⟩ := h
  cases hb : fn.body with
  | none => simp [hb] at h2
  | some c =>
    have h4 : ¬ fn.name = "runtime.NumGoroutine" := by simpa using h3
    simp [callFunc, Sem.run_bind, Result.andThen, h1, h4, hb, pure]

theorem ycallee_run {f : Operand} {args : List Operand} {fid : FuncId} {first caps A : Array Value} {ats : Array TypeId} {ty : TypeId} {pos : String} {af : Array Edge} {g : Option (Nat × Bool)}
    (he : Ent P fid) (hf : ev E f = .func (.func fid) first caps) (ha : first.toList ++ args.map (ev E) ++ caps.toList = A.toList) (w : World) :
    (execOp (ev E) (mk d (.call { callee := .value f, args := args.toArray, argTypes := ats }) ty pos af g)).run P w = .ok (.enter fid A) w := by
  have hA : first ++ (args.map (ev E)).toArray ++ caps = A := by apply Array.ext'; simpa using ha
  simp only [execOp, resolve, Sem.run_bind, hf, Deferred.ofValue, pure, Sem.run, Result.andThen, invoke]
  have : first ++ Array.map (ev E) args.toArray ++ caps = A := by rw [← hA]; simp
  rw [this]
  exact callFunc_run he A w

theorem ycall0 {f : Operand} {args : List Operand} {fid : FuncId} {first caps A : Array Value} (hf : ev E f = .func (.func fid) first caps) (ha : first.toList ++ args.map (ev E) ++ caps.toList = A.toList)
    (h : Tri P fid A S (fun v S' => K (putE d v E) S')) : YO P r n d (.call f args) K E S := by
  intro op ty pos af g hc hd
  obtain ⟨ats, rfl⟩ := cop_inv hc
  exact xcall (fun w => ycallee_run h.ent hf ha w) (by simp) hd h

/-- A CALL BY ITS CONTRACT: the contract owns S0, the rest G is left alone. -/
theorem ycall {f : Operand} {args : List Operand} {fid : FuncId} {first caps A : Array Value} {S0 G : Segs} {R : Value → Segs → Prop} (C : Tri P fid A S0 R)
    (hf : ev E f = .func (.func fid) first caps) (ha : first.toList ++ args.map (ev E) ++ caps.toList = A.toList) [hs : Sub S S0 G]
    (h : ∀ v S', R v S' → K (putE d v E) (S' ++ G)) : YO P r n d (.call f args) K E S :=
  ycall0 hf ha (((C.frame G).perm (by rw [List.flatten_append]; exact hs.perm)).mono fun v S'' ⟨S', e, hr⟩ => by subst e; exact h v S' hr)

theorem YO.perm {x : XOp} {S₂ : Segs} (p : S₂.flatten.Perm S.flatten) (h : YO P r n d x K E S) : YO P r n d x K E S₂ :=
  fun op ty pos af g hc hd D F a w hs => h op ty pos af g hc hd D F a w ⟨hs.size, hs.env, hs.defers, hs.sat.permF p⟩
theorem YL.perm {l : List XOper} {S₂ : Segs} (p : S₂.flatten.Perm S.flatten) (h : YL P r n l K E S) : YL P r n l K E S₂ :=
  fun ops l' hl D F a w hs => h ops l' hl D F a w ⟨hs.size, hs.env, hs.defers, hs.sat.permF p⟩
theorem YO.mono {x : XOp} {K' : Env → Segs → Prop} (h : YO P r n d x K E S) (hk : ∀ E S, K E S → K' E S) : YO P r n d x K' E S :=
  fun op ty pos af g hc hd D F a w hs => Oper.wpIn_mono (h op ty pos af g hc hd D F a w hs) (fun _a' _w' ⟨hx, E', S', hs', k⟩ => ⟨hx, E', S', hs', hk _ _ k⟩) (fun _ _ _ hf => hf)
end Go.Xs
