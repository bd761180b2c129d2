/- Slices as lists: what they hold, append, make, literals, copy, clear, bytes and strings. -/
import Derived.Test.YtkdbajfaaifkaaaStep
namespace Go.Xs

/-- a type whose values lie in so many cells -/
class Enc (α : Type) where
  enc : α → List Value
  k : Nat
  len : ∀ a, (enc a).length = k
  plain : ∀ a, (enc a).all plainV = true
open Enc (enc)

def cells {α : Type} [Enc α] (L : List α) : List Value := L.flatMap enc

section
variable {α : Type} [Enc α]
theorem cells_nil : cells ([] : List α) = [] := rfl
theorem cells_cons (a : α) (L : List α) : cells (a :: L) = enc a ++ cells L := rfl
theorem cells_append (L M : List α) : cells (L ++ M) = cells L ++ cells M := by simp [cells]
theorem cells_length (L : List α) : (cells L).length = L.length * Enc.k α := by
  induction L with
  | nil => simp [cells]
  | cons a L ih => rw [cells_cons, List.length_append, Enc.len, ih, List.length_cons, Nat.succ_mul, Nat.add_comm]
theorem cells_plain (L : List α) : (cells L).all plainV = true := by
  induction L with
  | nil => rfl
  | cons a L ih => rw [cells_cons, List.all_append, Enc.plain, ih]; rfl
theorem cells_drop (L : List α) (i : Nat) : (cells L).drop (i * Enc.k α) = cells (L.drop i) := by
  induction L generalizing i with
  | nil => simp [cells]
  | cons a L ih =>
    cases i with
    | zero => simp
    | succ i =>
      rw [cells_cons, List.drop_succ_cons, ← ih i, Nat.succ_mul, Nat.add_comm, ← List.drop_drop]
      congr 1
      rw [List.drop_append_of_le_length (by rw [Enc.len]; omega), List.drop_eq_nil_of_le (by rw [Enc.len]; omega)]
      rfl
theorem cells_take (L : List α) (i : Nat) : (cells L).take (i * Enc.k α) = cells (L.take i) := by
  induction L generalizing i with
  | nil => simp [cells]
  | cons a L ih =>
    cases i with
    | zero => simp [cells]
    | succ i =>
      rw [cells_cons, List.take_succ_cons, cells_cons, ← ih i, Nat.succ_mul, Nat.add_comm]
      rw [List.take_append, Enc.len]
      rw [List.take_of_length_le (by rw [Enc.len]; omega)]
      congr 2
      omega
/-- one cell of one element -/
theorem cells_get (L : List α) (i j : Nat) (h : i < L.length) (hj : j < Enc.k α) : (cells L)[i * Enc.k α + j]? = (enc L[i])[j]? := by
  have h1 : (cells L)[i * Enc.k α + j]? = ((cells L).drop (i * Enc.k α))[j]? := by simp
  rw [h1, cells_drop, List.drop_eq_getElem_cons h, cells_cons, List.getElem?_append_left (by rw [Enc.len]; exact hj)]
/-- one element -/
theorem cells_elem (L : List α) (i : Nat) (h : i < L.length) : ((cells L).drop (i * Enc.k α)).take (Enc.k α) = enc L[i] := by
  rw [cells_drop, List.drop_eq_getElem_cons h, cells_cons, List.take_append, Enc.len, Nat.sub_self, List.take_zero, List.append_nil, List.take_of_length_le (by rw [Enc.len]; exact Nat.le_refl _)]
theorem setAll_append (l : List Value) : ∀ (c : List Value) (off : Nat), off + c.length ≤ l.length → setAll l off c = l.take off ++ c ++ l.drop (off + c.length)
  | [], off, h => by simp [setAll]
  | x :: c, off, h => by
    simp only [List.length_cons] at h
    rw [setAll, setAll_append (l.set off x) c (off + 1) (by simp; omega)]
    simp only [List.length_cons]
    rw [show off + 1 + c.length = off + (c.length + 1) from by omega]
    rw [List.drop_set_of_lt (by omega)]
    congr 1
    have e1 : (l.set off x).take (off + 1) = l.take off ++ [x] := by
      rw [List.take_set, List.take_add_one, List.getElem?_eq_getElem (by omega)]
      simp only [Option.toList_some]
      rw [List.set_append_right _ _ (by simp; omega)]
      simp [Nat.min_eq_left (by omega : off ≤ l.length)]
    rw [e1]; simp
theorem setAll_cells (L : List α) (i : Nat) (Y : List α) (h : i + Y.length ≤ L.length) : setAll (cells L) (i * Enc.k α) (cells Y) = cells (L.take i ++ Y ++ L.drop (i + Y.length)) := by
  rw [setAll_append _ _ _ (by rw [cells_length, cells_length, ← Nat.add_mul]; exact Nat.mul_le_mul_right _ h)]
  rw [cells_append, cells_append, cells_take, cells_length, ← Nat.add_mul, cells_drop]
end

/-- the frozen part lies behind the cells -/
def FzOk (fz : Nat × Nat) (m : Nat) : Prop := fz.2 = 0 ∨ m ≤ fz.1

/-- A SLICE OF ITS OWNER's: v holds L; H is its array, if it has one. -/
inductive Slc {α : Type} [Enc α] (ty : TypeId) : Value → List α → List Chunk → Prop
  | nil : Slc ty (.slice none 0 0) [] []
  | row {b : Nat} {L sp : List α} {fz : Nat × Nat} : FzOk fz (cells (L ++ sp)).length → Slc ty (.slice (some ⟨b, 0, none⟩) L.length (L.length + sp.length)) L [(b, .cells (cells (L ++ sp)).toArray ty fz)]

theorem Slc.isSlice {α : Type} [Enc α] {ty : TypeId} {v : Value} {L : List α} {H : List Chunk} (h : Slc ty v L H) : ∃ a c, v = .slice a L.length c := by
  cases h with
  | nil => exact ⟨none, 0, rfl⟩
  | row => exact ⟨_, _, rfl⟩

theorem Slc.at' {α : Type} [Enc α] {ty : TypeId} {a : Option Addr} {m c : Nat} {L : List α} {H : List Chunk} (h : Slc ty (.slice a m c) L H) (hne : L ≠ []) :
    ∃ (b : Nat) (sp : List α) (fz : Nat × Nat), FzOk fz (cells (L ++ sp)).length ∧ a = some ⟨b, 0, none⟩ ∧ m = L.length ∧ c = L.length + sp.length ∧ H = [(b, .cells (cells (L ++ sp)).toArray ty fz)] := by
  generalize hv : Value.slice a m c = v at h
  cases h with
  | nil => exact absurd rfl hne
  | row hz =>
    simp only [Value.slice.injEq] at hv
    exact ⟨_, _, _, hz, hv.1, hv.2.1, hv.2.2, rfl⟩

/-- an element of a row, and one cell of it -/
theorem row_elem {α : Type} [Enc α] {L sp : List α} {i kk : Nat} (h : i < L.length) (hk : Enc.k α = kk) : ((cells (L ++ sp)).toArray.toList.drop (0 + i * kk)).take kk = enc L[i] := by
  subst hk
  rw [Nat.zero_add]
  exact (cells_elem (L ++ sp) i (by simp; omega)).trans (by rw [List.getElem_append_left h])
theorem row_cell {α : Type} [Enc α] {L sp : List α} {i j kk : Nat} (h : i < L.length) (hk : Enc.k α = kk) (hj : j < kk) : (cells (L ++ sp)).toArray.toList[0 + i * kk + j]? = (enc L[i])[j]? := by
  subst hk
  rw [Nat.zero_add]
  exact (cells_get (L ++ sp) i j (by simp; omega) hj).trans (by rw [List.getElem_append_left h])

/-- what may be read as Y in S: a slice, or a part of one -/
inductive Src {α : Type} [Enc α] (S : Segs) : Value → List α → Prop
  | nil {a : Option Addr} {c : Nat} : Src S (.slice a 0 c) []
  | part {b o cap : Nat} {c : Array Value} {ty : TypeId} {fz : Nat × Nat} {Y : List α} : [(b, Obj.cells c ty fz)] ∈ S → (c.toList.drop o).take (Y.length * Enc.k α) = cells Y → Src S (.slice (some ⟨b, o, none⟩) Y.length cap) Y

theorem Slc.src {α : Type} [Enc α] {ty : TypeId} {v : Value} {L : List α} {H : List Chunk} {S : Segs} (h : Slc ty v L H) (hm : H ∈ S) : Src S v L := by
  cases h with
  | nil => exact .nil
  | row hz => exact .part hm (by rw [List.drop_zero]; simp only [cells_append]; rw [List.take_append, cells_length, Nat.sub_self, List.take_zero, List.append_nil, List.take_of_length_le (by rw [cells_length]; exact Nat.le_refl _)])

variable {P : Program} {r : Option Nat} {n : Nat} {K : Env → Segs → Prop} {E : Env} {S G : Segs} {d : Option Tmp}
variable {α : Type} [Enc α]

theorem lenOf_run {a : Option Addr} {m c : Nat} (w : World) : (Builtin.lenOf (.slice a m c)).run P w = .ok m w := by simp [Builtin.lenOf, pure]

theorem src_run {S F : Segs} {w : World} {x : Value} {Y : List α} (h : Src S x Y) (hs : Sat (S ++ F) w) : (Builtin.lenOf x).run P w = .ok Y.length w ∧ (Builtin.firstCells (Enc.k α) Y.length x).run P w = .ok (cells Y).toArray w := by
  cases h with
  | @nil a c => exact ⟨lenOf_run w, by cases a <;> simp [Builtin.firstCells, cells, loadCells, loadCellsFrom, pure]⟩
  | @part b o cap c ty fz Y hm hc =>
    refine ⟨lenOf_run w, ?_⟩
    have hb : w.heap[b]? = some (.cells c ty fz) := hs.at_ (List.mem_append.2 (.inl hm)) (x := (b, _)) (by simp)
    have hlen : Y.length * Enc.k α ≤ (c.toList.drop o).length := by
      have := congrArg List.length hc
      rw [cells_length, List.length_take] at this
      omega
    have hr := loadCells_run (P := P) (b := b) (off := o) (w := w) (l := c.toList.drop o) (Y.length * Enc.k α) (fun j hj => by rw [cellOf hb]; simp) hlen
    rw [hc] at hr
    simp [Builtin.firstCells, hr]

theorem zeroCells_eq {zv : Value} {z : List Value} (hz : zv.cells.toList = z) (m : Nat) : (Builtin.zeroCells zv.cells m).toList = (List.replicate m z).flatten := by
  have hsz : zv.cells.size = z.length := by rw [← hz]; simp
  unfold Builtin.zeroCells
  rw [Array.toList_map, Array.toList_range, hsz]
  have hget : ∀ i, zv.cells[i]! = z.getD i default := by intro i; rw [← hz]; simp [Array.getElem!_eq_getD, Array.getD_eq_getD_getElem?, List.getD_eq_getElem?_getD]
  apply List.ext_getElem
  · simp
  · intro i h1 h2
    simp only [List.getElem_map, List.getElem_range, hget]
    rcases Nat.eq_zero_or_pos z.length with h0 | h0
    · simp [h0] at h1
    · induction m generalizing i with
      | zero => simp at h1
      | succ m ih =>
        simp only [List.replicate_succ, List.flatten_cons]
        by_cases hi : i < z.length
        · rw [List.getElem_append_left hi]
          simp only [List.getD_eq_getElem?_getD, Nat.mod_eq_of_lt hi, List.getElem?_eq_getElem hi, Option.getD_some]
        · have hi' : z.length ≤ i := by omega
          rw [List.getElem_append_right hi', Nat.mod_eq_sub_mod hi']
          exact ih (i - z.length) (by simp [Nat.succ_mul] at h1 ⊢; omega) (by simp [List.replicate_succ] at h2 ⊢; omega)

theorem cells_replicate (m : Nat) (a : α) : cells (List.replicate m a) = (List.replicate m (enc a)).flatten := by
  induction m with
  | zero => rfl
  | succ m ih => rw [List.replicate_succ, cells_cons, ih, List.replicate_succ, List.flatten_cons]

theorem notInt {xu : TypeDesc} (hni : ∀ q, xu ≠ .int q) : (match xu with | .int _ => true | _ => false) = false := by
  cases xu <;> first | rfl | exact absurd rfl (hni _)

theorem append_fit {t u e : TypeId} {xu : TypeDesc} {ty : TypeId} {k m sLen sCap : Nat} {base : Option Addr} {xv : Value} {ys : Array Value} {w : World} (ht : P.underlying t = some (.slice e)) (hu : P.underlying u = some xu) (hni : ∀ q, xu ≠ .int q) (hsz : sizeOf? P e = some k)
    (hlen : (Builtin.lenOf xv).run P w = .ok m w) (hfc : (Builtin.firstCells k m xv).run P w = .ok ys w) (hle : sLen + m ≤ sCap) :
    (Builtin.append_ #[t, u] ty #[.slice base sLen sCap, xv]).run P w = match base with
      | none => .ok (.slice none (sLen + m) sCap) w
      | some a => ((storeCells (a.add (sLen * k)) ys.toList).run P w).andThen fun _ w' => .ok (.slice (some a) (sLen + m) sCap) w' := by
  have hz := notInt hni
  simp only [Builtin.append_, List.getElem?_toArray, List.getElem?_cons_zero, List.getElem?_cons_succ]
  simp only [Sem.run_bind, run_underlying ht, Result.andThen_ok, run_sizeOf hsz, run_underlying hu, pure, Sem.run, Bool.false_eq_true, if_false, hlen]
  rw [if_pos hle]
  simp only [Sem.run_bind, Bool.not_false, if_true, hfc, Result.andThen_ok]
  cases base with
  | none => simp [Sem.run]
  | some a => simp only [Sem.run_bind, Sem.run]

theorem append_grow {t u e : TypeId} {xu : TypeDesc} {ty : TypeId} {k m b sLen sCap : Nat} {base : Option Addr} {xv _zv : Value} {old ys : Array Value} {w : World} {z : List Value} (ht : P.underlying t = some (.slice e)) (hu : P.underlying u = some xu) (hni : ∀ q, xu ≠ .int q) (hsz : sizeOf? P e = some k)
    (hzz : zero? P e = some z) (hbb : bytes? P e = some b)
    (hlen : (Builtin.lenOf xv).run P w = .ok m w) (hold : ∀ w', w'.heap = w.heap → (Builtin.firstCells k sLen (.slice base sLen sCap)).run P w' = .ok old w') (hnew : ∀ w', w'.heap = w.heap → (Builtin.firstCells k m xv).run P w' = .ok ys w')
    (hgt : ¬ sLen + m ≤ sCap) (hbpos : sLen + m ≤ 9223372036854775807) (hfit : Builtin.nextslicecap (sLen + m) sCap * b ≤ 281474976710656) :
    ∃ (M : Nat) (w1 : World), sLen + m ≤ M ∧ w1.heap = w.heap ∧ Ext w w1 ∧ ∃ zc : Array Value, zc.toList = (List.replicate (M - (sLen + m)) z).flatten ∧
      (Builtin.append_ #[t, u] ty #[.slice base sLen sCap, xv]).run P w = .ok (.slice (some ⟨w1.heap.size, 0, none⟩) (sLen + m) M) { w1 with heap := w1.heap.push (.cells (old ++ ys ++ zc) e) } := by
  have hz := notInt hni
  let q : Question := .appendCap (sLen + m) sCap e
  let M := q.cut (w.tape w.drawn q)
  let w1 : World := { w with drawn := w.drawn + 1 }
  obtain ⟨ti, hti, htb⟩ := bytes_run hbb w
  obtain ⟨ti1, hti1, htb1⟩ := bytes_run hbb w1
  obtain ⟨zv, hzr, hzc⟩ := zero_run hzz w1
  have hc1 : ¬ (((sLen + m : Nat) : Int) > IntKind.i64.max ∧ (False ∨ ti.bytes = 0)) := by
    intro h
    have := h.1
    simp [IntKind.max, IntKind.signed, IntKind.bits] at this
    omega
  have hc2 : ¬ Builtin.nextslicecap (sLen + m) sCap * ti.bytes > 2 ^ 48 := by rw [htb]; omega
  have hch : (choose (.appendCap (sLen + m) sCap e)).run P w = .ok M w1 := rfl
  have hroom : (askRoom (M * ti1.bytes)).run P w1 = .ok () w1 := by
    unfold askRoom
    split <;> rfl
  refine ⟨M, w1, Nat.le_add_right _ _, rfl, ⟨rfl, rfl, rfl, Nat.le_refl _⟩, Builtin.zeroCells zv.cells (M - (sLen + m)), zeroCells_eq hzc _, ?_⟩
  simp only [Builtin.append_, List.getElem?_toArray, List.getElem?_cons_zero, List.getElem?_cons_succ]
  simp only [Sem.run_bind, run_underlying ht, Result.andThen_ok, run_sizeOf hsz, run_underlying hu, pure, Sem.run, Bool.false_eq_true, if_false, hlen]
  rw [if_neg hgt]
  simp only [Sem.run_bind, hti, Result.andThen_ok]
  rw [if_neg hc1]
  simp only [Sem.run_bind, hti, Result.andThen_ok]
  rw [if_neg hc2]
  simp only [Sem.run_bind, hch, Result.andThen_ok, hti1, hroom, hold w1 rfl, hnew w1 rfl, hzr, newRow_run, Bool.not_false, if_true, Sem.run]

/-- APPEND onto a slice of one's own. -/
theorem yapp {e kk bytes : Nat} {z : List Value} {s x : Operand} {v xv : Value} {L Y : List α} {H : List Chunk} [hp : Pick S H G] (hs : ev E s = v) (hx : ev E x = xv) (hL : Slc e v L H) (hY : Src S xv Y)
    (hk : Enc.k α = kk) (z0 : α) (hz : enc z0 = z) (hb : (L.length + Y.length) * bytes ≤ 140737488355328) (hl : L.length + Y.length ≤ 9223372036854775807)
    (h : ∀ v' H', Slc e v' (L ++ Y) H' → K (putE d v' E) (H' :: G)) : YO P r n d (.app e kk bytes z s x) K E S := by
  intro op ty pos af g hc hd
  obtain ⟨t, u, xu, rfl, ht, hu, hni, hsz, hzz, hbb⟩ := cop_inv hc
  subst hk
  refine xsem (by simp) hd fun F w hsat => ?_
  obtain ⟨hlen, hcells⟩ := src_run (P := P) hY hsat
  have key : ∀ v' w', (Builtin.append_ #[t, u] ty #[v, xv]).run P w = .ok v' w' →
      (execOp (ev E) (mk d (.call { callee := .builtin .append, args := #[s, x], argTypes := #[t, u] }) ty pos af g)).run P w = .ok (.value v') w' := by
    intro v' w' hr
    refine exec_builtin rfl ?_
    have : (#[s, x] : Array Operand).map (ev E) = #[v, xv] := by simp [hs, hx]
    rw [this]
    simp [builtin, Sem.run_bind, hr, Result.andThen, pure, Sem.run]
  have hsatw : ∀ w' : World, w'.heap = w.heap → Sat (S ++ F) w' := fun w' h' => ⟨SatL.nodup hsat, fun y hy => by rw [h']; exact SatL.at_ hsat y hy⟩
  have hsat' := hsat.permF (S' := H :: G) (by simpa using hp.perm)
  have hsatw' : ∀ w' : World, w'.heap = w.heap → Sat ((H :: G) ++ F) w' := fun w' h' => ⟨SatL.nodup hsat', fun y hy => by rw [h']; exact SatL.at_ hsat' y hy⟩
  -- what is there may be read in every world of this heap
  have hold : ∀ w' : World, w'.heap = w.heap → ∀ base cap, v = .slice base L.length cap → (Builtin.firstCells (Enc.k α) L.length (.slice base L.length cap)).run P w' = .ok (cells L).toArray w' := by
    intro w' hw base cap hv
    have := (src_run (P := P) (hL.src (S := H :: G) (by simp)) (hsatw' w' hw)).2
    rw [hv] at this; exact this
  obtain ⟨base, cap, hv⟩ := hL.isSlice
  by_cases hle : L.length + Y.length ≤ cap
  · have hfit := append_fit (ty := ty) (base := base) (sLen := L.length) (sCap := cap) ht hu hni hsz hlen hcells hle
    cases hL with
    | nil =>
      simp only [Value.slice.injEq] at hv
      obtain ⟨rfl, _, rfl⟩ := hv
      have hY0 : Y = [] := by cases Y with | nil => rfl | cons a Y => simp at hle
      subst hY0
      refine ⟨_, w, [] :: G, key _ _ hfit, Ext.refl w, hsat', h _ _ (by simpa using Slc.nil)⟩
    | @row b L sp fz hfz =>
      simp only [Value.slice.injEq] at hv
      obtain ⟨rfl, _, rfl⟩ := hv
      have hbk : w.heap[b]? = some (.cells (cells (L ++ sp)).toArray e fz) := hsat'.at_ (s := [(b, Obj.cells (cells (L ++ sp)).toArray e fz)]) (by simp) (x := (b, Obj.cells (cells (L ++ sp)).toArray e fz)) (by simp)
      have hY' : Y.length ≤ sp.length := by omega
      have hsum : L.length * Enc.k α + Y.length * Enc.k α ≤ (L.length + sp.length) * Enc.k α := by
        rw [← Nat.add_mul]; exact Nat.mul_le_mul_right _ (by omega)
      have hroom : L.length * Enc.k α + 0 + (cells Y).length ≤ (cells (L ++ sp)).toArray.size := by
        rw [List.size_toArray, cells_length, cells_length, List.length_append]; omega
      obtain ⟨w', h1, h2, h3, h4⟩ := storeCells_run (P := P) (b := b) (off := L.length * Enc.k α) (cells Y) 0 _ w hbk (cells_plain Y) hroom (by
        rcases hfz with hz | hz
        · exact .inl (by omega)
        · refine .inr (Nat.le_trans ?_ hz)
          rw [List.size_toArray] at hroom
          exact hroom)
      have hfit' : (Builtin.append_ #[t, u] ty #[.slice (some ⟨b, 0, none⟩) L.length (L.length + sp.length), xv]).run P w = .ok (.slice (some ⟨b, 0, none⟩) (L.length + Y.length) (L.length + sp.length)) w' := by
        rw [hfit]
        simp only [add_plain, Nat.zero_add, h1, Result.andThen_ok]
      refine ⟨_, w', [(b, .cells (cells ((L ++ Y) ++ sp.drop Y.length)).toArray e fz)] :: G, key _ _ hfit', h4, ?_, h _ _ ?_⟩
      · have hcell : setAll (cells (L ++ sp)) (L.length * Enc.k α) (cells Y) = cells ((L ++ Y) ++ sp.drop Y.length) := by
          rw [setAll_cells (L ++ sp) L.length Y (by simp; omega)]
          congr 1
          simp [List.drop_append]
        simp only [Nat.add_zero] at h2
        rw [hcell] at h2
        have hS : SatL ([] ++ (b, Obj.cells (cells (L ++ sp)).toArray e fz) :: (G ++ F).flatten) w := by
          have : SatL _ w := hsat'; simpa using this
        have := hS.upd h2 h3
        show SatL _ w'
        simpa using this
      · have hlen2 : L.length + sp.length = (L ++ Y).length + (sp.drop Y.length).length := by simp; omega
        have := Slc.row (ty := e) (b := b) (L := L ++ Y) (sp := sp.drop Y.length) (fz := fz) (by
          rcases hfz with hz | hz
          · exact .inl hz
          · refine .inr (Nat.le_trans (Nat.le_of_eq ?_) hz)
            rw [cells_length, cells_length]; congr 1; simp; omega)
        rw [← hlen2] at this
        simpa using this
  · -- it grows
    have hlt : cap < L.length + Y.length := by omega
    obtain ⟨M, w1, hM, hw1, hx1, zc, hzc, hrun⟩ := append_grow (ty := ty) (sLen := L.length) (sCap := cap) (base := base) (m := Y.length) (w := w) (old := (cells L).toArray) (ys := (cells Y).toArray) (_zv := undef) ht hu hni hsz hzz hbb hlen
      (fun w' hw => hold w' hw base cap hv) (fun w' hw => (src_run (P := P) hY (hsatw w' hw)).2) hle hl (growslice_fits hlt hb)
    rw [← hv] at hrun
    have hcl : (cells L).toArray ++ (cells Y).toArray ++ zc = (cells ((L ++ Y) ++ List.replicate (M - (L.length + Y.length)) z0)).toArray := by
      apply Array.ext'
      simp [hzc, cells_append, cells_replicate, hz]
    rw [hcl] at hrun
    refine ⟨_, _, [(w1.heap.size, .cells (cells ((L ++ Y) ++ List.replicate (M - (L.length + Y.length)) z0)).toArray e)] :: G, key _ _ hrun, hx1.trans (Ext.push w1 _), ?_, h _ _ ?_⟩
    · have hG : Sat (G ++ F) w1 := by
        have := hsatw' w1 hw1
        exact SatL.sub this (by simp)
      exact Sat.new _ hG
    · have hlen2 : M = (L ++ Y).length + (List.replicate (M - (L.length + Y.length)) z0).length := by simp; omega
      have := Slc.row (ty := e) (b := w1.heap.size) (L := L ++ Y) (sp := List.replicate (M - (L.length + Y.length)) z0) (fz := (0, 0)) (.inl rfl)
      rw [← hlen2] at this
      simpa using this

theorem map_range0 {β : Type} (f : Nat → β) : Array.map f (Array.range 0) = #[] := by apply Array.ext'; simp

/-! literals of slices -/
def xfill (ρ : Operand → Value) (size : Nat) : List Value → List (Nat × Operand) → Option (List Value)
  | l, [] => some l
  | l, (i, x) :: r => if (ρ x).cells.size = size ∧ i * size + size ≤ l.length then xfill ρ size (setAll l (i * size) (ρ x).cells.toList) r else none

theorem fill_slice {ρ : Operand → Value} {size : Nat} : ∀ (parts : List (Nat × Operand)) (l r : List Value), xfill ρ size l parts = some r → Instr.fill (fun i => some (i * size, size)) l.toArray (parts.map fun x => (x.1, ρ x.2)) = some r.toArray
  | [], l, r, h => by simp only [xfill, Option.some.injEq] at h; subst h; simp [Instr.fill]
  | (i, x) :: parts, l, r, h => by
    simp only [xfill] at h
    split at h
    · rename_i hb
      have := fill_slice parts _ r h
      simp only [List.map_cons, Instr.fill]
      have hcnd : ¬ (((ρ x).cells.size ≠ size || decide (i * size + (ρ x).cells.size > l.toArray.size)) = true) := by simp; omega
      rw [if_neg hcnd, ← this]
      congr 1
      apply Array.ext'
      rw [← Array.foldl_toList, Array.toList_zipIdx]
      have := foldl_setAll (i * size) (ρ x).cells.toList 0 l.toArray
      simp only [Nat.add_zero] at this
      rw [this]
    · cases h

theorem zeroRow_eq {zv : Value} {z : List Value} {k : Nat} (hz : zv.cells.toList = z) (hk : z.length = k) (m : Nat) : ((Array.range (m * k)).map (fun i => zv.cells[i % zv.cells.size]!)).toList = (List.replicate m z).flatten := by
  have := zeroCells_eq hz m
  have hsz : zv.cells.size = k := by rw [← hk, ← hz]; simp
  unfold Builtin.zeroCells at this
  rw [hsz] at this ⊢
  exact this

theorem ybsl {e len size : Nat} {z l : List Value} {parts : List (Nat × Operand)} (hz : z.length = size) (hsz0 : size ≠ 0) (hlen : len ≠ 0) (hsmall : len * size ≤ 16777216) (hl : xfill (ev E) size ((List.replicate len z).flatten) parts = some l)
    (h : ∀ b, K (putE d (.slice (some ⟨b, 0, none⟩) len len) E) ([(b, .cells l.toArray e)] :: S)) : YO P r n d (.bsl e len size z parts) K E S := by
  intro op ty pos af g hc hd
  obtain ⟨t, rfl, ht, hsz, hzz⟩ := cop_inv hc
  refine xsem (by simp) hd fun F w hs => ?_
  obtain ⟨zv, hzr, hzc⟩ := zero_run hzz w
  have hfill := fill_slice parts _ l hl
  have hrow : ((Array.range (len * size)).map (fun i => zv.cells[i % zv.cells.size]!)) = ((List.replicate len z).flatten).toArray := by
    apply Array.ext'; rw [zeroRow_eq hzc hz]
  refine ⟨_, _, [(w.heap.size, .cells l.toArray e)] :: S, ?_, Ext.push w _, Sat.new _ hs, h w.heap.size⟩
  have h1 : ¬ (len * size > 2 ^ 24) := by omega
  have h2 : ¬ (len * size = 0) := by
    intro h0; rcases Nat.mul_eq_zero.1 h0 with h0 | h0 <;> contradiction
  simp only [execOp, Instr.buildSlice, Sem.run_bind, run_underlying ht, Result.andThen_ok, run_sizeOf hsz]
  rw [if_neg h1]
  simp only [Sem.run_bind, if_neg h2, hzr, Result.andThen_ok, pure, Sem.run, hrow, List.toList_toArray, List.map_toArray]
  rw [hfill]
  simp only [Sem.run_bind, newRow_run, Result.andThen_ok, Sem.run]

/-- []T{}: no element -/
theorem ybsl0 {e size : Nat} {z : List Value} (h : ∀ b, K (putE d (.slice (some ⟨b, 0, none⟩) 0 0) E) ([(b, .cells #[] e)] :: S)) : YO P r n d (.bsl e 0 size z []) K E S := by
  intro op ty pos af g hc hd
  obtain ⟨t, rfl, ht, hsz, hzz⟩ := cop_inv hc
  refine xsem (by simp) hd fun F w hs => ?_
  refine ⟨_, _, [(w.heap.size, .cells #[] e)] :: S, ?_, Ext.push w _, Sat.new _ hs, h w.heap.size⟩
  simp [execOp, Instr.buildSlice, Sem.run_bind, run_underlying ht, run_sizeOf hsz, Result.andThen, Instr.fill, newRow_run, pure, Sem.run, map_range0]

/-- make([]T, l, c) -/
theorem ymksl {e size bytes : Nat} {z : List Value} {l c : Operand} {m cap : Nat} {q q' : IntKind} (h1 : ev E l = .int q (m : Int)) (h2 : ev E c = .int q' (cap : Int)) (hm : m ≤ cap) (hz : z.length = size) (hb : bytes * cap ≤ 281474976710656) (hcap : cap ≤ 9223372036854775807)
    (h : ∀ b, K (putE d (.slice (some ⟨b, 0, none⟩) m cap) E) ([(b, .cells ((List.replicate cap z).flatten).toArray e)] :: S)) : YO P r n d (.mksl e size bytes z l c) K E S := by
  intro op ty pos af g hc hd
  obtain ⟨t, rfl, ht, hsz, hzz, hbb⟩ := cop_inv hc
  refine xsem (by simp) hd fun F w hs => ?_
  obtain ⟨ti, hti, htb⟩ := bytes_run hbb w
  obtain ⟨zv, hzr, hzc⟩ := zero_run hzz w
  have hrow : ((Array.range (cap * size)).map (fun i => zv.cells[i % zv.cells.size]!)) = ((List.replicate cap z).flatten).toArray := by
    apply Array.ext'; rw [zeroRow_eq hzc hz]
  have w1 : IntKind.i64.wrap (cap : Int) = cap := wrap_i64 (by omega)
  have w2 : IntKind.i64.wrap (m : Int) = m := wrap_i64 (by omega)
  refine ⟨_, _, [(w.heap.size, .cells ((List.replicate cap z).flatten).toArray e)] :: S, ?_, Ext.push w _, Sat.new _ hs, h w.heap.size⟩
  have hcnd : ((decide ((cap : Int) < 0) || decide ((bytes : Int) * (cap : Int) > 2 ^ 48)) || decide ((m : Int) < 0) || decide ((m : Int) > (cap : Int))) = false := by
    have hb' : (bytes : Int) * (cap : Int) ≤ 281474976710656 := by rw [← Int.natCast_mul]; omega
    have e48 : (2 : Int) ^ 48 = 281474976710656 := by decide
    have a1 : ¬ ((cap : Int) < 0) := by omega
    have a2 : ¬ ((bytes : Int) * (cap : Int) > 2 ^ 48) := by rw [e48]; omega
    have a3 : ¬ ((m : Int) < 0) := by omega
    have a4 : ¬ ((m : Int) > (cap : Int)) := by omega
    rw [decide_eq_false a1, decide_eq_false a2, decide_eq_false a3, decide_eq_false a4]; rfl
  have hroom : (askRoom (cap * bytes)).run P w = .ok () w := by
    unfold askRoom
    split <;> rfl
  simp only [execOp, Instr.makeSlice, Sem.run_bind, run_underlying ht, Result.andThen_ok, h1, h2, asInt, asIntOf, pure, Sem.run, hti, htb, w1, w2, hcnd, Bool.false_eq_true, if_false, Int.toNat_natCast, hroom, run_sizeOf hsz]
  by_cases h0 : cap * size = 0
  · rw [if_pos h0]
    simp only [h0]
    have : (List.replicate cap z).flatten = [] := by
      rcases Nat.mul_eq_zero.1 h0 with h | h
      · simp [h]
      · rw [h] at hz; simp [List.length_eq_zero_iff.1 hz]
    simp [this, newRow_run, Result.andThen, Sem.run_bind, Sem.run, map_range0]
  · rw [if_neg h0]
    simp only [Sem.run_bind, hzr, Result.andThen_ok, Sem.run, hrow, newRow_run]

theorem replicate_cells (m : Nat) (a : α) {z : List Value} (hz : enc a = z) : (List.replicate m z).flatten = cells (List.replicate m a) := by rw [cells_replicate, hz]

/-- the array of a make or a literal, as a slice of one's own -/
theorem Slc.of {ty b : Nat} {L sp : List α} : Slc ty (.slice (some ⟨b, 0, none⟩) L.length (L.length + sp.length)) L [(b, .cells (cells (L ++ sp)).toArray ty)] := .row (.inl rfl)
theorem Slc.full {ty b m : Nat} {L : List α} (hm : m = L.length) : Slc ty (.slice (some ⟨b, 0, none⟩) m m) L [(b, .cells (cells L).toArray ty)] := by
  subst hm
  have := Slc.of (ty := ty) (b := b) (L := L) (sp := [])
  simpa using this

/-- copy -/
theorem ycopy {kk : Nat} {x s : Operand} {sv : Value} {Y : List α} {b o m cap ty' : Nat} {c : Array Value} {fz : Nat × Nat} {f : Obj → Segs} [hA : At S b (.cells c ty' fz) f] (hx : ev E x = .slice (some ⟨b, o, none⟩) m cap) (hs : ev E s = sv) (hY : Src S sv Y) (hk : Enc.k α = kk)
    (hroom : o + m * kk ≤ c.size) (hz : FzOk fz c.size)
    (h : K (putE d (.int .i64 ((min Y.length m : Nat) : Int)) E) (f (.cells (setAll c.toList o (cells (Y.take m))).toArray ty' fz))) : YO P r n d (.copy kk x s) K E S := by
  intro op ty pos af g hc hd
  obtain ⟨t, rr, e, rfl, ht, hsz⟩ := cop_inv hc
  subst hk
  refine xsem (by simp) hd fun F w hsat => ?_
  obtain ⟨hlen, hcells⟩ := src_run (P := P) hY hsat
  have hb := hA.heap hsat
  have hfc : (Builtin.firstCells (Enc.k α) (Nat.min Y.length m) sv).run P w = .ok (cells (Y.take m)).toArray w := by
    have : Src S sv Y := hY
    cases this with
    | @nil a c => cases a <;> simp [Builtin.firstCells, cells, loadCells, loadCellsFrom, pure]
    | @part b' o' cap' c' ty2 fz2 Y hm hc' =>
      have hb' : w.heap[b']? = some (.cells c' ty2 fz2) := hsat.at_ (List.mem_append.2 (.inl hm)) (x := (b', _)) (by simp)
      have hlen' : Y.length * Enc.k α ≤ (c'.toList.drop o').length := by
        have := congrArg List.length hc'
        rw [cells_length, List.length_take] at this
        omega
      have hle : Nat.min Y.length m * Enc.k α ≤ Y.length * Enc.k α := Nat.mul_le_mul_right _ (Nat.min_le_left _ _)
      have hr := loadCells_run (P := P) (b := b') (off := o') (w := w) (l := c'.toList.drop o') (Nat.min Y.length m * Enc.k α) (fun j hj => by rw [cellOf hb']; simp) (by omega)
      have e1 : (c'.toList.drop o').take (Nat.min Y.length m * Enc.k α) = cells (Y.take m) := by
        have : (c'.toList.drop o').take (Nat.min Y.length m * Enc.k α) = ((c'.toList.drop o').take (Y.length * Enc.k α)).take (Nat.min Y.length m * Enc.k α) := by
          rw [List.take_take, Nat.min_eq_left hle]
        rw [this, hc', cells_take]
        congr 1
        by_cases hym : Y.length ≤ m
        · rw [show Nat.min Y.length m = Y.length from Nat.min_eq_left hym, List.take_length, List.take_of_length_le hym]
        · rw [show Nat.min Y.length m = m from Nat.min_eq_right (by omega)]
      rw [e1] at hr
      simp [Builtin.firstCells, hr]
  have hfit : o + 0 + (cells (Y.take m)).length ≤ c.size := by
    rw [cells_length]
    have : (Y.take m).length * Enc.k α ≤ m * Enc.k α := Nat.mul_le_mul_right _ (by simp; omega)
    omega
  obtain ⟨w', h1, h2, h3, h4⟩ := storeCells_run (P := P) (b := b) (off := o) (cells (Y.take m)) 0 c w hb (cells_plain _) hfit (hz.imp (fun h => by omega) (fun h => by omega))
  simp only [Nat.add_zero] at h2
  refine ⟨_, w', _, ?_, h4, hA.upd hsat h2 h3, h⟩
  refine exec_builtin rfl ?_
  have hargs : (#[x, s] : Array Operand).map (ev E) = #[.slice (some ⟨b, o, none⟩) m cap, sv] := by simp [hx, hs]
  simp only [hargs, builtin]
  simp [Builtin.copy_, Sem.run_bind, run_underlying ht, hlen, run_sizeOf hsz, hfc, h1, Result.andThen, pure, Sem.run, goInt]

/-- clear of (a part of) a slice -/
theorem yclr {z : List Value} {x : Operand} {b o m cap ty' : Nat} {c : Array Value} {fz : Nat × Nat} {f : Obj → Segs} [hA : At S b (.cells c ty' fz) f] (hx : ev E x = .slice (some ⟨b, o, none⟩) m cap) (z0 : α) (hz0 : enc z0 = z)
    (hroom : o + m * Enc.k α ≤ c.size) (hz : FzOk fz c.size)
    (h : K (putE d (.tuple #[]) E) (f (.cells (setAll c.toList o (cells (List.replicate m z0))).toArray ty' fz))) : YO P r n d (.clr z x) K E S := by
  intro op ty pos af g hc hd
  obtain ⟨t, e, rfl, ht, hzz⟩ := cop_inv hc
  refine xsem (by simp) hd fun F w hsat => ?_
  obtain ⟨zv, hzr, hzc⟩ := zero_run hzz w
  have hb := hA.heap hsat
  have hfit : o + 0 + (cells (List.replicate m z0)).length ≤ c.size := by rw [cells_length, List.length_replicate]; omega
  obtain ⟨w', h1, h2, h3, h4⟩ := storeCells_run (P := P) (b := b) (off := o) (cells (List.replicate m z0)) 0 c w hb (cells_plain _) hfit (hz.imp (fun h => by omega) (fun h => by omega))
  simp only [Nat.add_zero] at h2
  have hzs : (Builtin.zeroCells zv.cells m).toList = cells (List.replicate m z0) := by rw [zeroCells_eq hzc, cells_replicate, hz0]
  refine ⟨_, w', _, ?_, h4, hA.upd hsat h2 h3, h⟩
  refine exec_builtin rfl ?_
  have hargs : (#[x] : Array Operand).map (ev E) = #[.slice (some ⟨b, o, none⟩) m cap] := by simp [hx]
  simp only [hargs, builtin]
  cases m with
  | zero =>
    have : w' = w := by
      have := h1
      simp [cells, storeCells, pure] at this
      exact this.symm
    subst this
    simp [Builtin.clear_, Sem.run_bind, run_underlying ht, Result.andThen, pure, Sem.run]
  | succ m =>
    simp [Builtin.clear_, Sem.run_bind, run_underlying ht, hzr, hzs, h1, Result.andThen, pure, Sem.run]
/-- clear of nothing -/
theorem yclr0 {z : List Value} {x : Operand} {a : Option Addr} {cap : Nat} (hx : ev E x = .slice a 0 cap) (h : K (putE d (.tuple #[]) E) S) : YO P r n d (.clr z x) K E S := by
  intro op ty pos af g hc hd
  obtain ⟨t, e, rfl, ht, hzz⟩ := cop_inv hc
  refine xsem (by simp) hd fun F w hsat => ⟨_, w, S, ?_, Ext.refl w, hsat, h⟩
  refine exec_builtin rfl ?_
  have hargs : (#[x] : Array Operand).map (ev E) = #[.slice a 0 cap] := by simp [hx]
  simp only [hargs, builtin]
  cases a <;> simp [Builtin.clear_, Sem.run_bind, run_underlying ht, Result.andThen, pure, Sem.run]
/-- append that stays in its array -/
theorem yappfit {e kk bytes : Nat} {z : List Value} {x s : Operand} {xv : Value} {Y : List α} {b m cap ty' : Nat} {c : Array Value} {fz : Nat × Nat} {f : Obj → Segs} [hA : At S b (.cells c ty' fz) f] (hs : ev E s = .slice (some ⟨b, 0, none⟩) m cap) (hx : ev E x = xv) (hY : Src S xv Y) (hk : Enc.k α = kk)
    (hle : m + Y.length ≤ cap) (hroom : (m + Y.length) * Enc.k α ≤ c.size) (hz : FzOk fz c.size)
    (h : K (putE d (.slice (some ⟨b, 0, none⟩) (m + Y.length) cap) E) (f (.cells (setAll c.toList (m * Enc.k α) (cells Y)).toArray ty' fz))) : YO P r n d (.app e kk bytes z s x) K E S := by
  intro op ty pos af g hc hd
  obtain ⟨t, u, xu, rfl, ht, hu, hni, hsz, hzz, hbb⟩ := cop_inv hc
  subst hk
  refine xsem (by simp) hd fun F w hsat => ?_
  obtain ⟨hlen, hcells⟩ := src_run (P := P) hY hsat
  have hb := hA.heap hsat
  have hfit := append_fit (ty := ty) (base := some ⟨b, 0, none⟩) (sLen := m) (sCap := cap) ht hu hni hsz hlen hcells hle
  have hfit2 : m * Enc.k α + 0 + (cells Y).length ≤ c.size := by rw [cells_length]; rw [Nat.add_mul] at hroom; omega
  obtain ⟨w', h1, h2, h3, h4⟩ := storeCells_run (P := P) (b := b) (off := m * Enc.k α) (cells Y) 0 c w hb (cells_plain _) hfit2 (hz.imp (fun h => by omega) (fun h => by omega))
  simp only [Nat.add_zero] at h2
  refine ⟨_, w', _, ?_, h4, hA.upd hsat h2 h3, h⟩
  refine exec_builtin rfl ?_
  have hargs : (#[s, x] : Array Operand).map (ev E) = #[.slice (some ⟨b, 0, none⟩) m cap, xv] := by simp [hs, hx]
  rw [hargs]
  simp [builtin, Sem.run_bind, hfit, add_plain, Nat.zero_add, h1, Result.andThen, pure, Sem.run]
/-- the end of a row -/
theorem Src.tail {α : Type} [Enc α] {S : Segs} {b ty kk c : Nat} {fz : Nat × Nat} {L sp : List α} {j : Nat} (hm : [(b, Obj.cells (cells (L ++ sp)).toArray ty fz)] ∈ S) (hk : Enc.k α = kk) (hj : j ≤ L.length) :
    Src S (.slice (some ⟨b, if L.length + sp.length = j then 0 else 0 + j * kk, none⟩) (L.length - j) c) (L.drop j) := by
  subst hk
  rw [← List.length_drop]
  refine .part hm ?_
  split
  · next h =>
    have : j = L.length := by omega
    subst this
    simp [cells]
  · rw [Nat.zero_add]
    show ((cells (L ++ sp)).drop _).take _ = _
    rw [cells_drop, cells_take, List.drop_append_of_le_length hj, List.take_left']
    rfl

/-- one element is taken out, the others move up, the last place is cleared -/
theorem del_cells {α : Type} [Enc α] {L sp : List α} {i : Nat} (z0 : α) (hi : i < L.length) :
    setAll (setAll (cells (L ++ sp)) (i * Enc.k α) (cells (L.drop (i + 1)))) ((L.length - 1) * Enc.k α) (cells [z0]) = cells (L.eraseIdx i ++ z0 :: sp) := by
  rw [setAll_cells _ _ _ (by simp; omega), setAll_cells _ _ _ (by simp; omega), List.eraseIdx_eq_take_drop_succ]
  congr 1
  have h1 : (L ++ sp).take i = L.take i := List.take_append_of_le_length (by omega)
  have h2 : (L ++ sp).drop (i + (L.drop (i + 1)).length) = L.drop (L.length - 1) ++ sp := by
    rw [List.drop_append_of_le_length (by simp; omega)]
    congr 2
    simp; omega
  have h3 : (L.take i ++ L.drop (i + 1)).length = L.length - 1 := by simp; omega
  have h4 : (L.drop (L.length - 1)).length = 1 := by simp; omega
  rw [h1, h2]
  obtain ⟨y, hy⟩ := List.length_eq_one_iff.1 h4
  rw [hy]
  generalize L.take i ++ L.drop (i + 1) = A at h3
  subst_vars
  rw [← h3]
  simp [List.drop_append]


theorem Slc.inv {α : Type} [Enc α] {ty : TypeId} {v : Value} {L : List α} {H : List Chunk} (h : Slc ty v L H) :
    (v = .slice none 0 0 ∧ L = [] ∧ H = []) ∨ ∃ (b : Nat) (sp : List α) (fz : Nat × Nat), FzOk fz (cells (L ++ sp)).length ∧ v = .slice (some ⟨b, 0, none⟩) L.length (L.length + sp.length) ∧ H = [(b, .cells (cells (L ++ sp)).toArray ty fz)] := by
  cases h with
  | nil => exact .inl ⟨rfl, rfl, rfl⟩
  | row hz => exact .inr ⟨_, _, _, hz, rfl, rfl⟩

/-- a literal of one element -/
theorem ybsl1 {e size : Nat} {z : List Value} {x : Operand} (y : α) (hk : Enc.k α = size) (hz : z.length = size) (h0 : size ≠ 0) (hs : size ≤ 16777216) (hx : (ev E x).cells.toList = enc y)
    (h : ∀ b, K (putE d (.slice (some ⟨b, 0, none⟩) 1 1) E) ([(b, .cells (cells [y]).toArray e)] :: S)) : YO P r n d (.bsl e 1 size z [(0, x)]) K E S := by
  have hc : cells [y] = enc y := by simp [cells]
  rw [hc] at h
  have hlen : (ev E x).cells.size = size := by rw [← Array.length_toList, hx, Enc.len, hk]
  refine ybsl (l := enc y) hz h0 (by decide) (by omega) ?_ h
  have h1 : (List.replicate 1 z).flatten = z := by simp
  rw [h1]
  simp only [xfill, hlen, hx]
  simp [hz, setAll_append, Enc.len, hk]
/-- what a literal holds may be read -/
theorem Src.lit {e b m : Nat} {Y : List α} (hm : [(b, Obj.cells (cells Y).toArray e)] ∈ S) (hl : m = Y.length) : Src S (.slice (some ⟨b, 0, none⟩) m m) Y := by
  subst hl
  exact .part hm (by rw [List.drop_zero, ← cells_length, List.take_length])
theorem Slc.empty {ty b : Nat} : Slc ty (.slice (some ⟨b, 0, none⟩) 0 0) ([] : List α) [(b, .cells #[] ty)] := Slc.of (L := []) (sp := [])
end Go.Xs
