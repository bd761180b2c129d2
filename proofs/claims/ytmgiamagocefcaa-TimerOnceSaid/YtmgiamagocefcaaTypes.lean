/- The types of the laws' arguments. -/
import Derived.Test.YtmgiamagocefcaaWide
import Derived.Test.YtmgiamagocefcaaOpen
import Derived.Test.YtmgiamagocefcaaLists
namespace Go.Proofs.Ytmgiamagocefcaa
open Go.Xs Go.ChangeShapes Go.WideShapes
instance : Enc (Int × Int × Int) := ⟨fun a => [.int .i64 a.1, .int .i64 a.2.1, .int .i64 a.2.2], 3, fun _ => rfl, fun _ => rfl⟩

theorem tyInt : Try.prog.underlying 3 = some (.int .i64) := by kernel_rfl
theorem tyBool : Try.prog.underlying 4 = some .bool := by kernel_rfl
theorem tyInts : Try.prog.underlying 40 = some (.slice 3) := by kernel_rfl
theorem ceInt : Try.prog.cellsOf 3 = 1 := by kernel_rfl
theorem slicesSized : ((List.range Try.prog.types.size).all fun t => match Try.prog.underlying t with | some (.slice e) => Nat.blt 0 (Try.prog.cellsOf e) | _ => true) = true := by kernel_rfl
theorem kids : Kids Try.prog (· < Try.prog.types.size) := kids_rows wideLaid wideMaps
theorem sized {t e : TypeId} (ht : t < Try.prog.types.size) (h : Try.prog.underlying t = some (.slice e)) : 0 < Try.prog.cellsOf e := by
  have := List.all_eq_true.1 slicesSized t (List.mem_range.2 ht)
  rw [h] at this
  simpa [Nat.blt_eq] using this
theorem typeCount : Nat.blt 80 Try.prog.types.size = true := by kernel_rfl
theorem below {ts : List TypeId} (h : ts.all (fun t => Nat.ble t 80) = true) : ∀ t ∈ ts, t < Try.prog.types.size := by
  intro t ht
  have h1 := List.all_eq_true.1 h t ht
  have h2 := typeCount
  simp only [Nat.ble_eq, Nat.blt_eq] at h1 h2
  exact Nat.lt_of_le_of_lt h1 h2

def InI (a : Int) : Prop := -9223372036854775808 ≤ a ∧ a ≤ 9223372036854775807
theorem inI_wf {a : Int} (h : (Lit.int .i64 a).wf = true) : InI a := by
  simp only [Lit.wf, Bool.and_eq_true, decide_eq_true_eq] at h
  have h1 : IntKind.i64.min = -9223372036854775808 := by decide
  have h2 : IntKind.i64.max = 9223372036854775807 := by decide
  rw [h1, h2] at h
  exact h

variable {H : Type} {en : TypeId × Value → H} {W : World} {sp : Nat → Bool}
theorem elInt : ∀ (n : Nat) (cs : List Value) (x : DataW H × List MemPlace), DataW.trod en Try.prog W 0 sp true n 3 cs = some x → ∃ a : Int, cs = Enc.enc a ∧ InI a := by
  intro n cs x h
  obtain ⟨z, rfl, _, hw⟩ := DataW.trod_int tyInt h
  exact ⟨z, rfl, inI_wf hw⟩

set_option maxRecDepth 100000 in
theorem open_ints' {v : Value} {d : DataW H} {ps : List MemPlace} {base : Nat} (hv : Value.okWide Try.prog W .any base 40 v) (h : DataW.Trod en Try.prog W 0 sp true 40 v d ps) : ∃ L : List Int, Src (heapS W) v L ∧ L.length ≤ maxLen ∧ ∀ a ∈ L, InI a :=
  open_src (α := Int) tyInts ceInt (show 0 < 1 by decide) elInt (okWide_slice tyInts hv) h

set_option maxRecDepth 100000 in
theorem struct3 {t : TypeId} {fs : Array Field} (ht : Try.prog.underlying t = some (.struct fs)) (hc : Try.prog.cellsOf t = 3) (hf : (fs.toList.map fun f => (f.type, f.offset)) = [(3, 0), (3, 1), (3, 2)])
    (n : Nat) (cs : List Value) (x : DataW H × List MemPlace) (h : DataW.trod en Try.prog W 0 sp true n t cs = some x) : ∃ a : Int × Int × Int, cs = Enc.enc a ∧ InI a.1 ∧ InI a.2.1 ∧ InI a.2.2 := by
  obtain ⟨xs, m, _, _, hl, hx, hg⟩ := DataW.trod_struct ht h
  rw [hc] at hl
  have hsz : fs.size = 3 := by
    have := congrArg List.length hf
    simpa using this
  have one : ∀ i, i < 3 → ∃ z, (cs.drop i).take 1 = [.int .i64 z] ∧ InI z := by
    intro i hi
    have hfi : fs[i]? = some (fs[i]'(by omega)) := Array.getElem?_eq_getElem _
    have hgi := hg i _ hfi
    have hto := congrArg (fun (l : List (TypeId × Nat)) => l[i]?) hf
    simp only [List.getElem?_map, Array.getElem?_toList, hfi, Option.map_some] at hto
    have h3 : (fs[i]'(by omega)).type = 3 ∧ (fs[i]'(by omega)).offset = i := by
      rcases (by omega : i = 0 ∨ i = 1 ∨ i = 2) with rfl | rfl | rfl <;> simpa using hto
    rw [h3.1, h3.2, ceInt, List.getElem?_eq_getElem (by omega)] at hgi
    obtain ⟨z, hz, _, hw⟩ := DataW.trod_int tyInt hgi
    exact ⟨z, hz, inI_wf hw⟩
  obtain ⟨a, ha, qa⟩ := one 0 (by omega)
  obtain ⟨b, hb, qb⟩ := one 1 (by omega)
  obtain ⟨c, hc', qc⟩ := one 2 (by omega)
  match cs, hl with
  | [u, v, w], _ =>
    simp at ha hb hc'
    subst ha; subst hb; subst hc'
    exact ⟨(a, b, c), rfl, qa, qb, qc⟩

noncomputable def fieldsOf (t : TypeId) : Array Field := match Try.prog.underlying t with | some (.struct fs) => fs | _ => #[]
theorem tyAct : Try.prog.underlying 31 = some (.struct (fieldsOf 31)) := by kernel_rfl
theorem tyActs : Try.prog.underlying 22 = some (.slice 31) := by kernel_rfl
theorem ceAct : Try.prog.cellsOf 31 = 3 := by kernel_rfl
theorem fiAct : ((fieldsOf 31).toList.map fun f => (f.type, f.offset)) = [(3, 0), (3, 1), (3, 2)] := by kernel_rfl
theorem tyAct9 : Try.prog.underlying 58 = some (.struct (fieldsOf 58)) := by kernel_rfl
theorem tyActs9 : Try.prog.underlying 52 = some (.slice 58) := by kernel_rfl
theorem ceAct9 : Try.prog.cellsOf 58 = 3 := by kernel_rfl
theorem fiAct9 : ((fieldsOf 58).toList.map fun f => (f.type, f.offset)) = [(3, 0), (3, 1), (3, 2)] := by kernel_rfl
def InA (a : Int × Int × Int) : Prop := InI a.1 ∧ InI a.2.1 ∧ InI a.2.2
set_option maxRecDepth 100000 in
theorem open_acts {v : Value} {d : DataW H} {ps : List MemPlace} {base : Nat} (hv : Value.okWide Try.prog W .any base 22 v) (h : DataW.Trod en Try.prog W 0 sp true 22 v d ps) : ∃ L : List (Int × Int × Int), Src (heapS W) v L ∧ L.length ≤ maxLen ∧ ∀ a ∈ L, InA a :=
  open_src (α := Int × Int × Int) tyActs ceAct (show 0 < 3 by decide) (struct3 tyAct ceAct fiAct) (okWide_slice tyActs hv) h
set_option maxRecDepth 100000 in
theorem open_acts9 {v : Value} {d : DataW H} {ps : List MemPlace} {base : Nat} (hv : Value.okWide Try.prog W .any base 52 v) (h : DataW.Trod en Try.prog W 0 sp true 52 v d ps) : ∃ L : List (Int × Int × Int), Src (heapS W) v L ∧ L.length ≤ maxLen ∧ ∀ a ∈ L, InA a :=
  open_src (α := Int × Int × Int) tyActs9 ceAct9 (show 0 < 3 by decide) (struct3 tyAct9 ceAct9 fiAct9) (okWide_slice tyActs9 hv) h
theorem maxLen_eq : maxLen = 9223372036854775807 := by decide
end Go.Proofs.Ytmgiamagocefcaa
