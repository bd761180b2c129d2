/- The types of the laws' arguments: ints, bools, and slices of them. Arguments that hold others: the fields of a struct, a slice within it; bytes, strings. -/
import Derived.Test.YtejmbmenbailmaaWide
import Derived.Test.YtejmbmenbailmaaB3
namespace Go.Proofs.Ytejmbmenbailmaa
open Go.Xs Go.ChangeShapes Go.WideShapes

theorem tyInt : Try.prog.underlying 3 = some (.int .i64) := by kernel_rfl
theorem tyBool : Try.prog.underlying 4 = some .bool := by kernel_rfl
theorem slicesSized : ((List.range Try.prog.types.size).all fun t => match Try.prog.underlying t with | some (.slice e) => Nat.blt 0 (Try.prog.cellsOf e) | _ => true) = true := by kernel_rfl
theorem kids : Kids Try.prog (· < Try.prog.types.size) := kids_rows wideLaid wideMaps
theorem sized {t e : TypeId} (ht : t < Try.prog.types.size) (h : Try.prog.underlying t = some (.slice e)) : 0 < Try.prog.cellsOf e := by
  have := List.all_eq_true.1 slicesSized t (List.mem_range.2 ht)
  rw [h] at this
  simpa [Nat.blt_eq] using this
theorem below {ts : List TypeId} (h : (ts.all fun t => Nat.blt t Try.prog.types.size) = true) : ∀ t ∈ ts, t < Try.prog.types.size := by
  intro t ht
  have h1 := List.all_eq_true.1 h t ht
  simpa [Nat.blt_eq] using h1

variable {H : Type} {en : TypeId × Value → H} {W : World} {sp : Nat → Bool}
end Go.Proofs.Ytejmbmenbailmaa
namespace Go.Proofs.Ytejmbmenbailmaa
open Go.Xs Go.ChangeShapes Go.WideShapes
variable {H : Type} {en : TypeId × Value → H} {W : World} {sp : Nat → Bool}
noncomputable def fieldsOf (t : TypeId) : Array Field := match Try.prog.underlying t with | some (.struct fs) => fs | _ => #[]
/-- each field of a struct -/
theorem field {t : TypeId} {fs : Array Field} {l : List (TypeId × Nat)} (ht : Try.prog.underlying t = some (.struct fs)) (hf : (fs.toList.map fun f => (f.type, f.offset)) = l)
    {n : Nat} {cs : List Value} {x : DataW H × List MemPlace} (h : DataW.trod en Try.prog W 0 sp true n t cs = some x) :
    cs.length = Try.prog.cellsOf t ∧ ∀ (i u o : Nat), l[i]? = some (u, o) → ∃ m y, DataW.trod en Try.prog W 0 sp true m u ((cs.drop o).take (Try.prog.cellsOf u)) = some y := by
  obtain ⟨xs, m, _, _, hl, hxl, hg⟩ := DataW.trod_struct ht h
  refine ⟨hl, fun i u o hi => ?_⟩
  have hsz : i < fs.size := by
    have := (List.getElem?_eq_some_iff.1 hi).1
    rw [← hf] at this
    simpa using this
  have hfi : fs[i]? = some fs[i] := Array.getElem?_eq_getElem _
  have hgi := hg i _ hfi
  have hto := congrArg (fun (l : List (TypeId × Nat)) => l[i]?) hf
  simp only [List.getElem?_map, Array.getElem?_toList, hfi, Option.map_some, hi] at hto
  have h1 := congrArg Prod.fst (Option.some.inj hto)
  have h2 := congrArg Prod.snd (Option.some.inj hto)
  simp only at h1 h2
  rw [h1, h2, List.getElem?_eq_getElem (by omega)] at hgi
  exact ⟨m, _, hgi⟩
end Go.Proofs.Ytejmbmenbailmaa
