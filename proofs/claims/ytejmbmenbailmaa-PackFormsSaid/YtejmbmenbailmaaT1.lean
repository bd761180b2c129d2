/- The types of the laws' arguments: ints, bools, and slices of them. -/
import Derived.Test.YtejmbmenbailmaaWide
import Derived.Test.YtejmbmenbailmaaB3
namespace Go.Proofs.Ytejmbmenbailmaa
open Go.Xs Go.ChangeShapes Go.WideShapes

theorem tyInt : Try.prog.underlying 3 = some (.int .i64) := by kernel_rfl
theorem tyBool : Try.prog.underlying 4 = some .bool := by kernel_rfl
theorem slicesSized : ((List.range Try.prog.types.size).all fun t => match Try.prog.underlying t with | some (.slice e) => Nat.blt 0 (Try.prog.cellsOf e) | _ => true) = true := by kernel_rfl
theorem kids : Kids Try.prog (· < Try.prog.types.size) := kids_rows wideLaid wideMaps
theorem sized {t e : TypeId} (ht : t < Try.prog.types.size) (h : Try.prog.underlying t = some (.slice e)) : 0 < Try.prog.cellsOf e := by
  have := List.all_eq_true.1 slicesSized t (List.mem_range.2 ht)
  rw [h] at this
  simpa [Nat.blt_eq] using this
theorem below {ts : List TypeId} (h : (ts.all fun t => Nat.blt t Try.prog.types.size) = true) : ∀ t ∈ ts, t < Try.prog.types.size := by
  intro t ht
  have h1 := List.all_eq_true.1 h t ht
  simpa [Nat.blt_eq] using h1

variable {H : Type} {en : TypeId × Value → H} {W : World} {sp : Nat → Bool}
end Go.Proofs.Ytejmbmenbailmaa
