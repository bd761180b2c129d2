/- The types of the laws' arguments: ints, bools, and slices of them. -/
import Derived.Test.YtejmbmenbailmaaWide
import Derived.Test.YtejmbmenbailmaaB3
namespace Go.Proofs.Ytejmbmenbailmaa
open Go.Xs Go.ChangeShapes Go.WideShapes

theorem tyInt : Try.prog.underlying 3 = some (.int .i64) := by kernel_rfl
theorem tyBool : Try.prog.underlying 4 = some .bool := by kernel_rfl
theorem ceInt : Try.prog.cellsOf 3 = 1 := by kernel_rfl
theorem slicesSized : ((List.range Try.prog.types.size).all fun t => match Try.prog.underlying t with | some (.slice e) => Nat.blt 0 (Try.prog.cellsOf e) | _ => true) = true := by kernel_rfl
theorem kids : Kids Try.prog (· < Try.prog.types.size) := kids_rows wideLaid wideMaps
theorem sized {t e : TypeId} (ht : t < Try.prog.types.size) (h : Try.prog.underlying t = some (.slice e)) : 0 < Try.prog.cellsOf e := by
  have := List.all_eq_true.1 slicesSized t (List.mem_range.2 ht)
  rw [h] at this
  simpa [Nat.blt_eq] using this
theorem below {ts : List TypeId} (h : (ts.all fun t => Nat.blt t Try.prog.types.size) = true) : ∀ t ∈ ts, t < Try.prog.types.size := by
  intro t ht
  have h1 := List.all_eq_true.1 h t ht
  simpa [Nat.blt_eq] using h1

def InI (a : Int) : Prop := -9223372036854775808 ≤ a ∧ a ≤ 9223372036854775807
theorem inI_wf {a : Int} (h : (Lit.int .i64 a).wf = true) : InI a := by
  simp only [Lit.wf, Bool.and_eq_true, decide_eq_true_eq] at h
  have h1 : IntKind.i64.min = -9223372036854775808 := by decide
  have h2 : IntKind.i64.max = 9223372036854775807 := by decide
  rw [h1, h2] at h
  exact h

variable {H : Type} {en : TypeId × Value → H} {W : World} {sp : Nat → Bool}
theorem elInt : ∀ (n : Nat) (cs : List Value) (x : DataW H × List MemPlace), DataW.trod en Try.prog W 0 sp true n 3 cs = some x → ∃ a : Int, cs = Enc.enc a ∧ InI a := by
  intro n cs x h
  obtain ⟨z, rfl, _, hw⟩ := DataW.trod_int tyInt h
  exact ⟨z, rfl, inI_wf hw⟩
end Go.Proofs.Ytejmbmenbailmaa
