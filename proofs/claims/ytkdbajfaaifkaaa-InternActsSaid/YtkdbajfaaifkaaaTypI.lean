/- The types of chapter 7's laws' arguments: strings, slices of strings. -/
import Derived.Test.YtkdbajfaaifkaaaT1
import Derived.Test.YtkdbajfaaifkaaaN1
namespace Go.Proofs.Ytkdbajfaaifkaaa
open Go.Xs Go.ChangeShapes Go.WideShapes
variable {H : Type} {en : TypeId × Value → H} {W : World} {sp : Nat → Bool}
theorem tyString : Try.prog.underlying 9 = some .string := by kernel_rfl
theorem ceString : Try.prog.cellsOf 9 = 1 := by kernel_rfl
theorem tyStrings : Try.prog.underlying 82 = some (.slice 9) := by kernel_rfl
def InS (_ : ByteArray) : Prop := True
theorem elString : ∀ (n : Nat) (cs : List Value) (x : DataW H × List MemPlace), DataW.trod en Try.prog W 0 sp true n 9 cs = some x → ∃ a : ByteArray, cs = Enc.enc a ∧ InS a := by
  intro n cs x h
  obtain ⟨s, rfl, _, _⟩ := DataW.trod_string tyString h
  exact ⟨s, rfl, trivial⟩
set_option maxRecDepth 100000 in
theorem open_strings {v : Value} {d : DataW H} {ps : List MemPlace} {base : Nat} (hv : Value.okWide Try.prog W .any base 82 v) (h : DataW.Trod en Try.prog W 0 sp true 82 v d ps) : ∃ L : List ByteArray, Src (heapS W) v L ∧ L.length ≤ maxLen ∧ ∀ a ∈ L, InS a :=
  open_src (α := ByteArray) tyStrings ceString (show 0 < 1 by decide) elString (okWide_slice tyStrings hv) h
end Go.Proofs.Ytkdbajfaaifkaaa
