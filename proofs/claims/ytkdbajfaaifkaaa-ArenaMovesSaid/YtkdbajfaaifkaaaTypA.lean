/- The types of chapter 6's laws' arguments: slices of ints, of bools. -/
import Derived.Test.YtkdbajfaaifkaaaTyp
import Derived.Test.YtkdbajfaaifkaaaAlk
namespace Go.Proofs.Ytkdbajfaaifkaaa
open Go.Xs Go.ChangeShapes Go.WideShapes
theorem tyInts : Try.prog.underlying 55 = some (.slice 3) := by kernel_rfl
theorem tyBools : Try.prog.underlying 56 = some (.slice 4) := by kernel_rfl
theorem ceBool : Try.prog.cellsOf 4 = 1 := by kernel_rfl
variable {H : Type} {en : TypeId × Value → H} {W : World} {sp : Nat → Bool}
set_option maxRecDepth 100000 in
theorem open_ints' {v : Value} {d : DataW H} {ps : List MemPlace} {base : Nat} (hv : Value.okWide Try.prog W .any base 55 v) (h : DataW.Trod en Try.prog W 0 sp true 55 v d ps) : ∃ L : List Int, Src (heapS W) v L ∧ L.length ≤ maxLen ∧ ∀ a ∈ L, InI a :=
  open_src (α := Int) tyInts ceInt (show 0 < 1 by decide) elInt (okWide_slice tyInts hv) h
theorem elBool : ∀ (n : Nat) (cs : List Value) (x : DataW H × List MemPlace), DataW.trod en Try.prog W 0 sp true n 4 cs = some x → ∃ a : Bool, cs = Enc.enc a ∧ True := by
  intro n cs x h
  obtain ⟨z, rfl, _⟩ := DataW.trod_bool tyBool h
  exact ⟨z, rfl, trivial⟩
def InB (_ : Bool) : Prop := True
set_option maxRecDepth 100000 in
theorem open_bools {v : Value} {d : DataW H} {ps : List MemPlace} {base : Nat} (hv : Value.okWide Try.prog W .any base 56 v) (h : DataW.Trod en Try.prog W 0 sp true 56 v d ps) : ∃ L : List Bool, Src (heapS W) v L ∧ L.length ≤ maxLen ∧ ∀ a ∈ L, InB a :=
  open_src (α := Bool) tyBools ceBool (show 0 < 1 by decide) elBool (okWide_slice tyBools hv) h
end Go.Proofs.Ytkdbajfaaifkaaa
