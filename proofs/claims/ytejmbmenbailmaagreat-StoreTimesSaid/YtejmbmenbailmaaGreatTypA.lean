/- The types of chapter 6's laws' arguments: slices of ints, of bools. -/
import Derived.Test.YtejmbmenbailmaaGreatT1
import Derived.Test.YtejmbmenbailmaaGreatAlk
namespace Go.Proofs.YtejmbmenbailmaaGreat
open Go.Xs Go.ChangeShapes Go.WideShapes
theorem bY : Tryz.prog.underlying 23 = some (.slice 3) := by kernel_rfl
theorem qL : Tryz.prog.underlying 74 = some (.slice 4) := by kernel_rfl
theorem A9 : Tryz.prog.cellsOf 4 = 1 := by kernel_rfl
variable {H : Type} {en : TypeId × Value → H} {W : World} {sp : Nat → Bool}
set_option maxRecDepth 100000 in
theorem open_ints' {v : Value} {d : DataW H} {ps : List MemPlace} {base : Nat} (hv : Value.okWide Tryz.prog W .any base 23 v) (h : DataW.Trod en Tryz.prog W 0 sp true 23 v d ps) : ∃ L : List Int, Src (heapS W) v L ∧ L.length ≤ maxLen ∧ ∀ a ∈ L, InI a :=
 jC (α := Int) bY EX (show 0 < 1 by decide) ES (okWide_slice bY hv) h
theorem tY : ∀ (n : Nat) (cs : List Value) (x : DataW H × List MemPlace), DataW.trod en Tryz.prog W 0 sp true n 4 cs = some x → ∃ a : Bool, cs = Enc.enc a ∧ True := by
 intro n cs x h;obtain ⟨z, rfl, _⟩ := DataW.trod_bool tyBool h;exact ⟨z, rfl, trivial⟩
def InB (_ : Bool) : Prop := True
set_option maxRecDepth 100000 in
theorem open_bools {v : Value} {d : DataW H} {ps : List MemPlace} {base : Nat} (hv : Value.okWide Tryz.prog W .any base 74 v) (h : DataW.Trod en Tryz.prog W 0 sp true 74 v d ps) : ∃ L : List Bool, Src (heapS W) v L ∧ L.length ≤ maxLen ∧ ∀ a ∈ L, InB a :=
 jC (α := Bool) qL A9 (show 0 < 1 by decide) tY (okWide_slice qL hv) h
end Go.Proofs.YtejmbmenbailmaaGreat