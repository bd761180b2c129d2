/- The types of chapter 6's laws' arguments: slices of ints, of bools. -/
import Derived.Test.YtejmbmenbailmaaT1
import Derived.Test.YtejmbmenbailmaaAlk
namespace Go.Proofs.Ytejmbmenbailmaa
open Go.Xs Go.ChangeShapes Go.WideShapes
theorem tyInts : Try.prog.underlying 48 = some (.slice 3) := by kernel_rfl
variable {H : Type} {en : TypeId × Value → H} {W : World} {sp : Nat → Bool}
set_option maxRecDepth 100000 in
theorem open_ints' {v : Value} {d : DataW H} {ps : List MemPlace} {base : Nat} (hv : Value.okWide Try.prog W .any base 48 v) (h : DataW.Trod en Try.prog W 0 sp true 48 v d ps) : ∃ L : List Int, Src (heapS W) v L ∧ L.length ≤ maxLen ∧ ∀ a ∈ L, InI a :=
  open_src (α := Int) tyInts ceInt (show 0 < 1 by decide) elInt (okWide_slice tyInts hv) h
end Go.Proofs.Ytejmbmenbailmaa
