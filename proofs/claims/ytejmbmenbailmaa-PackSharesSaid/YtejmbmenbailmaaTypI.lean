/- The types of chapter 7's laws' arguments: strings, slices of strings. -/
import Derived.Test.YtejmbmenbailmaaT1
import Derived.Test.YtejmbmenbailmaaN1
namespace Go.Proofs.Ytejmbmenbailmaa
open Go.Xs Go.ChangeShapes Go.WideShapes
variable {H : Type} {en : TypeId × Value → H} {W : World} {sp : Nat → Bool}
theorem tyString : Try.prog.underlying 9 = some .string := by kernel_rfl
end Go.Proofs.Ytejmbmenbailmaa
