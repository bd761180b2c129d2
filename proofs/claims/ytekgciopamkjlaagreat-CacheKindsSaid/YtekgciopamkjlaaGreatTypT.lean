/- The type of a law's argument: a string. -/
import Derived.Test.YtekgciopamkjlaaGreatT1
namespace Go.Proofs.YtekgciopamkjlaaGreat
open Go.Xs
theorem tyString:Tryz.prog.underlying 9=some .string:=by kernel_rfl
end Go.Proofs.YtekgciopamkjlaaGreat