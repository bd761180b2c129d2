/- freshetalike: Round. -/
import Derived.Test.YtejmbmenbailmaaGreatB3
import Derived.Test.YtejmbmenbailmaaGreatFAlk
namespace Go.Proofs.YtejmbmenbailmaaGreat
open Go.Xs
open Enc (enc)
def round (k n : Int) : Int := k % n
instance : Enc Bool := ⟨fun b => [.bool b], 1, fun _ => rfl, fun _ => rfl⟩
end Go.Proofs.YtejmbmenbailmaaGreat