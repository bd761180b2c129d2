/- freshetalike: Round. -/
import Derived.Test.YtejmbmenbailmaaB3
import Derived.Test.YtejmbmenbailmaaFAlk
namespace Go.Proofs.Ytejmbmenbailmaa
open Go.Xs
open Enc (enc)

def round (k n : Int) : Int := k % n
instance : Enc Bool := ⟨fun b => [.bool b], 1, fun _ => rfl, fun _ => rfl⟩
end Go.Proofs.Ytejmbmenbailmaa
