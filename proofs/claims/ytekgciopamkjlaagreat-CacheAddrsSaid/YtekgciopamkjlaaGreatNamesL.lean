/- Names by their labels, plainly. -/
import Derived.Test.YtekgciopamkjlaaGreatP1
import Derived.Test.YtekgciopamkjlaaGreatL0
import Derived.Test.YtekgciopamkjlaaGreatB4
namespace Go.Proofs.YtekgciopamkjlaaGreat
open Go.Xs
open Enc (enc)
/-! ### the order of texts, and of lists of them -/
/-- a comparison of three ways, as it should be -/
structure C3{α:Type}(c:α→α→Int):Prop where
 rev:∀a b,c b a= -c a b
 eq:∀a b,c a b=0↔a=b
 tr:∀a b d,c a b≤0→c b d≤0→c a d≤0
end Go.Proofs.YtekgciopamkjlaaGreat