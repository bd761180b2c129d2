/- CacheRanks, plainly. -/
import Derived.Test.YtekgciopamkjlaaGreatCaQ
import Derived.Test.YtekgciopamkjlaaGreatCaN
namespace Go.Proofs.YtekgciopamkjlaaGreat
open Go.Xs
open Enc (enc)
end Go.Proofs.YtekgciopamkjlaaGreat