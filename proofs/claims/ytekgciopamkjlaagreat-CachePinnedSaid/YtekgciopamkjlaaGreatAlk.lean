/- freshetalike: Round. -/
import Derived.Test.YtekgciopamkjlaaGreatB3
import Derived.Test.YtekgciopamkjlaaGreatFAlk
namespace Go.Proofs.YtekgciopamkjlaaGreat
open Go.Xs
open Enc (enc)
def round(k n:Int):Int:=k%n
instance:Enc Bool:=⟨fun b=>[.bool b],1,fun _=>rfl,fun _=>rfl⟩
end Go.Proofs.YtekgciopamkjlaaGreat