/- CacheGoes, plainly. -/
import Derived.Test.YtekgciopamkjlaaGreatCaR
import Derived.Test.YtekgciopamkjlaaGreatCaW
namespace Go.Proofs.YtekgciopamkjlaaGreat
open Go.Xs
open Enc (enc)
def EG(n:Bs)(k:Int):St:=if k=1 then Uv n 1 1 else if k=2 then Uv n 255 2 else Vi n (Yn 9)
theorem g1(n:Bs):EG n 1=Uv n 1 1:=rfl
theorem g2(n:Bs):EG n 2=Uv n 255 2:=rfl
end Go.Proofs.YtekgciopamkjlaaGreat