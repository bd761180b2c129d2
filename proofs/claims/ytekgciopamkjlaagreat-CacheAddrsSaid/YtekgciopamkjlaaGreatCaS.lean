/- CacheGoes, plainly. -/
import Derived.Test.YtekgciopamkjlaaGreatCaR
import Derived.Test.YtekgciopamkjlaaGreatCaW
namespace Go.Proofs.YtekgciopamkjlaaGreat
open Go.Xs
open Enc (enc)
def Fy(n:Bs)(k:Int):St:=if k=1 then Us n 1 1 else if k=2 then Us n 255 2 else uo n (Yj 9)
theorem g1(n:Bs):Fy n 1=Us n 1 1:=rfl
theorem g2(n:Bs):Fy n 2=Us n 255 2:=rfl
end Go.Proofs.YtekgciopamkjlaaGreat