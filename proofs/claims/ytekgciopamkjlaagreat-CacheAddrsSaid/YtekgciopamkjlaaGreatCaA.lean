/- Caches (chapter 13), plainly: what each act makes of the store, and tells. -/
import Derived.Test.YtekgciopamkjlaaGreatC2
import Derived.Test.YtekgciopamkjlaaGreatC1
import Derived.Test.YtekgciopamkjlaaGreatCaB
namespace Go.Proofs.YtekgciopamkjlaaGreat
open Go.Xs
open Enc (enc)
def ZP(S:Ss)(k:Ky)(now:Int):Option It:=match VJ S.I (fk k) with
 | some i=>if now<i.exp then some i else none
 | none=>none
def Ud(N:Nat)(tc nc:Int)(s:St)(r left now:Int)(S:Ss):Ss × Int:=
 if decide (s.typ=255)≠decide (s.kind=2) then(S,1) else if Vm tc nc s.kind left=0 then(S,1) else match ZP S ⟨s.name,s.typ⟩ now with
 | some i=>if r<i.rank then(S,5) else Uv N s r now (xA now (Vm tc nc s.kind left)) S
 | none=>Uv N s r now (xA now (Vm tc nc s.kind left)) S
def Ul(S:Ss)(k:Ky)(now:Int):Option It:=match ZP S k now with
 | some i=>some i
 | none=>if k.t=255 then none else ZP S ⟨k.n,255⟩ now
/-- a name without its first label -/
def par(n:Bs):Bs:=if WR n=true∧n≠[0] then n.drop (1+(n.headD 0).toNat) else [0]
def Kw(d:Bs):Int:=(d.foldl (fun a b=>a*256+b.toNat) 0:Nat)
/-- a set's addresses -/
def Uh(L:List RR):List Int:=(L.filter fun r=>decide (r.t=1) && Zo 1 r.d).map fun r=>Kw r.d
theorem Uo{S:Ss}{k:Ky}{now:Int}(h:VJ S.I (fk k)=none):ZP S k now=none:=by unfold ZP; rw[h]
theorem Vf{S:Ss}{k:Ky}{now:Int}{i:It}(h:VJ S.I (fk k)=some i):ZP S k now=if now<i.exp then some i else none:=by unfold ZP; rw[h]
end Go.Proofs.YtekgciopamkjlaaGreat