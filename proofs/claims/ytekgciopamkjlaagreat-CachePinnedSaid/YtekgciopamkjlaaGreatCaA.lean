/- Caches (chapter 13), plainly: what each act makes of the store, and tells. -/
import Derived.Test.YtekgciopamkjlaaGreatC2
import Derived.Test.YtekgciopamkjlaaGreatC1
import Derived.Test.YtekgciopamkjlaaGreatCaB
namespace Go.Proofs.YtekgciopamkjlaaGreat
open Go.Xs
open Enc (enc)
def ZL(S:Ss)(k:Ky)(now:Int):Option It:=match V6 S.I (fk k) with
 | some i=>if now<i.exp then some i else none
 | none=>none
def uW(N:Nat)(tc nc:Int)(s:St)(r left now:Int)(S:Ss):Ss × Int:=
 if decide (s.typ=255)≠decide (s.kind=2) then(S,1) else if vM tc nc s.kind left=0 then(S,1) else match ZL S ⟨s.name,s.typ⟩ now with
 | some i=>if r<i.rank then(S,5) else VN N s r now (xI now (vM tc nc s.kind left)) S
 | none=>VN N s r now (xI now (vM tc nc s.kind left)) S
def uP(S:Ss)(k:Ky)(now:Int):Option It:=match ZL S k now with
 | some i=>some i
 | none=>if k.t=255 then none else ZL S ⟨k.n,255⟩ now
/-- a name without its first label -/
def par(n:Bs):Bs:=if WQ n=true∧n≠[0] then n.drop (1+(n.headD 0).toNat) else [0]
def jU(d:Bs):Int:=(d.foldl (fun a b=>a*256+b.toNat) 0:Nat)
/-- a set's addresses -/
def U5(L:List RR):List Int:=(L.filter fun r=>decide (r.t=1) && Zo 1 r.d).map fun r=>jU r.d
theorem Us{S:Ss}{k:Ky}{now:Int}(h:V6 S.I (fk k)=none):ZL S k now=none:=by unfold ZL; rw[h]
theorem Vg{S:Ss}{k:Ky}{now:Int}{i:It}(h:V6 S.I (fk k)=some i):ZL S k now=if now<i.exp then some i else none:=by unfold ZL; rw[h]
end Go.Proofs.YtekgciopamkjlaaGreat