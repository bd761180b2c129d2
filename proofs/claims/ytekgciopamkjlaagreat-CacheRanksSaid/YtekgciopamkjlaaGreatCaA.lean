/- Caches (chapter 13), plainly: what each act makes of the store, and tells. -/
import Derived.Test.YtekgciopamkjlaaGreatC2
import Derived.Test.YtekgciopamkjlaaGreatC1
import Derived.Test.YtekgciopamkjlaaGreatCaB
namespace Go.Proofs.YtekgciopamkjlaaGreat
open Go.Xs
open Enc (enc)
def ZJ(S:Ss)(k:Ky)(now:Int):Option It:=match VE S.I (fk k) with
 | some i=>if now<i.exp then some i else none
 | none=>none
def VI(N:Nat)(tc nc:Int)(s:St)(r left now:Int)(S:Ss):Ss × Int:=
 if decide (s.typ=255)≠decide (s.kind=2) then(S,1) else if WK tc nc s.kind left=0 then(S,1) else match ZJ S ⟨s.name,s.typ⟩ now with
 | some i=>if r<i.rank then(S,5) else uL N s r now (UZ now (WK tc nc s.kind left)) S
 | none=>uL N s r now (UZ now (WK tc nc s.kind left)) S
def Ui(S:Ss)(k:Ky)(now:Int):Option It:=match ZJ S k now with
 | some i=>some i
 | none=>if k.t=255 then none else ZJ S ⟨k.n,255⟩ now
/-- a name without its first label -/
def par(n:Bs):Bs:=if WO n=true∧n≠[0] then n.drop (1+(n.headD 0).toNat) else [0]
def jC(d:Bs):Int:=(d.foldl (fun a b=>a*256+b.toNat) 0:Nat)
/-- a set's addresses -/
def U0(L:List RR):List Int:=(L.filter fun r=>decide (r.t=1) && Zn 1 r.d).map fun r=>jC r.d
theorem XI{S:Ss}{k:Ky}{now:Int}(h:VE S.I (fk k)=none):ZJ S k now=none:=by unfold ZJ; rw[h]
theorem Vf{S:Ss}{k:Ky}{now:Int}{i:It}(h:VE S.I (fk k)=some i):ZJ S k now=if now<i.exp then some i else none:=by unfold ZJ; rw[h]
end Go.Proofs.YtekgciopamkjlaaGreat