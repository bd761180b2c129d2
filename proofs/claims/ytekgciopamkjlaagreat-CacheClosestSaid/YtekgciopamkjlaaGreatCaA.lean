/- Caches (chapter 13), plainly: what each act makes of the store, and tells. -/
import Derived.Test.YtekgciopamkjlaaGreatC2
import Derived.Test.YtekgciopamkjlaaGreatC1
import Derived.Test.YtekgciopamkjlaaGreatCaB
namespace Go.Proofs.YtekgciopamkjlaaGreat
open Go.Xs
open Enc (enc)
def Zi(S:Ss)(k:Ky)(now:Int):Option It:=match wG S.I (fk k) with
 | some i=>if now<i.exp then some i else none
 | none=>none
def Vo(N:Nat)(tc nc:Int)(s:St)(r left now:Int)(S:Ss):Ss × Int:=
 if decide (s.typ=255)≠decide (s.kind=2) then(S,1) else if WJ tc nc s.kind left=0 then(S,1) else match Zi S ⟨s.name,s.typ⟩ now with
 | some i=>if r<i.rank then(S,5) else VF N s r now (XM now (WJ tc nc s.kind left)) S
 | none=>VF N s r now (XM now (WJ tc nc s.kind left)) S
def WG(S:Ss)(k:Ky)(now:Int):Option It:=match Zi S k now with
 | some i=>some i
 | none=>if k.t=255 then none else Zi S ⟨k.n,255⟩ now
/-- a name without its first label -/
def par(n:Bs):Bs:=if wm n=true∧n≠[0] then n.drop (1+(n.headD 0).toNat) else [0]
def um(S:Ss)(now:Int):Nat→Bs→Option It
 | 0,_=>none
 | f+1,n=>if wm n=false then none else match Zi S ⟨n,2⟩ now with
  | some i=>if i.s.kind=0 then some i else if n=[0] then none else um S now f (par n)
  | none=>if n=[0] then none else um S now f (par n)
def KI(d:Bs):Int:=(d.foldl (fun a b=>a*256+b.toNat) 0:Nat)
/-- a set's addresses -/
def Uv(L:List RR):List Int:=(L.filter fun r=>decide (r.t=1) && Zk 1 r.d).map fun r=>KI r.d
theorem wL{S:Ss}{k:Ky}{now:Int}(h:wG S.I (fk k)=none):Zi S k now=none:=by unfold Zi; rw[h]
theorem wK{S:Ss}{k:Ky}{now:Int}{i:It}(h:wG S.I (fk k)=some i):Zi S k now=if now<i.exp then some i else none:=by unfold Zi; rw[h]
end Go.Proofs.YtekgciopamkjlaaGreat