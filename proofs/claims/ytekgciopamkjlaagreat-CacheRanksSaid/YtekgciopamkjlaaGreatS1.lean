/- freshetalike: a name of a number, an address's set. The set of an address may be: what it takes. -/
import Derived.Test.YtekgciopamkjlaaGreatAlk
import Derived.Test.YtekgciopamkjlaaGreatP3
namespace Go.Proofs.YtekgciopamkjlaaGreat
open Go.Xs
open Enc (enc)
def iM(z:Int):UInt8:=UInt8.ofNat (z%256).toNat
theorem Qm{E:Env}{x:Operand}{z:Int}(h:ev E x= .int .i64 z):zl (ev E) (.conv .u8 x)=some (.int .u8 ((iM z).toNat:Int)):=by
 simp only[zl,h,XH];have:(iM z).toNat=(z%256).toNat%256:=by simp[iM]
 rw[this];congr 2;omega
def Jq(z:Int)(k:Nat):Int:=z.fdiv (2 ^ (Nat.min k 64))
theorem fu{E:Env}{x:Operand}{z:Int}(k:Nat)(h:ev E x= .int .i64 z):zl (ev E) (.bin .shr x (.const (.int .u64 (k:Int))))=some (.int .i64 (Jq z k)):=by
 have:zl (ev E) (.bin .shr x (.const (.int .u64 (k:Int))))=Wy .shr (ev E x) (.int .u64 (k:Int)):=rfl;rw[this,h];show(if IntKind.i64=IntKind.u64∨BinOp.shr= .shl∨BinOp.shr= .shr then vD .shr .i64 z (k:Int) else none)=_;rw[if_pos (.inr (.inr rfl))];show(if(k:Int)<0 then none else some (Value.int .i64 (z.fdiv (2 ^ (Nat.min (k:Int).toNat 64)))))=_;rw[if_neg (by omega)]; rfl
/-- an address's set -/
def vY(n d:Bs):St:=⟨n,1,0,[0],[⟨n,1,1,0,d⟩]⟩
theorem Xr{n d:Bs}(hn:WO n=true)(hd:d.length=4):ZT (vY n d)=0∧Zm (vY n d)=22∧Z7 (vY n d)=[n,[0]]∧Y8 (vY n d):=by
 have hv0:WO [0]=true:=by decide+kernel
 have hp:prt 1 d=[]:=VJ rfl;have hdo:Zn 1 d=true:=by unfold Zn; rw[if_neg (by omega),if_pos rfl,hd]; rfl
 have hsz:Zm (vY n d)=22:=by
  unfold Zm vY vE;simp only[List.map_cons,List.map_nil,hp,hd];decide
 have hm:WS (vY n d)=true:=by
  unfold WS vY Xh Yn;simp[hn,hv0,hdo]
 have hnl:=Wo hn;refine⟨?_,hsz,?_,⟨by show n.length<_; omega,by show 1<_; omega,by show 1<_; omega,fun r hr=>?_⟩⟩
 ·unfold ZT;rw[if_neg (by rw[hm]; decide),hsz,if_neg (by decide)]
 ·unfold Z7 vY Zw;simp only[List.map_cons,List.map_nil,hp]; rfl
 ·rw[List.mem_singleton.1 hr];exact⟨by show n.length<_; omega,by show d.length<_; omega⟩
end Go.Proofs.YtekgciopamkjlaaGreat
