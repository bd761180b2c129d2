/- freshetalike: a name of a number, an address's set. The set of an address may be: what it takes. -/
import Derived.Test.YtekgciopamkjlaaGreatAlk
import Derived.Test.YtekgciopamkjlaaGreatP3
namespace Go.Proofs.YtekgciopamkjlaaGreat
open Go.Xs
open Enc (enc)
def lN(z:Int):UInt8:=UInt8.ofNat (z%256).toNat
theorem QG{E:Env}{x:Operand}{z:Int}(h:ev E x= .int .i64 z):zu (ev E) (.conv .u8 x)=some (.int .u8 ((lN z).toNat:Int)):=by
 simp only[zu,h,XY];have:(lN z).toNat=(z%256).toNat%256:=by simp[lN]
 rw[this];congr 2;omega
def JK(z:Int)(k:Nat):Int:=z.fdiv (2 ^ (Nat.min k 64))
theorem gL{E:Env}{x:Operand}{z:Int}(k:Nat)(h:ev E x= .int .i64 z):zu (ev E) (.bin .shr x (.const (.int .u64 (k:Int))))=some (.int .i64 (JK z k)):=by
 have:zu (ev E) (.bin .shr x (.const (.int .u64 (k:Int))))=Wy .shr (ev E x) (.int .u64 (k:Int)):=rfl;rw[this,h];show(if IntKind.i64=IntKind.u64∨BinOp.shr= .shl∨BinOp.shr= .shr then WW .shr .i64 z (k:Int) else none)=_;rw[if_pos (.inr (.inr rfl))];show(if(k:Int)<0 then none else some (Value.int .i64 (z.fdiv (2 ^ (Nat.min (k:Int).toNat 64)))))=_;rw[if_neg (by omega)]; rfl
/-- an address's set -/
def uo(n d:Bs):St:=⟨n,1,0,[0],[⟨n,1,1,0,d⟩]⟩
theorem nR{n d:Bs}(hn:WR n=true)(hd:d.length=4):wh (uo n d)=0∧Zp (uo n d)=22∧Zb (uo n d)=[n,[0]]∧kK (uo n d):=by
 have hv0:WR [0]=true:=by decide+kernel
 have hp:prt 1 d=[]:=VP rfl;have hdo:Zo 1 d=true:=by unfold Zo; rw[if_neg (by omega),if_pos rfl,hd]; rfl
 have hsz:Zp (uo n d)=22:=by
  unfold Zp uo WH;simp only[List.map_cons,List.map_nil,hp,hd];decide
 have hm:WK (uo n d)=true:=by
  unfold WK uo UR y9;simp[hn,hv0,hdo]
 have hnl:=Ww hn;refine⟨?_,hsz,?_,⟨by show n.length<_; omega,by show 1<_; omega,by show 1<_; omega,fun r hr=>?_⟩⟩
 ·unfold wh;rw[if_neg (by rw[hm]; decide),hsz,if_neg (by decide)]
 ·unfold Zb uo Zw;simp only[List.map_cons,List.map_nil,hp]; rfl
 ·rw[List.mem_singleton.1 hr];exact⟨by show n.length<_; omega,by show d.length<_; omega⟩
end Go.Proofs.YtekgciopamkjlaaGreat
