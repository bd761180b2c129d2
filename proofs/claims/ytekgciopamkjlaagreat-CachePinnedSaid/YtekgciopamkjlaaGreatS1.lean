/- freshetalike: a name of a number, an address's set. The set of an address may be: what it takes. -/
import Derived.Test.YtekgciopamkjlaaGreatAlk
import Derived.Test.YtekgciopamkjlaaGreatP3
namespace Go.Proofs.YtekgciopamkjlaaGreat
open Go.Xs
open Enc (enc)
def lG(z:Int):UInt8:=UInt8.ofNat (z%256).toNat
theorem QL{E:Env}{x:Operand}{z:Int}(h:ev E x= .int .i64 z):zm (ev E) (.conv .u8 x)=some (.int .u8 ((lG z).toNat:Int)):=by
 simp only[zm,h,y5];have:(lG z).toNat=(z%256).toNat%256:=by simp[lG]
 rw[this];congr 2;omega
def JO(z:Int)(k:Nat):Int:=z.fdiv (2 ^ (Nat.min k 64))
theorem gG{E:Env}{x:Operand}{z:Int}(k:Nat)(h:ev E x= .int .i64 z):zm (ev E) (.bin .shr x (.const (.int .u64 (k:Int))))=some (.int .i64 (JO z k)):=by
 have:zm (ev E) (.bin .shr x (.const (.int .u64 (k:Int))))=WA .shr (ev E x) (.int .u64 (k:Int)):=rfl;rw[this,h];show(if IntKind.i64=IntKind.u64∨BinOp.shr= .shl∨BinOp.shr= .shr then vE .shr .i64 z (k:Int) else none)=_;rw[if_pos (.inr (.inr rfl))];show(if(k:Int)<0 then none else some (Value.int .i64 (z.fdiv (2 ^ (Nat.min (k:Int).toNat 64)))))=_;rw[if_neg (by omega)]; rfl
/-- an address's set -/
def Vi(n d:Bs):St:=⟨n,1,0,[0],[⟨n,1,1,0,d⟩]⟩
theorem Ka{n d:Bs}(hn:WQ n=true)(hd:d.length=4):ZU (Vi n d)=0∧Zm (Vi n d)=22∧Z8 (Vi n d)=[n,[0]]∧kM (Vi n d):=by
 have hv0:WQ [0]=true:=by decide+kernel
 have hp:prt 1 d=[]:=VO rfl;have hdo:Zo 1 d=true:=by unfold Zo; rw[if_neg (by omega),if_pos rfl,hd]; rfl
 have hsz:Zm (Vi n d)=22:=by
  unfold Zm Vi vF;simp only[List.map_cons,List.map_nil,hp,hd];decide
 have hm:WV (Vi n d)=true:=by
  unfold WV Vi Xv YE;simp[hn,hv0,hdo]
 have hnl:=Ws hn;refine⟨?_,hsz,?_,⟨by show n.length<_; omega,by show 1<_; omega,by show 1<_; omega,fun r hr=>?_⟩⟩
 ·unfold ZU;rw[if_neg (by rw[hm]; decide),hsz,if_neg (by decide)]
 ·unfold Z8 Vi Zw;simp only[List.map_cons,List.map_nil,hp]; rfl
 ·rw[List.mem_singleton.1 hr];exact⟨by show n.length<_; omega,by show d.length<_; omega⟩
end Go.Proofs.YtekgciopamkjlaaGreat
