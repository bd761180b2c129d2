/- Caches (chapter 13), plainly: what fits. -/
import Derived.Test.YtekgciopamkjlaaGreatCaA
import Derived.Test.YtekgciopamkjlaaGreatC1
namespace Go.Proofs.YtekgciopamkjlaaGreat
open Go.Xs
open Enc (enc)
def wN(l:List Bs):Nat:=(l.map fun n=>zZ (8+n.length)).sum
def wS(s:St):Nat:=zZ (Zp s).toNat+wN (Zb s)
def wI(I:List St):Nat:=(I.map wS).sum
theorem Je(A:List Bs):∀(l seen:List Bs),xD A seen l≤wN l
 | [],_=>Nat.zero_le _
 | n::l,seen=>by
  have ih:=Je A l (zC n::seen);unfold wN at ih ⊢;rw[xD,List.map_cons,List.sum_cons];split<;>omega
theorem tN(f:Bs→Nat):∀l:List Bs,((dd l).map f).sum≤(l.map f).sum
 | []=>Nat.le_refl _
 | n::l=>by
  have ih:=tN f l;unfold dd;rw[List.map_cons,List.sum_cons];split
  ·omega
  ·rw[List.map_cons,List.sum_cons]; omega
theorem dX(I:List St):uR I≤wI I:=by
 unfold uR;refine Nat.le_trans (Nat.add_le_add_right (tN _ (QJ I)) _) ?_;unfold QJ wI
 induction I with
 | nil=>exact Nat.le_refl _
 | cons s I ih=>
  rw[List.map_cons,List.map_cons,List.map_cons,List.sum_cons,List.sum_cons,List.flatten_cons,List.map_append,List.sum_append,List.map_map];have e:((Zb s).map ((fun n=>zZ (8+n.length))∘zC)).sum=wN (Zb s):=by
   unfold wN;congr 1;exact List.map_congr_left fun n _=>by show zZ (8+(zC n).length)=_; rw[wM]
  have e2:wS s=zZ (Zp s).toNat+wN (Zb s):=rfl;rw[e,e2];omega
theorem fu(s:St):cost (Zp s)≤(zZ (Zp s).toNat:Nat):=by
 unfold cost;split
 ·omega
 ·exact Int.le_refl _
theorem Nz{N:Nat}{S:Ss}{s:St}(h:wI (sets S.I)+wS s≤N):¬uV N S<Vx (sets S.I) s:=by
 have h1:=dX (sets S.I);have h2:=Je (QJ (sets S.I)) (Zb s) [];unfold uV Vx;split
 ·have h3:=fu s;have e2:wS s=zZ (Zp s).toNat+wN (Zb s):=rfl;omega
 ·omega
theorem fZ{N:Nat}{S:Ss}{s:St}{r now exp:Int}(hE:wh s=0)(hk:gY r now exp=true)(hb:VJ S.I (ZA s)=none)(h:wI (sets S.I)+wS s≤N):Uv N s r now exp S=(CB s r now exp S,0):=by
 unfold Uv;rw[if_neg (by rw[hE]; decide),if_neg (by rw[hk]; decide),YF hb,fD (Nz h)];rfl
/-- a set of its kind without records -/
def Us(n:Bs)(t k:Int):St:=⟨n,t,k,[0],[]⟩
theorem nQ{n:Bs}{t k:Int}(hn:WR n=true)(ht:1≤t∧t≤65535)(hk:1≤k∧k≤2):wh (Us n t k)=0∧kK (Us n t k)∧wS (Us n t k)=64+zZ (8+n.length):=by
 have hv0:WR [0]=true:=by decide+kernel
 have hnl:=Ww hn;have hm:WK (Us n t k)=true:=by
  unfold WK Us;simp[hn,hv0];omega
 have hs:Zp (Us n t k)=16:=rfl;refine⟨?_,⟨by show n.length<_; omega,by show 1<_; omega,by show 0<_; omega,fun r hr=>by cases hr⟩,?_⟩
 ·unfold wh;rw[if_neg (by rw[hm]; decide),hs,if_neg (by decide)]
 ·unfold wS;rw[hs];show zZ 16+(zZ (8+n.length)+(zZ 9+0))=_;rw[show zZ 16=32 from rfl,show zZ 9=32 from rfl];omega
end Go.Proofs.YtekgciopamkjlaaGreat