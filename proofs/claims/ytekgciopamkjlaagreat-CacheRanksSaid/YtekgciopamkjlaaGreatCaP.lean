/- Caches (chapter 13), plainly: what fits. -/
import Derived.Test.YtekgciopamkjlaaGreatCaA
import Derived.Test.YtekgciopamkjlaaGreatC1
namespace Go.Proofs.YtekgciopamkjlaaGreat
open Go.Xs
open Enc (enc)
def wN(l:List Bs):Nat:=(l.map fun n=>zT (8+n.length)).sum
def wS(s:St):Nat:=zT (Zm s).toNat+wN (Z7 s)
def wI(I:List St):Nat:=(I.map wS).sum
theorem jV(A:List Bs):∀(l seen:List Bs),xk A seen l≤wN l
 | [],_=>Nat.zero_le _
 | n::l,seen=>by
  have ih:=jV A l (zx n::seen);unfold wN at ih ⊢;rw[xk,List.map_cons,List.sum_cons];split<;>omega
theorem pW(f:Bs→Nat):∀l:List Bs,((dd l).map f).sum≤(l.map f).sum
 | []=>Nat.le_refl _
 | n::l=>by
  have ih:=pW f l;unfold dd;rw[List.map_cons,List.sum_cons];split
  ·omega
  ·rw[List.map_cons,List.sum_cons]; omega
theorem dh(I:List St):uP I≤wI I:=by
 unfold uP;refine Nat.le_trans (Nat.add_le_add_right (pW _ (Qr I)) _) ?_;unfold Qr wI
 induction I with
 | nil=>exact Nat.le_refl _
 | cons s I ih=>
  rw[List.map_cons,List.map_cons,List.map_cons,List.sum_cons,List.sum_cons,List.flatten_cons,List.map_append,List.sum_append,List.map_map];have e:((Z7 s).map ((fun n=>zT (8+n.length))∘zx)).sum=wN (Z7 s):=by
   unfold wN;congr 1;exact List.map_congr_left fun n _=>by show zT (8+(zx n).length)=_; rw[wK]
  have e2:wS s=zT (Zm s).toNat+wN (Z7 s):=rfl;rw[e,e2];omega
theorem dO(s:St):cost (Zm s)≤(zT (Zm s).toNat:Nat):=by
 unfold cost;split
 ·omega
 ·exact Int.le_refl _
theorem Gj{N:Nat}{S:Ss}{s:St}(h:wI (sets S.I)+wS s≤N):¬uT N S<Vr (sets S.I) s:=by
 have h1:=dh (sets S.I);have h2:=jV (Qr (sets S.I)) (Z7 s) [];unfold uT Vr;split
 ·have h3:=dO s;have e2:wS s=zT (Zm s).toNat+wN (Z7 s):=rfl;omega
 ·omega
theorem eH{N:Nat}{S:Ss}{s:St}{r now exp:Int}(hE:ZT s=0)(hk:Qp r now exp=true)(hb:VE S.I (Zk s)=none)(h:wI (sets S.I)+wS s≤N):uL N s r now exp S=(AX s r now exp S,0):=by
 unfold uL;rw[if_neg (by rw[hE]; decide),if_neg (by rw[hk]; decide),Yu hb,Jr (Gj h)];rfl
/-- a set of its kind without records -/
def XP(n:Bs)(t k:Int):St:=⟨n,t,k,[0],[]⟩
theorem mF{n:Bs}{t k:Int}(hn:WO n=true)(ht:1≤t∧t≤65535)(hk:1≤k∧k≤2):ZT (XP n t k)=0∧Y8 (XP n t k)∧wS (XP n t k)=64+zT (8+n.length):=by
 have hv0:WO [0]=true:=by decide+kernel
 have hnl:=Wo hn;have hm:WS (XP n t k)=true:=by
  unfold WS XP;simp[hn,hv0];omega
 have hs:Zm (XP n t k)=16:=rfl;refine⟨?_,⟨by show n.length<_; omega,by show 1<_; omega,by show 0<_; omega,fun r hr=>by cases hr⟩,?_⟩
 ·unfold ZT;rw[if_neg (by rw[hm]; decide),hs,if_neg (by decide)]
 ·unfold wS;rw[hs];show zT 16+(zT (8+n.length)+(zT 9+0))=_;rw[show zT 16=32 from rfl,show zT 9=32 from rfl];omega
theorem dS{n d:Bs}(hn:WO n=true)(hd:d.length=4):wS (vY n d)=64+zT (8+n.length):=by
 obtain⟨_,h2,h3,_⟩:=Xr hn hd;unfold wS;rw[h2,h3];show zT 22+(zT (8+n.length)+(zT 9+0))=_;rw[show zT 22=32 from rfl,show zT 9=32 from rfl];omega
theorem Im(n d:Bs):Zk (vY n d)=fk ⟨n,1⟩:=rfl
end Go.Proofs.YtekgciopamkjlaaGreat