/- Caches (chapter 13), plainly: what fits. -/
import Derived.Test.YtekgciopamkjlaaGreatCaA
import Derived.Test.YtekgciopamkjlaaGreatC1
namespace Go.Proofs.YtekgciopamkjlaaGreat
open Go.Xs
open Enc (enc)
def wN(l:List Bs):Nat:=(l.map fun n=>zU (8+n.length)).sum
def wS(s:St):Nat:=zU (Zm s).toNat+wN (Z8 s)
def wI(I:List St):Nat:=(I.map wS).sum
theorem Ji(A:List Bs):∀(l seen:List Bs),xL A seen l≤wN l
 | [],_=>Nat.zero_le _
 | n::l,seen=>by
  have ih:=Ji A l (zA n::seen);unfold wN at ih ⊢;rw[xL,List.map_cons,List.sum_cons];split<;>omega
theorem su(f:Bs→Nat):∀l:List Bs,((dd l).map f).sum≤(l.map f).sum
 | []=>Nat.le_refl _
 | n::l=>by
  have ih:=su f l;unfold dd;rw[List.map_cons,List.sum_cons];split
  ·omega
  ·rw[List.map_cons,List.sum_cons]; omega
theorem dY(I:List St):uT I≤wI I:=by
 unfold uT;refine Nat.le_trans (Nat.add_le_add_right (su _ (QO I)) _) ?_;unfold QO wI
 induction I with
 | nil=>exact Nat.le_refl _
 | cons s I ih=>
  rw[List.map_cons,List.map_cons,List.map_cons,List.sum_cons,List.sum_cons,List.flatten_cons,List.map_append,List.sum_append,List.map_map];have e:((Z8 s).map ((fun n=>zU (8+n.length))∘zA)).sum=wN (Z8 s):=by
   unfold wN;congr 1;exact List.map_congr_left fun n _=>by show zU (8+(zA n).length)=_; rw[wM]
  have e2:wS s=zU (Zm s).toNat+wN (Z8 s):=rfl;rw[e,e2];omega
theorem fB(s:St):cost (Zm s)≤(zU (Zm s).toNat:Nat):=by
 unfold cost;split
 ·omega
 ·exact Int.le_refl _
theorem H8{N:Nat}{S:Ss}{s:St}(h:wI (sets S.I)+wS s≤N):¬uY N S<Vx (sets S.I) s:=by
 have h1:=dY (sets S.I);have h2:=Ji (QO (sets S.I)) (Z8 s) [];unfold uY Vx;split
 ·have h3:=fB s;have e2:wS s=zU (Zm s).toNat+wN (Z8 s):=rfl;omega
 ·omega
theorem fT{N:Nat}{S:Ss}{s:St}{r now exp:Int}(hE:ZU s=0)(hk:qh r now exp=true)(hb:V6 S.I (Zg s)=none)(h:wI (sets S.I)+wS s≤N):VN N s r now exp S=(BG s r now exp S,0):=by
 unfold VN;rw[if_neg (by rw[hE]; decide),if_neg (by rw[hk]; decide),YJ hb,JQ (H8 h)];rfl
/-- a set of its kind without records -/
def Uv(n:Bs)(t k:Int):St:=⟨n,t,k,[0],[]⟩
theorem nD{n:Bs}{t k:Int}(hn:WQ n=true)(ht:1≤t∧t≤65535)(hk:1≤k∧k≤2):ZU (Uv n t k)=0∧kM (Uv n t k)∧wS (Uv n t k)=64+zU (8+n.length):=by
 have hv0:WQ [0]=true:=by decide+kernel
 have hnl:=Ws hn;have hm:WV (Uv n t k)=true:=by
  unfold WV Uv;simp[hn,hv0];omega
 have hs:Zm (Uv n t k)=16:=rfl;refine⟨?_,⟨by show n.length<_; omega,by show 1<_; omega,by show 0<_; omega,fun r hr=>by cases hr⟩,?_⟩
 ·unfold ZU;rw[if_neg (by rw[hm]; decide),hs,if_neg (by decide)]
 ·unfold wS;rw[hs];show zU 16+(zU (8+n.length)+(zU 9+0))=_;rw[show zU 16=32 from rfl,show zU 9=32 from rfl];omega
theorem tX{n d:Bs}(hn:WQ n=true)(hd:d.length=4):wS (Vi n d)=64+zU (8+n.length):=by
 obtain⟨_,h2,h3,_⟩:=Ka hn hd;unfold wS;rw[h2,h3];show zU 22+(zU (8+n.length)+(zU 9+0))=_;rw[show zU 22=32 from rfl,show zU 9=32 from rfl];omega
end Go.Proofs.YtekgciopamkjlaaGreat