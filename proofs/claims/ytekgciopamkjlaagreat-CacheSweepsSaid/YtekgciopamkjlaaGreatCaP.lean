/- Caches (chapter 13), plainly: what fits. -/
import Derived.Test.YtekgciopamkjlaaGreatCaA
import Derived.Test.YtekgciopamkjlaaGreatC1
namespace Go.Proofs.YtekgciopamkjlaaGreat
open Go.Xs
open Enc (enc)
def wN(l:List Bs):Nat:=(l.map fun n=>Z4 (8+n.length)).sum
def wS(s:St):Nat:=Z4 (Zx s).toNat+wN (Ze s)
def wI(I:List St):Nat:=(I.map wS).sum
theorem QL(A:List Bs):∀(l seen:List Bs),XT A seen l≤wN l
 | [],_=>Nat.zero_le _
 | n::l,seen=>by
  have ih:=QL A l (zM n::seen);unfold wN at ih ⊢;rw[XT,List.map_cons,List.sum_cons];split<;>omega
theorem Ef(f:Bs→Nat):∀l:List Bs,((dd l).map f).sum≤(l.map f).sum
 | []=>Nat.le_refl _
 | n::l=>by
  have ih:=Ef f l;unfold dd;rw[List.map_cons,List.sum_cons];split
  ·omega
  ·rw[List.map_cons,List.sum_cons]; omega
theorem nD(I:List St):UE I≤wI I:=by
 unfold UE;refine Nat.le_trans (Nat.add_le_add_right (Ef _ (fB I)) _) ?_;unfold fB wI
 induction I with
 | nil=>exact Nat.le_refl _
 | cons s I ih=>
  rw[List.map_cons,List.map_cons,List.map_cons,List.sum_cons,List.sum_cons,List.flatten_cons,List.map_append,List.sum_append,List.map_map];have e:((Ze s).map ((fun n=>Z4 (8+n.length))∘zM)).sum=wN (Ze s):=by
   unfold wN;congr 1;exact List.map_congr_left fun n _=>by show Z4 (8+(zM n).length)=_; rw[Wp]
  have e2:wS s=Z4 (Zx s).toNat+wN (Ze s):=rfl;rw[e,e2];omega
theorem nW(s:St):cost (Zx s)≤(Z4 (Zx s).toNat:Nat):=by
 unfold cost;split
 ·omega
 ·exact Int.le_refl _
theorem Tq{N:Nat}{S:Ss}{s:St}(h:wI (sets S.I)+wS s≤N):¬UK N S<uJ (sets S.I) s:=by
 have h1:=nD (sets S.I);have h2:=QL (fB (sets S.I)) (Ze s) [];unfold UK uJ;split
 ·have h3:=nW s;have e2:wS s=Z4 (Zx s).toNat+wN (Ze s):=rfl;omega
 ·omega
theorem kr{N:Nat}{S:Ss}{s:St}{r now exp:Int}(hE:w9 s=0)(hk:ji r now exp=true)(hb:wG S.I (Zq s)=none)(h:wI (sets S.I)+wS s≤N):VF N s r now exp S=(VP s r now exp S,0):=by
 unfold VF;rw[if_neg (by rw[hE]; decide),if_neg (by rw[hk]; decide),xF hb,aU (Tq h)];rfl
theorem qc(I:List It)(i:It)(k:Ky):wG (I++[i]) k=(wG I k).or (if i.k=k then some i else none):=by
 unfold wG;rw[List.find?_append,List.find?_singleton];congr 1;by_cases h:i.k=k
 ·rw[if_pos h,if_pos (decide_eq_true h)]
 ·rw[if_neg h,if_neg (by simpa using h)]
theorem EP(S:Ss)(s:St)(r now exp:Int):wI (sets (VP s r now exp S).I)=wI (sets S.I)+wS s:=by
 show wI (sets (S.I++[Vp s r now exp]))=_;unfold wI sets;rw[List.map_append,List.map_append,List.sum_append];rfl
/-- a set of its kind without records -/
def ZK(n:Bs)(t k:Int):St:=⟨n,t,k,[0],[]⟩
theorem Wv{n:Bs}{t k:Int}(hn:wm n=true)(ht:1≤t∧t≤65535)(hk:1≤k∧k≤2):w9 (ZK n t k)=0∧YF (ZK n t k)∧wS (ZK n t k)=64+Z4 (8+n.length):=by
 have hv0:wm [0]=true:=by decide+kernel
 have hnl:=Wt hn;have hm:Wh (ZK n t k)=true:=by
  unfold Wh ZK;simp[hn,hv0];omega
 have hs:Zx (ZK n t k)=16:=rfl;refine⟨?_,⟨by show n.length<_; omega,by show 1<_; omega,by show 0<_; omega,fun r hr=>by cases hr⟩,?_⟩
 ·unfold w9;rw[if_neg (by rw[hm]; decide),hs,if_neg (by decide)]
 ·unfold wS;rw[hs];show Z4 16+(Z4 (8+n.length)+(Z4 9+0))=_;rw[show Z4 16=32 from rfl,show Z4 9=32 from rfl];omega
theorem Fb{n d:Bs}(hn:wm n=true)(hd:d.length=4):wS (ZG n d)=64+Z4 (8+n.length):=by
 obtain⟨_,h2,h3,_⟩:=Yk hn hd;unfold wS;rw[h2,h3];show Z4 22+(Z4 (8+n.length)+(Z4 9+0))=_;rw[show Z4 22=32 from rfl,show Z4 9=32 from rfl];omega
end Go.Proofs.YtekgciopamkjlaaGreat