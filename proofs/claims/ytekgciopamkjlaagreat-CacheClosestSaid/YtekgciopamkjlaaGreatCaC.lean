/- CacheClosest, plainly: names that end each other, and the longest one that is known. -/
import Derived.Test.YtekgciopamkjlaaGreatCaQ
import Derived.Test.YtekgciopamkjlaaGreatNamesL
namespace Go.Proofs.YtekgciopamkjlaaGreat
open Go.Xs
open Enc (enc)
theorem fP{p:Bs}:∀{f:Nat} {n:Bs} {a m:Nat},Ua f n a=(m,true)→p.length+m≤255→Ua f (p++n) (p.length+a)=(p.length+m,true)
 | 0,_,_,_,h,_=>by cases h
 | f+1,n,a,m,h,hm=>by
  have hb:=Xc _ _ _ _ h;unfold Ua at h ⊢;rw[List.getElem?_append_right (by omega),show p.length+a-p.length=a from by omega];cases hy:n[a]? with
  | none=>rw[hy] at h; cases h
  | some b=>
   rw[hy] at h;simp only at h ⊢;rw[if_neg (by omega)] at h ⊢;by_cases h0:b.toNat=0
   ·rw[if_pos h0] at h ⊢;cases h; rfl
   ·rw[if_neg h0] at h ⊢;by_cases h6:63<b.toNat
    ·rw[if_pos h6] at h; cases h
    ·rw[if_neg h6] at h ⊢;rw[show p.length+a+1+b.toNat=p.length+(a+1+b.toNat) from by omega];exact fP h hm
theorem fM{f:Nat}{Y:Bs}{a n:Nat}(h:Ua f Y a=(n,true)):∀k,Ua (f+k) Y a=(n,true)
 | 0=>h
 | k+1=>bL (fM h k)
/-- letters -/
def rM(X:List Int)(i:Nat):UInt8:=xM (97+round (X.getD i 0) 20)
theorem Ca(X:List Int)(i:Nat):low (rM X i)=rM X i:=by
 have h:=Wj (X.getD i 0) 20 (by decide);unfold rM;generalize round (X.getD i 0) 20=z at h;obtain⟨n,rfl⟩:∃n:Nat,z=n:=⟨z.toNat,by omega⟩
 have:∀n:Nat,n<20→low (xM (97+(n:Int)))=xM (97+(n:Int)):=by decide+kernel
 exact this n (by omega)
def Uh(X:List Int):Nat→Bs
 | 0=>[0]
 | i+1=>1::rM X i::Uh X i
theorem Ug(X:List Int):∀i,(Uh X i).length=2*i+1
 | 0=>rfl
 | i+1=>by rw[Uh,List.length_cons,List.length_cons,Ug X i]; omega
theorem rE(X:List Int):∀{i:Nat},i≤100→Ua (i+1) (Uh X i) 0=(2*i+1,true)
 | 0,_=>rfl
 | i+1,h=>by
  have h1:=fP (p:=[1,rM X i]) (rE X (i:=i) (by omega)) (by show 2+_≤_; omega);rw[XJ (b:=1) rfl (by decide),if_neg (by decide),if_neg (by decide)];rw[show 2*(i+1)+1=2+(2*i+1) from by omega];exact h1
theorem Yq(X:List Int){i:Nat}(h:i≤100):wm (Uh X i)=true:=by
 rw[J2,Ug];have:=fM (rE X h) (255-i);rw[show i+1+(255-i)=256 from by omega] at this;exact this
theorem fD(X:List Int):∀i,(Uh X i).map low=Uh X i
 | 0=>rfl
 | i+1=>by rw[Uh,List.map_cons,List.map_cons,fD X i,Ca]; rfl
theorem Qm(X:List Int){i:Nat}(h:i≤100):zM (Uh X i)=Uh X i:=by
 unfold zM;rw[if_pos (Yq X h),fD]
theorem fE(X:List Int){i j:Nat}(h:Uh X i=Uh X j):i=j:=by
 have:=congrArg List.length h;rw[Ug,Ug] at this;omega
theorem Ql(X:List Int)(i:Nat):Uh X i=[0]↔i=0:=⟨fun h=>fE X (j:=0) h,fun h=>by rw[h]; rfl⟩
theorem BZ(X:List Int){i:Nat}(h:i+1≤100):par (Uh X (i+1))=Uh X i:=by
 unfold par;rw[if_pos ⟨Yq X h,fun e=>by simpa using (Ql X (i+1)).1 e⟩];rfl
/-- a zone's servers -/
def vG(X:List Int)(j:Nat):St:=⟨Uh X j,2,0,[0],[⟨Uh X j,2,1,0,[1,113,0]⟩]⟩
abbrev JJ(X:List Int)(j:Nat):Ky:=⟨Uh X j,2⟩
theorem Pd(X:List Int){j:Nat}(h:j≤100):fk (JJ X j)=JJ X j:=by unfold fk; rw[Qm X h]
theorem dV(X:List Int){j:Nat}(h:j≤10):w9 (vG X j)=0∧YF (vG X j)∧wS (vG X j)≤160∧Zq (vG X j)=JJ X j:=by
 have hv:=Yq X (i:=j) (by omega);have hl:=Ug X j;have hv0:wm [0]=true:=by decide+kernel
 have hd:Zk 2 [1,113,0]=true:=by decide+kernel
 have hp:prt 2 [1,113,0]=[⟨0,3⟩]:=by rfl
 have hm:Wh (vG X j)=true:=by
  unfold Wh vG vY UG;simp[hv,hv0,hd]
 have hs:Zx (vG X j)=22:=by
  unfold Zx vG vF;simp only[List.map_cons,List.map_nil,hp];decide
 have hn:Ze (vG X j)=[Uh X j,[0],[1,113,0]]:=by
  unfold Ze vG ZF;simp only[List.map_cons,List.map_nil,hp]; rfl
 refine⟨?_,⟨by show(Uh X j).length<_; omega,by show 1<_; omega,by show 1<_; omega,fun r hr=>?_⟩,?_,Pd X (by omega)⟩
 ·unfold w9;rw[if_neg (by rw[hm]; decide),hs,if_neg (by decide)]
 ·rw[List.mem_singleton.1 hr];exact⟨by show(Uh X j).length<_; omega,by show 3<_; omega⟩
 ·unfold wS;rw[hs,hn];show Z4 22+(Z4 (8+(Uh X j).length)+(Z4 9+(Z4 11+0)))≤_;rw[show Z4 22=32 from rfl,show Z4 9=32 from rfl,show Z4 11=32 from rfl,hl];have:Z4 (8+(2*j+1))≤64:=by unfold Z4; split; omega; split; omega; rw[if_pos (by omega)]; exact Nat.le_refl _
  omega
/-- the first i of them are there, those that are known -/
structure Kn(X:List Int)(kn:Nat→Bool)(i:Nat)(S:Ss):Prop where
 v:S.V=[]
 at_:∀j,wG S.I (JJ X j)=if j<i∧kn j=true then some (Vp (vG X j) 1 0 50) else none
 w:wI (sets S.I)≤160*i
 l:S.I.length≤i
 x:∀it∈S.I,it.exp=50
theorem Kn.nil(X:List Int)(kn:Nat→Bool):Kn X kn 0 Ui:=⟨rfl,fun j=>by rw[if_neg (by omega)]; rfl,Nat.le_refl _,Nat.le_refl _,fun it h=>by cases h⟩
theorem Kn.skip{X:List Int}{kn:Nat→Bool}{i:Nat}{S:Ss}(h:Kn X kn i S)(hk:kn i=false):Kn X kn (i+1) S:=by
 refine⟨h.v,fun j=>?_,Nat.le_trans h.w (by omega),Nat.le_trans h.l (by omega),h.x⟩;rw[h.at_ j];by_cases hj:j=i
 ·subst hj;rw[hk,if_neg (by simp),if_neg (by simp)]
 ·by_cases hl:j<i
  ·simp only[hl,show j<i+1 from by omega]
  ·rw[if_neg (by omega),if_neg (by omega)]
theorem Kn.put{X:List Int}{kn:Nat→Bool}{i:Nat}{S:Ss}(h:Kn X kn i S)(hi:i≤10)(hk:kn i=true):Vo 16384 100 100 (vG X i) 1 50 0 S=(VP (vG X i) 1 0 50 S,0)∧Kn X kn (i+1) (VP (vG X i) 1 0 50 S):=by
 obtain⟨hE,_,hw,hky⟩:=dV X hi;have hb:wG S.I (JJ X i)=none:=by rw[h.at_,if_neg (by omega)]
 have hw2:=h.w;refine⟨?_,h.v,fun j=>?_,?_,?_,fun it hit=>?_⟩
 ·rw[uD (l:=50) rfl rfl (by decide) fun it hit=>by
   rw[wL (by rw[show(⟨(vG X i).name,(vG X i).typ⟩:Ky)=JJ X i from rfl,Pd X (by omega)]; exact hb)] at hit;cases hit]
  exact kr (N:=16384) (S:=S) (exp:=50) hE rfl (by rw[hky]; exact hb) (by omega)
 ·show wG (S.I++[Vp (vG X i) 1 0 50]) _=_;rw[qc,h.at_];show Option.or _ (if Zq (vG X i)=_ then _ else _)=_;rw[hky];by_cases hj:j=i
  ·subst hj;rw[if_neg (by omega),if_pos rfl,if_pos ⟨by omega,hk⟩]; rfl
  ·rw[if_neg (show ¬JJ X i=JJ X j from fun e=>hj (fE X (congrArg Ky.n e)).symm),Option.or_none];by_cases hl:j<i
   ·simp only[hl,show j<i+1 from by omega]
   ·rw[if_neg (by omega),if_neg (by omega)]
 ·rw[EP]; omega
 ·show(S.I++[_]).length≤_;have:=h.l;rw[List.length_append,List.length_singleton];omega
 ·rcases List.mem_append.1 hit with hit | hit
  ·exact h.x it hit
  ·rw[List.mem_singleton.1 hit]
def best(kn:Nat→Bool):Nat→Option Nat
 | 0=>none
 | i+1=>if kn i=true then some i else best kn i
theorem gY{kn:Nat→Bool}:∀{i j:Nat},best kn i=some j→j<i
 | i+1,j,h=>by
  unfold best at h;split at h
  ·cases h; omega
  ·have:=gY h; omega
theorem Kn.close{X:List Int}{kn:Nat→Bool}{n:Nat}{S:Ss}(h:Kn X kn n S)(now:Int):∀{i f:Nat},i<n→i≤10→i<f→um S now f (Uh X i)=if now<50 then(best kn (i+1)).map fun j=>Vp (vG X j) 1 0 50 else none
 | i,0,_,_,hf=>by omega
 | i,f+1,hn,hi,hf=>by
  have hth:Zi S (JJ X i) now=if kn i=true∧now<50 then some (Vp (vG X i) 1 0 50) else none:=by
   by_cases hk:kn i=true
   ·rw[wK (i:=Vp (vG X i) 1 0 50) (by rw[Pd X (by omega),h.at_,if_pos ⟨hn,hk⟩])];show(if now<50 then _ else _)=_;simp only[hk,true_and]
   ·rw[wL (by rw[Pd X (by omega),h.at_,if_neg (fun q=>hk q.2)]),if_neg (fun q=>hk q.1)]
  have ih:i≠0→um S now f (par (Uh X i))=if now<50 then(best kn i).map fun j=>Vp (vG X j) 1 0 50 else none:=fun h0=>by
   obtain⟨i',rfl⟩:∃i',i=i'+1:=⟨i-1,by omega⟩
   rw[BZ X (by omega)];exact h.close now (by omega) (by omega) (by omega)
  have hr:=Ql X i;rw[um,Yq X (by omega),if_neg (by decide),hth,best];by_cases hk:kn i=true
  ·by_cases hx:now<50
   ·rw[if_pos ⟨hk,hx⟩,if_pos hx,if_pos hk];exact if_pos rfl
   ·rw[if_neg (fun q=>hx q.2),if_neg hx];by_cases h0:i=0
    ·exact if_pos (hr.2 h0)
    ·show(if _=_ then none else _)=_;rw[if_neg (fun q=>h0 (hr.1 q)),ih h0,if_neg hx]
  ·rw[if_neg (fun q=>hk q.1),if_neg hk];by_cases h0:i=0
   ·rw[h0];show(if _=_ then none else _)=_;rw[if_pos (by rfl),best];split<;>rfl
   ·show(if _=_ then none else _)=_;rw[if_neg (fun q=>h0 (hr.1 q)),ih h0]
end Go.Proofs.YtekgciopamkjlaaGreat