/- CacheAddrs, plainly. -/
import Derived.Test.YtekgciopamkjlaaGreatCpt
import Derived.Test.YtekgciopamkjlaaGreatCaS
namespace Go.Proofs.YtekgciopamkjlaaGreat
open Go.Xs
open Enc (enc)
abbrev aY(X:List Int):List Int:=X.map fun x=>round x 40
abbrev Kg(z:Int):RR:=⟨[1,97,0],1,1,0,Yj z⟩
/-- the set of so many addresses -/
def sR(Z:List Int):St:=⟨[1,65,0],1,0,[0],Z.map Kg⟩
theorem AV{X:List Int}:∀z∈aY X,∃k:Nat,k<40∧z=(k:Int):=fun z hz=>by
 obtain⟨x,_,rfl⟩:=List.mem_map.1 hz;have:=jN x 40 (by decide);exact⟨(round x 40).toNat,by omega,by show round x 40=_; omega⟩
theorem KU(z:Int):prt 1 (Yj z)=[]:=VP rfl
theorem lS(z:Int):Wm 1 (Yj z)=Yj z:=by
 unfold Wm;rw[KU];rfl
theorem lQ(z:Int):Zo 1 (Yj z)=true:=by unfold Zo; rw[if_neg (by show ¬1000<4; decide),if_pos rfl]; rfl
theorem su{Z:List Int}(h1:1≤Z.length)(h2:Z.length≤32):wh (sR Z)=0∧kK (sR Z)∧wS (sR Z)≤8192∧ZA (sR Z)=⟨[1,97,0],1⟩:=by
 have hs:Zp (sR Z)=16+6*(Z.length:Int):=by
  unfold Zp sR;show 16+wV ((Z.map Kg).map WH)=_;congr 1;rw[List.map_map];clear h1 h2
  induction Z with
  | nil=>rfl
  | cons z Z ih=>
   rw[List.map_cons];show(WH (Kg z))+wV (Z.map (WH∘Kg))=_;rw[ih,List.length_cons];unfold WH;rw[KU];show(2+4+0:Int)+_=_;omega
 have hr:(Z.map Kg).all (UR (sR Z))=true:=by
  rw[List.all_eq_true];intro r hr;obtain⟨z,_,rfl⟩:=List.mem_map.1 hr;unfold UR;rw[lQ];show(y9 [1,97,0] [1,65,0] && true && true && true)=true;decide+kernel
 have hv0:WR [1,65,0]=true:=by decide+kernel
 have hv1:WR [0]=true:=by decide+kernel
 have hm:WK (sR Z)=true:=by
  unfold WK;rw[show(sR Z).rrs=Z.map Kg from rfl,hr,List.length_map,show(sR Z).name=[1,65,0] from rfl,show(sR Z).zone=[0] from rfl,hv0,hv1,show(sR Z).typ=1 from rfl,show(sR Z).kind=0 from rfl];simp[h2,show 0<Z.length from h1]
 have hn:Zb (sR Z)=[[1,65,0],[0]]:=by
  unfold Zb;show [1,65,0]::[0]::((Z.map Kg).map Zw).flatten=_;rw[List.map_map,show(Zw∘Kg)=fun _=>[] from funext fun z=>by show(prt 1 (Yj z)).map (uX (Yj z))=[]; rw[KU]; rfl];have:(Z.map fun _=>([]:List Bs)).flatten=[]:=by
   rw[List.flatten_eq_nil_iff];intro l hl;obtain⟨_,_,rfl⟩:=List.mem_map.1 hl;rfl
  rw[this]
 refine⟨?_,⟨by show 3<_; decide,by show 1<_; decide,by show(Z.map Kg).length<_; rw[List.length_map]; omega,fun r hr=>?_⟩,?_,?_⟩
 ·unfold wh;rw[if_neg (by rw[hm]; decide),hs,if_neg (by omega)]
 ·obtain⟨z,_,rfl⟩:=List.mem_map.1 hr;exact⟨by show 3<_; decide,by show 4<_; decide⟩
 ·unfold wS;rw[hn,hs];have:zZ (16+6*(Z.length:Int)).toNat≤512:=by
   have:(16+6*(Z.length:Int)).toNat≤400:=by omega
   unfold zZ;rw[if_pos (show(16+6*(Z.length:Int)).toNat+8≤512 by omega)]
   repeat' split
   all_goals omega
  show _+(zZ 11+(zZ 9+0))≤_;rw[show zZ 11=32 from rfl,show zZ 9=32 from rfl];omega
 ·show fk ⟨[1,65,0],1⟩=_;unfold fk;rw[show zC [1,65,0]=[1,97,0] from by decide+kernel]
theorem fG(Z:List Int):(Zj (sR Z)).rrs=Z.map fun z=>(⟨[1,97,0],1,1,0,Yj z⟩:RR):=by
 show(Z.map Kg).map (fun r=>(⟨zC [1,65,0],r.t,1,0,Wm r.t r.d⟩:RR))=_;rw[List.map_map,show zC [1,65,0]=[1,97,0] from by decide+kernel];refine List.map_congr_left fun z _=>?_
 show(⟨[1,97,0],1,1,0,Wm 1 (Yj z)⟩:RR)=_;rw[lS]
theorem nX{Z:List Int}(h:∀z∈Z,∃k:Nat,k<40∧z=(k:Int)):Uh (Zj (sR Z)).rrs=Z:=by
 rw[fG];unfold Uh;have hnum:∀k:Nat,k<40→Kw (Yj (k:Int))=(k:Int):=by decide+kernel
 induction Z with
 | nil=>rfl
 | cons z Z ih=>
  obtain⟨k,hk,rfl⟩:=h z (by simp);rw[List.map_cons,List.filter_cons,if_pos (by show(decide ((1:Int)=1) && Zo 1 (Yj (k:Int)))=true; rw[lQ]; rfl),List.map_cons,ih fun y hy=>h y (List.mem_cons_of_mem _ hy)];show Kw (Yj (k:Int))::Z=_;rw[hnum k hk]
/-! ### in order, each once -/
theorem l8:∀(l:List Int) (a:Int),(a::l).Pairwise (· ≤ ·)→(a::Xt a l).Pairwise (· < ·)∧∀x,x∈a::Xt a l↔x∈a::l
 | [],a,_=>⟨List.pairwise_singleton _ _,fun _=>Iff.rfl⟩
 | b::l,a,h=>by
  obtain⟨h1,h2⟩:=List.pairwise_cons.1 h;obtain⟨g1,g2⟩:=l8 l b h2;rw[Xt];by_cases e:b=a
  ·subst e;rw[if_pos rfl];refine⟨g1,fun x=>?_⟩;rw[g2 x,List.mem_cons (a:=x) (b:=b) (l:=b::l)];exact⟨.inr,fun q=>q.elim (fun q=>by rw[q]; simp) id⟩
  ·rw[if_neg e];refine⟨List.pairwise_cons.2 ⟨fun x hx=>?_,g1⟩,fun x=>by rw[List.mem_cons,List.mem_cons (a:=x) (b:=a) (l:=b::l),g2 x]⟩;have hb:=h1 b (by simp);rcases List.mem_cons.1 hx with rfl | hx
   ·omega
   ·have:=(List.pairwise_cons.1 g1).1 x hx;omega
theorem qO{L:List Int}(h:L.Pairwise (· ≤ ·)):(bP L).Pairwise (· < ·)∧∀x,x∈bP L↔x∈L:=by
 cases L with
 | nil=>exact⟨.nil,fun _=>Iff.rfl⟩
 | cons a l=>exact l8 l a h
theorem Yy:∀{A B:List Int},A.Pairwise (· < ·)→B.Pairwise (· < ·)→(∀x,x∈A↔x∈B)→A=B
 | [],[],_,_,_=>rfl
 | [],b::B,_,_,h=>absurd ((h b).2 (by simp)) (by simp)
 | a::A,[],_,_,h=>absurd ((h a).1 (by simp)) (by simp)
 | a::A,b::B,hA,hB,h=>by
  obtain⟨a1,a2⟩:=List.pairwise_cons.1 hA;obtain⟨b1,b2⟩:=List.pairwise_cons.1 hB;have hab:a=b:=by
   rcases List.mem_cons.1 ((h a).1 (by simp)) with q | q
   ·exact q
   ·rcases List.mem_cons.1 ((h b).2 (by simp)) with r | r
    ·exact r.symm
    ·have:=b1 a q;have:=a1 b r;omega
  subst hab;congr 1;refine Yy a2 b2 fun x=>⟨fun hx=>?_,fun hx=>?_⟩
  ·rcases List.mem_cons.1 ((h x).1 (List.mem_cons_of_mem _ hx)) with q | q
   ·have:=a1 x hx; omega
   ·exact q
  ·rcases List.mem_cons.1 ((h x).2 (List.mem_cons_of_mem _ hx)) with q | q
   ·have:=b1 x hx; omega
   ·exact q
/-- the numbers below i that are among them, in order -/
def Vq(Z:List Int)(i:Nat):List Int:=((List.range i).filter fun(j:Nat)=>decide ((j:Int)∈Z)).map fun(j:Nat)=>(j:Int)
theorem JE(Z:List Int)(i:Nat):Vq Z (i+1)=if(i:Int)∈Z then Vq Z i++[(i:Int)] else Vq Z i:=by
 unfold Vq;rw[List.range_succ,List.filter_append,List.map_append,List.filter_cons];by_cases h:(i:Int)∈Z
 ·rw[if_pos h,if_pos (decide_eq_true h)]; rfl
 ·rw[if_neg h,if_neg (by simpa using h)]; simp
theorem xQ(Z:List Int)(i:Nat):(Vq Z i).length≤i:=by
 unfold Vq;rw[List.length_map];have:=List.length_filter_le (fun(j:Nat)=>decide ((j:Int)∈Z)) (List.range i);rw[List.length_range] at this;exact this
theorem jU{Z M:List Int}(h:∀z∈Z,∃k:Nat,k<40∧z=(k:Int))(hM:kM (Zj (sR Z)).rrs M):M=Vq Z 40:=by
 obtain⟨L1,hp,hs,rfl⟩:=hM;rw[nX h] at hp;obtain⟨g1,g2⟩:=qO hs;refine Yy g1 ?_ fun x=>?_
 ·unfold Vq;rw[List.pairwise_map];refine(List.Pairwise.filter _ List.pairwise_lt_range).imp ?_;intro a b hab; omega
 ·rw[g2 x,hp.mem_iff];unfold Vq;rw[List.mem_map];constructor
  ·intro hx;obtain⟨k,hk,rfl⟩:=h x hx;exact⟨k,List.mem_filter.2 ⟨List.mem_range.2 hk,decide_eq_true hx⟩,rfl⟩
  ·rintro⟨k,hk,rfl⟩;exact of_decide_eq_true (List.mem_filter.1 hk).2
/-- which are there -/
def mR(Z:List Int):List Bool:=(List.range 40).map fun(j:Nat)=>decide ((j:Int)∈Z)
theorem XG(Z:List Int):(mR Z).length=40:=by unfold mR; rw[List.length_map,List.length_range]
theorem pE:mR []=List.replicate 40 false:=by rfl
theorem XH{Z:List Int}{j:Nat}(h:j<40):(mR Z)[j]?=some (decide ((j:Int)∈Z)):=by
 unfold mR;rw[List.getElem?_map,List.getElem?_range h]; rfl
theorem pz{Z:List Int}{k:Nat}(h:k<40):(mR Z).set k true=mR (Z++[(k:Int)]):=by
 refine List.ext_getElem? fun j=>?_
 rw[List.getElem?_set];by_cases hj:j<40
 ·rw[XH hj];by_cases e:k=j
  ·rw[if_pos e,if_pos (by rw[XG]; exact h), ←e];have:(k:Int)∈Z++[(k:Int)]:=List.mem_append.2 (.inr List.mem_cons_self);rw[XH h,decide_eq_true this]
  ·rw[if_neg e,XH hj];have:((j:Int)∈Z)↔((j:Int)∈Z++[(k:Int)]):=by
    rw[List.mem_append,List.mem_singleton];exact⟨.inl,fun q=>q.elim id fun q=>absurd (by omega) e⟩
   rw[decide_eq_decide.2 this]
 ·rw[List.getElem?_eq_none (by rw[XG]; omega),if_neg (by omega),List.getElem?_eq_none (by rw[XG]; omega)]
theorem AU{Z:List Int}(h1:1≤Z.length)(h2:Z.length≤32):Ud 8192 100 100 (sR Z) 0 50 0 qd=(one (sR Z) 0 0 0 50 [ZA (sR Z)] [],0):=by
 obtain⟨hE,_,hw,_⟩:=su h1 h2;rw[o7 (N:=8192) (s:=sR Z) (S:=qd) (now:=0) (l:=50) rfl (show Vm 100 100 0 50=50 from by decide) (by decide) (fun i hi=>absurd (show(none:Option It)=some i from hi) (by simp)),iW (by decide) (by decide)];exact ow hE hw rfl
theorem fH{Z:List Int}(h2:Z.length≤32):(Zj (sR Z)).rrs.length≤32∧∀r∈(Zj (sR Z)).rrs,r.d.length<2 ^ 40:=by
 rw[fG];refine⟨by rw[List.length_map]; exact h2,fun r hr=>?_⟩;obtain⟨z,_,rfl⟩:=List.mem_map.1 hr;show 4<_;decide
end Go.Proofs.YtekgciopamkjlaaGreat