/- slices.Compact of numbers. -/
import Derived.Test.YtekgciopamkjlaaGreatCaG
namespace Go.Proofs.YtekgciopamkjlaaGreat
open Go.Xs
open Enc (enc)
theorem lD{M:List Int}{i:Nat}(h:i<M.length):(cells M).toArray.toList[i]?=some (.int .i64 M[i]):=by
 have:=uf M i 0 h (by decide);rw[show Enc.k Int=1 from rfl,Nat.mul_one] at this;exact this
theorem X9(x:Int):∀(l:List Int) (a:Int),Xt a (l++[x])=if(a::l).getLast?=some x then Xt a l else Xt a l++[x]
 | [],a=>by
  show(if x=a then [] else x::[])=_;by_cases h:x=a
  ·rw[if_pos h,if_pos (by rw[h]; rfl)]; rfl
  ·rw[if_neg h,if_neg (by simpa using fun q=>h q.symm)]; rfl
 | b::l,a=>by
  have e:(a::b::l).getLast?=(b::l).getLast?:=by simp[List.getLast?_cons]
  rw[e,List.cons_append,Xt,Xt];by_cases h:b=a
  ·rw[if_pos h,if_pos h,h,X9 x l a]
  ·rw[if_neg h,if_neg h,X9 x l b];split<;>rfl
theorem l7{A:List Int}(hA:A≠[])(x:Int):bP (A++[x])=if A.getLast?=some x then bP A else bP A++[x]:=by
 cases A with
 | nil=>exact absurd rfl hA
 | cons a l=>
  show a::Xt a (l++[x])=_;rw[X9];split<;>rfl
theorem Jb{L:List Int}{k:Nat}(h1:1≤k)(hk:k<L.length):bP (L.take (k+1))=if L[k]=L[k-1] then bP (L.take k) else bP (L.take k)++[L[k]]:=by
 have hne:L.take k≠[]:=by
  intro q;have:=congrArg List.length q;rw[List.length_take,List.length_nil] at this;omega
 rw[List.take_succ_eq_append_getElem hk,l7 hne];have:(L.take k).getLast?=some L[k-1]:=by
  rw[List.getLast?_eq_getElem?,List.length_take,Nat.min_eq_left (by omega),List.getElem?_take_of_lt (by omega),List.getElem?_eq_getElem (by omega)]
 rw[this];by_cases h:L[k]=L[k-1]
 ·rw[if_pos (by rw[h]),if_pos h]
 ·rw[if_neg (fun q=>h (Option.some.inj q).symm),if_neg h]
set_option maxRecDepth 10000 in
set_option maxHeartbeats 4000000 in
theorem KO(m:Nat)(hm:m<2 ^ 30):je m:=fun {v L H} hL hl=>by
 by_cases h2:L.length≤1
 ·exact ay hL h2
 refine Tri.forget (zn Tryz.tC (Nat.le_of_ble_eq_true rfl) ?_);unfold Tryz.Am;obtain⟨a,c,rfl⟩:=hL.isSlice;obtain⟨b,sp,fz,hz,rfl,_,rfl,rfl⟩:=hL.at' (by intro h; rw[h] at h2; exact h2 (Nat.zero_le _));have hrow:∀{N:List Int} {i:Nat} {x:Int},N[i]?=some x→(cells N).toArray.toList[0+i*1]?=some (.int .i64 x):=fun {N i x} h=>by
  obtain⟨hi,rfl⟩:=List.getElem?_eq_some_iff.1 h;rw[show 0+i*1=i from by omega];exact lD hi
 have hML:∀i (hi:i<L.length),(L++sp)[i]?=some L[i]:=fun i hi=>by rw[List.getElem?_append_left hi,List.getElem?_eq_getElem hi]
 refine ze (z8 (yp pC (zf (za (ze (ze (z8 (yp (pS rfl) (yp (Zz rfl) (yp (ZL rfl rfl) (zf (za ?_))))))))))));rw[decide_eq_false (show ¬(L.length:Int)<2 from by omega)];refine zw rfl (zq (za (ze (ze (z8 (yp pC (zf (za (zo ?_)))))))));refine Z4 (σ:=Nat) (fun k E S'=>Has E [(0,.slice (some ⟨b,0,none⟩) L.length (L.length+sp.length)),(3,.int .i64 (k:Int))]∧1≤k∧k≤L.length∧bP (L.take k)=L.take k∧zG S' [[(b,.cells (cells (L++sp)).toArray 3 fz)]]) (fun k=>L.length-k) 1 ⟨⟨rfl,rfl,trivial⟩,Nat.le_refl _,by omega,by
  match L,h2 with
  | x::y::l,_=>rfl
  | [x],h=>exact absurd (Nat.le_refl 1) h
  | [],h=>exact absurd (Nat.zero_le 1) h,.of⟩ fun k E S' ⟨hE,hk1,hk,hcp,hJ⟩=>?_
 obtain⟨E0,e0⟩:=zl hE; subst e0; clear hE;refine zm hJ (ze (ze (z8 (yp (pI rfl) (yp (pS rfl) (yp (Zz rfl) (yp (ZL rfl rfl) (zf (za ?_)))))))));refine zO rfl (fun h=>?_) (fun h=>?_)
 ·have hlt:k<L.length:=by omega
  have hct:=Jb hk1 hlt;have r1:=hrow (hML k hlt);have r2:=hrow (hML (k-1) (by omega));refine zq (za (ze (zo (ze (zY (zi (pS rfl) (zi (pI rfl) (zi (zN rfl rfl (by omega)) (Zd rfl r1 (zi (pS rfl) (zi (pI rfl) (zi (Zq rfl rfl (by omega)) (zi (zN rfl rfl (by omega)) (Zd rfl r2 (zi (WB rfl rfl) (zD (za ?_)))))))))))))))));by_cases hq:L[k]=L[k-1]
  ·rw[if_pos hq,hcp] at hct;rw[decide_eq_true hq];refine zI rfl (ze (z8 (yp (pS rfl) (yp (pI rfl) (yp (XC (j:=k) rfl rfl (by omega)) ?_)))));rw[if_neg (show ¬L.length+sp.length=k from by omega)];refine yp (pS rfl) (zf (za (ze (ze (z8 (yp pC (zf (za (zo ?_)))))))));refine Z4 (σ:=Nat) (fun k2 E S'=>∃(kk:Nat) (N:List Int),Has E [(0,.slice (some ⟨b,0,none⟩) L.length (L.length+sp.length)),(3,.int .i64 (kk:Int)),(4,.slice (some ⟨b,0+k*1,none⟩) (L.length-k) (L.length+sp.length-k)),(5,.int .i64 (k2:Int))]∧1≤k2∧k+k2≤L.length∧N.length=(L++sp).length∧N.take kk=bP (L.take (k+k2))∧kk+1≤k+k2∧(∀i,k+k2-1≤i→N[i]?=(L++sp)[i]?)∧zG S' [[(b,.cells (cells N).toArray 3 fz)]]) (fun k2=>L.length-k2) 1 ⟨k,L++sp,⟨rfl,rfl,rfl,rfl,trivial⟩,Nat.le_refl _,by omega,rfl,by rw[hct,List.take_append_of_le_length (by omega)],by omega,fun _ _=>rfl,.of⟩ fun k2 E S' ⟨kk,N,hE,hk2,hkl,hNl,hNt,hkk,hNi,hJ⟩=>?_
   have hNl2:N.length=L.length+sp.length:=by rw[hNl,List.length_append]
   obtain⟨E0,e0⟩:=zl hE; subst e0; clear hE;refine zm hJ (ze (ze (z8 (yp (pI rfl) (yp (pS rfl) (yp (Zz rfl) (yp (ZL rfl rfl) (zf (za ?_)))))))));refine zO rfl (fun h3=>?_) (fun h3=>?_)
   ·have hlt2:k+k2<L.length:=by omega
    have hct2:=Jb (L:=L) (k:=k+k2) (by omega) hlt2;have g1:N[k+k2]?=some L[k+k2]:=by rw[hNi _ (by omega)]; exact hML _ hlt2
    have g2:N[k+(k2-1)]?=some L[k+k2-1]:=by
     rw[show k+(k2-1)=k+k2-1 from by omega,hNi _ (Nat.le_refl _)];exact hML _ (by omega)
    have r3:=hrow g1;have r4:=hrow g2;rw[show 0+(k+k2)*1=0+k*1+k2*1 from by omega] at r3;rw[show 0+(k+(k2-1))*1=0+k*1+(k2-1)*1 from by omega] at r4;refine zq (za (ze (zo (ze (zY (zi (pS rfl) (zi (pI rfl) (zi (zN rfl rfl (by omega)) (Zd rfl r3 (zi (pS rfl) (zi (pI rfl) (zi (Zq rfl rfl (by omega)) (zi (zN rfl rfl (by omega)) (Zd rfl r4 (zi (UF rfl rfl) (zD (za ?_)))))))))))))))));by_cases hq2:L[k+k2]=L[k+k2-1]
    ·rw[if_pos hq2] at hct2;rw[decide_eq_true hq2];refine zw rfl (zq (zT (za (z8 (yp (pI rfl) (yp (Za rfl rfl (by omega)) (yp (pI rfl) (zf (za ?_)))))))));exact⟨k2+1,⟨kk,N,⟨rfl,rfl,rfl,rfl,trivial⟩,by omega,by omega,hNl,by rw[hNt, ←hct2]; rfl,by omega,fun i hi=>hNi i (by omega),.of⟩,by omega⟩
    ·rw[if_neg hq2] at hct2;rw[decide_eq_false hq2];have hzN:uQ fz (cells N).length:=by rw[zJ] at hz ⊢; rw[hNl]; exact hz
     have hkN:kk<N.length:=by omega
     have e1:(N.set kk L[k+k2]).take (kk+1)=N.take kk++[L[k+k2]]:=by
      rw[List.take_succ_eq_append_getElem (by rw[List.length_set]; exact hkN),List.getElem_set_self,List.take_set_of_le (Nat.le_refl _)]
     refine zI rfl (ze (z8 (yp (pS rfl) (yp (pI rfl) (yp (pS rfl) (yp (pI rfl) (yp (zN rfl rfl (by omega)) ?_)))))));refine zh (zF rfl r3 ?_);refine yp (zN rfl rfl (by omega)) ?_;refine zh (Z7 (M:=N) (i:=kk) (y:=L[k+k2]) rfl hkN rfl rfl hzN ?_);refine zf (za (z8 (yp (pI rfl) (yp (Za rfl rfl (by omega)) (yp (pI rfl) (zf (zT (za (z8 (yp (pI rfl) (yp (Za rfl rfl (by omega)) (yp (pI rfl) (zf (za ?_))))))))))))));exact⟨k2+1,⟨kk+1,N.set kk L[k+k2],⟨rfl,rfl,rfl,rfl,trivial⟩,by omega,by omega,by rw[List.length_set]; exact hNl,by rw[e1,hNt, ←hct2]; rfl,by omega,fun i hi=>by rw[List.getElem?_set_ne (by omega)]; exact hNi i (by omega),.of⟩,by omega⟩
   ·obtain rfl:k2=L.length-k:=by omega
    have hkc:k+(L.length-k)=L.length:=by omega
    rw[hkc,List.take_length] at hNt;rw[hkc] at hkk;have hNn:N.take kk++(List.replicate (L.length-kk) 0++N.drop L.length)=N.take kk++List.replicate (L.length-kk) 0++N.drop L.length:=by rw[List.append_assoc]
    refine zV (zy (zy (zW (za (ze (z8 (yp (pS rfl) (yp (pI rfl) (yp (XC (j:=kk) rfl rfl (by omega)) ?_)))))))));rw[if_neg (show ¬L.length+sp.length=kk from by omega)];have hsz:(cells N).toArray.size=L.length+sp.length:=by
     rw[List.size_toArray,zJ,show Enc.k Int=1 from rfl,Nat.mul_one]; exact hNl2
    have hcl:(cells (List.replicate (L.length-kk) (0:Int))).length=L.length-kk:=by rw[zJ,List.length_replicate,show Enc.k Int=1 from rfl,Nat.mul_one]
    have hcN:(cells N).length=L.length+sp.length:=by rw[zJ,show Enc.k Int=1 from rfl,Nat.mul_one]; exact hNl2
    refine zh (Af rfl (0:Int) rfl (by rw[hsz,show Enc.k Int=1 from rfl]; omega) (by rw[List.size_toArray]; rw[zJ] at hz ⊢; rw[hNl]; exact hz) ?_);have hset:Zr (cells N).toArray.toList (0+kk*1) (cells (List.replicate (L.length-kk) (0:Int)))=cells (N.take kk++(List.replicate (L.length-kk) 0++N.drop L.length)):=by
     show Zr (cells N) _ _=_;rw[Wp _ _ _ (by rw[hcl,hcN]; omega),hcl,Wj,Wj];rw[show 0+kk*1=kk*Enc.k Int from by rw[show Enc.k Int=1 from rfl]; omega, ←WA,show kk*Enc.k Int+(L.length-kk)=L.length*Enc.k Int from by rw[show Enc.k Int=1 from rfl]; omega,wZ,List.append_assoc]
    rw[hset];refine zf (za (ze (z8 (yp (pS rfl) (yp (pI rfl) ?_)))));have hlk:(N.take kk).length=kk:=by rw[List.length_take]; omega
    have hld:(List.replicate (L.length-kk) 0++N.drop L.length).length=L.length-kk+sp.length:=by rw[List.length_append,List.length_replicate,List.length_drop]; omega
    have hS:=Zf.row (ty:=3) (b:=b) (L:=N.take kk) (sp:=List.replicate (L.length-kk) 0++N.drop L.length) (fz:=fz) (by
     rw[zJ,List.length_append,hlk,hld];rw[zJ,List.length_append] at hz;rw[show kk+(L.length-kk+sp.length)=L.length+sp.length from by omega]; exact hz)
    rw[hlk,hld,show kk+(L.length-kk+sp.length)=L.length+sp.length from by omega,hNt] at hS;refine yp (QB (j:=kk) rfl rfl (by omega)) (yp (pS rfl) (zf (za (zL (bret (zX (zX (bret (zX ?_)))))))));exact zK (res1 rfl) ⟨[[(b,.cells (cells (N.take kk++(List.replicate (L.length-kk) 0++N.drop L.length))).toArray 3 fz)]],.of,_,hS,by rw[hNt]⟩
  ·rw[if_neg hq,hcp] at hct;rw[decide_eq_false hq];refine zw rfl (zq (zT (za (z8 (yp (pI rfl) (yp (Za rfl rfl (by omega)) (yp (pI rfl) (zf (za ?_)))))))));exact⟨k+1,⟨⟨rfl,rfl,trivial⟩,by omega,by omega,by rw[hct, ←List.take_succ_eq_append_getElem hlt],.of⟩,by omega⟩
 ·obtain rfl:k=L.length:=by omega
  rw[List.take_length] at hcp;refine zV (zy (zy (zW (za (ze (z8 (yp (pS rfl) (yp (pS rfl) (zf (za (zL ?_)))))))))));exact zK (res1 rfl) ⟨_,.of,_,by rw[hcp]; exact hL,rfl⟩
end Go.Proofs.YtekgciopamkjlaaGreat