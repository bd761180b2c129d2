/- StoreItems: the walk. -/
import Derived.Test.YtejmbmenbailmaaGreatAwakeS
import Derived.Test.YtejmbmenbailmaaGreatItemsP
import Derived.Test.YtejmbmenbailmaaGreatAlk
namespace Go.Proofs.YtejmbmenbailmaaGreat
open Go.Xs
open Enc (enc)
/-- the names -/
abbrev X7:List ByteArray:=[sb (nB 0),sb (nB 1),sb (nB 2)]
theorem yO{q:Nat}(h:q<3):(cells X7).toArray.toList[0+q*1]?=some (sv (nB q)):=by
 have:q=0∨q=1∨q=2:=by omega
 rcases this with rfl | rfl | rfl<;>rfl
def XV(la:Nat→Nat):List Int:=(List.range 6).map fun j=>(la j:Int)
theorem Ui(la:Nat→Nat):(XV la).length=6:=by unfold XV; rw[List.length_map,List.length_range]
theorem KI{la:Nat→Nat}{k:Nat}(h:k<6):(cells (XV la)).toArray.toList[0+k*1]?=some (.int .i64 (la k:Int)):=by
 have:=ZC (L:=XV la) (sp:=[]) (i:=k) (j:=0) (kk:=1) (by rw[Ui]; exact h) rfl (by decide);rw[List.append_nil] at this;refine Eq.trans this ?_;unfold XV;rw[List.getElem_map,List.getElem_range]; rfl
theorem QG{la:Nat→Nat}{k m:Nat}(h:k<6):(XV la).set k (m:Int)=XV (WC la k m):=by
 refine List.ext_getElem? fun j=>?_
 rw[List.getElem?_set];rcases Nat.lt_or_ge j 6 with hj | hj
 ·have e1:(XV (WC la k m))[j]?=some ((WC la k m j:Nat):Int):=by unfold XV; rw[List.getElem?_map,List.getElem?_range hj]; rfl
  rw[e1];by_cases hjk:k=j
  ·rw[if_pos hjk,if_pos (by rw[Ui]; omega),show WC la k m j=m from if_pos hjk.symm]
  ·rw[if_neg hjk,show WC la k m j=la j from if_neg (fun e=>hjk e.symm)];unfold XV;rw[List.getElem?_map,List.getElem?_range hj]; rfl
 ·rw[if_neg (by omega),List.getElem?_eq_none (by rw[Ui]; omega),List.getElem?_eq_none (by rw[Ui]; omega)]
def U3(la:Nat→Nat)(n:Nat):Nat:=((List.range n).filter fun k=>decide (la k≠0)).length
theorem kW(la:Nat→Nat)(n:Nat):U3 la (n+1)=U3 la n+if la n=0 then 0 else 1:=by
 unfold U3;rw[List.range_succ,List.filter_append,List.length_append,List.filter_cons,List.filter_nil];by_cases h:la n=0
 ·rw[if_pos h,if_neg (by rw[decide_eq_false (fun q=>q h)]; decide)]; rfl
 ·rw[if_neg h,if_pos (decide_eq_true h)]; rfl
theorem pE{la:Nat→Nat}{n k:Nat}(hk:k<n)(h0:la k≠0):∃hl:U3 la k<((List.range n).filter fun k=>decide (la k≠0)).length,((List.range n).filter fun k=>decide (la k≠0))[U3 la k]=k:=by
 induction n with
 | zero=>omega
 | succ n ih=>
  have e:(List.range (n+1)).filter (fun k=>decide (la k≠0))=(List.range n).filter (fun k=>decide (la k≠0))++if la n=0 then [] else [n]:=by
   rw[List.range_succ,List.filter_append,List.filter_cons,List.filter_nil];by_cases h:la n=0
   ·rw[if_pos h,if_neg (by rw[decide_eq_false (fun q=>q h)]; decide)]
   ·rw[if_neg h,if_pos (decide_eq_true h)]
  by_cases hkn:k=n
  ·subst hkn;have hl:U3 la k<((List.range (k+1)).filter fun k=>decide (la k≠0)).length:=by
    rw[e,if_neg h0,List.length_append];show U3 la k<U3 la k+1;omega
   refine⟨hl,?_⟩;have:((List.range (k+1)).filter fun k=>decide (la k≠0))[U3 la k]?=some k:=by
    unfold U3;rw[e,if_neg h0,List.getElem?_append_right (Nat.le_refl _),Nat.sub_self]; rfl
   exact(List.getElem?_eq_some_iff.1 this).2
  ·obtain⟨hl,he⟩:=ih (by omega);have h2:((List.range (n+1)).filter fun k=>decide (la k≠0))[U3 la k]?=some k:=by
    rw[e,List.getElem?_append_left hl,List.getElem?_eq_getElem hl,he]
   exact List.getElem?_eq_some_iff.1 h2
theorem Et(k m:Nat)(v:Value):bW (Xx k m) v= #[sv (nB (k/2)),.int .i64 (tB k),v,.int .i64 0,sv [0],.int .i64 (((m:Int)-1).tmod 10),.int .i64 ((m:Int)-1),.int .i64 (99+(m:Int)),.int .i64 0]:=by
 have h:=(uh k (vV ((m:Int)-1))).2.2.2.2.2;have h:Zo (Xx k m).s=(Xx k m).s:=h;show #[sv (Zo (Xx k m).s).name,.int .i64 (Zo (Xx k m).s).typ,v,.int .i64 (Zo (Xx k m).s).kind,sv (Zo (Xx k m).s).zone,.int .i64 (Xx k m).rank,.int .i64 (Xx k m).came,.int .i64 (Xx k m).exp,.int .i64 (Xx k m).pins]=_;rw[h]; rfl
theorem rT(k m:Nat):(Zo (Xx k m).s).rrs=[⟨nB (k/2),tB k,1,0,[vV ((m:Int)-1)]⟩]:=by
 have h:=(uh k (vV ((m:Int)-1))).2.2.2.2.2;have h:Zo (Xx k m).s=(Xx k m).s:=h;rw[h]; rfl
set_option maxRecDepth 10000 in
set_option maxHeartbeats 16000000 in
theorem c9{S:zu}(stop:Int){v:Value}{X:List Int}(hX:Src S v X)(_hm:X.length≤maxLen)(_hq:∀a∈X, -9223372036854775808≤a∧a≤9223372036854775807):
 Tri Tryz.prog 9 #[v,.int .i64 stop] S (fun r S'=>r= .bool true∧S'=S):=by
 refine Tri.forget (zm Tryz.O9 (Nat.le_of_ble_eq_true rfl) ?_);unfold Tryz.x9;obtain⟨xa,xc,rfl⟩:=hX.isSlice;refine ze (z8 ?_);refine zh (bS (um rfl) fun p3=>?_);refine zh (Z9 fun p4=>?_);refine zf (za (ze (ze (z8 (yp (pS rfl) (yp (ZB rfl) (yp (uq rfl rfl) (zf (za ?_)))))))));by_cases c1:(12:Int)<(X.length:Int)
 ·rw[decide_eq_true c1];refine zH rfl (ze (z8 ?_));refine zh (zk y7 rfl rfl fun r S' h=>?_);obtain⟨rfl,rfl⟩:=h;refine zh (Zn rfl rfl (lT rfl) ?_);refine zf (za (zJ (zU ?_)));exact zI (UZ (rR (b:=p4) qR rfl)) ⟨_,.of,rfl,rfl⟩
 rw[decide_eq_false c1];refine zA rfl (zw (za (ze (z8 ?_))));refine zh (zk (rM (n:=16384) (by decide) rfl) rfl rfl fun r S' h=>?_);obtain⟨sb_,H0,rfl,hS0,rfl⟩:=h;refine yp (pU rfl) (yp (pExt rfl rfl) (yp (pExt rfl rfl) (yp (pP rfl) (yp (pI rfl) (zf (za (ze (ze (z8 (yp (pI rfl) (yp (xk rfl rfl) (yp (pB rfl) (Z5 rfl (Zd (pP rfl) (Z5 rfl (Zd (ZW rfl rfl) (yp (zR rfl rfl) (zf (za (zA rfl (zw (za (ze (z8 ?_))))))))))))))))))))))));refine zh (dx (l:=cells X7) rfl (by decide) (by decide) (by decide) rfl fun p31=>?_);refine zh (Z9 fun p7=>?_);refine zh (Zn rfl rfl (Yx rfl) ?_);refine zf (za (ze (z8 ?_)));refine zh (Z9 fun p8=>?_);refine zf (za (ze (z8 (yp pC (zf (za (ze (ze (z8 (yp pC (zf (za (zq ?_)))))))))))));have hla0:([.int .i64 0,.int .i64 0,.int .i64 0,.int .i64 0,.int .i64 0,.int .i64 0]:List Value)=cells (XV fun _=>0):=rfl;rw[hla0];refine Z6 (σ:=Nat) (fun i E S'=>∃(la:Nat→Nat) (S1:Ss) (H1:List Chunk),Has E [(0,.slice xa X.length xc),(3,.pointer (some ⟨p3,0,none⟩)),(4,.pointer (some ⟨p4,0,none⟩)),(5,.pointer (some ⟨sb_,0,none⟩)),(7,.pointer (some ⟨p7,0,none⟩)),(8,.pointer (some ⟨p8,0,none⟩)),(9,.int .i64 (S1.I.length:Nat)),(10,.int .i64 (i:Int))]∧i≤X.length∧(∀j,la j≤i)∧Sr sb_ 16384 S1 H1∧Yq la S1∧
  zD S' ([(p8,.cells (cells (XV la)).toArray 86)]::[(p7,.cells #[.slice (some ⟨p31,0,none⟩) 3 3] 85)]::[(p31,.cells (cells X7).toArray 9)]::H1::[(p4,.cells #[.bool false] 4)]::[(p3,.cells #[.int .i64 stop] 3)]::S)) (fun i=>X.length-i) 0
  ⟨fun _=>0,nY,H0,⟨rfl,rfl,rfl,rfl,rfl,rfl,rfl,rfl,trivial⟩,Nat.zero_le _,(fun _=>Nat.le_refl 0),hS0,Yq.nil,.of⟩ fun i E S' ⟨la,S1,H1,hE,hi,hlb,hS1,hI,hJ⟩=>?_
 clear hS0;obtain⟨E0,e0⟩:=zy hE; subst e0; clear hE;refine zn hJ ?_;have hl6:=hI.Ef;refine ze (ze (z8 (yp (pI rfl) (yp (pS rfl) (yp (ZB rfl) (yp (ZO rfl rfl) (zf (za ?_))))))));refine zQ rfl (fun h=>?_) (fun h=>?_)
 ·have hlt:i<X.length:=by omega
  have hi12:i<12:=by omega
  obtain⟨b,o,ca,ty,fz,rfl,hm',hmem,hg⟩:=hX.get (by intro h; simp[h] at hlt);have hg0:=hg.1 i 0 hlt (by decide);refine zw (za (ze (zq (ze (z8 (yp (pS rfl) (yp (pI rfl) (yp (zT rfl rfl (by omega)) ?_))))))));refine zh (xQ (show _∈_ from by repeat (first | exact hmem | apply List.mem_cons_of_mem)) rfl hg0 ?_);refine zh (zk (Bu X[i] 6 (by decide)) rfl rfl fun r S' h=>?_);obtain⟨rfl,rfl⟩:=h;have hrl:=eP X[i] 6 (by decide);obtain⟨k,hk⟩:∃k:Nat,round X[i] 6=(k:Int):=⟨(round X[i] 6).toNat,by omega⟩
  have hk6:k<6:=by omega
  rw[hk];refine yp (pI rfl) (zf (za ?_));refine WQ (fun E S'=>∃pb p65,Has E [(0,.slice (some ⟨b,o,none⟩) X.length xc),(3,.pointer (some ⟨p3,0,none⟩)),(4,.pointer (some ⟨p4,0,none⟩)),(5,.pointer (some ⟨sb_,0,none⟩)),(7,.pointer (some ⟨p7,0,none⟩)),(8,.pointer (some ⟨p8,0,none⟩)),(9,.int .i64 (S1.I.length:Nat)),(10,.int .i64 (i:Int)),(11,.int .i64 (k:Int)),(12,.pointer (some ⟨pb,0,none⟩))]∧zD S' ([(pb,.cells (YE (wP k (vV (i:Int))) (.slice (some ⟨p65,0,none⟩) 1 1)) 46)]::[(p65,.cells (cells [(⟨nB (k/2),tB k,1,0,[vV (i:Int)]⟩:RR)]).toArray 88)]::[(p8,.cells (cells (XV la)).toArray 86)]::[(p7,.cells #[.slice (some ⟨p31,0,none⟩) 3 3] 85)]::[(p31,.cells (cells X7).toArray 9)]::H1::[(p4,.cells #[.bool false] 4)]::[(p3,.cells #[.int .i64 stop] 3)]::S)) ?_ fun E S' ⟨pb,p65,hE,hJ⟩=>?_
  ·have hrem:0≤(k:Int).tmod 2∧(k:Int).tmod 2≤1:=by rw[show(k:Int).tmod 2=((k%2:Nat):Int) from rfl]; omega
   refine Vg (R:=[[(p7,.cells #[.slice (some ⟨p31,0,none⟩) 3 3] 85)],[(p31,.cells (cells X7).toArray 9)]]) (by simp) (zV rfl rfl (zi (pI rfl) (zi (fP rfl rfl (by decide) (by omega)) ?_)));rw[show(k:Int).tdiv 2=((k/2:Nat):Int) from rfl];refine zi (zT rfl rfl (by omega)) (zV rfl (yO (q:=k/2) (by omega)) (zi (pI rfl) (zi (q8 rfl rfl (by decide)) (zi (WT rfl rfl (by omega)) (zi (uw (rQ rfl) (um rfl)) (zV rfl rfl (zi (pI rfl) (zi (fP rfl rfl (by decide) (by omega)) ?_))))))));rw[show(k:Int).tdiv 2=((k/2:Nat):Int) from rfl];refine zi (zT rfl rfl (by omega)) (zV rfl (yO (q:=k/2) (by omega)) (zi (pI rfl) (zi (q8 rfl rfl (by decide)) (zi (WT rfl rfl (by omega)) (zi (pI rfl) (zi (kC rfl) ?_))))));refine Zb (wL (vV (i:Int)) rfl rfl (by decide) (by decide) rfl fun p62=>⟨by simp,?_⟩) ?_
   ·refine Zb (YA (Y:=[vV (i:Int)]) rfl (.lit (by repeat (first | exact List.mem_cons_self | apply List.mem_cons_of_mem)) rfl) ⟨by simp,?_⟩) ?_
    ·refine zi (v:= .agg #[sv (nB (k/2)),.int .i64 (tB k),.int .i64 1,.int .i64 0,sv [vV (i:Int)]]) rfl ?_;refine Zb (wL (⟨nB (k/2),tB k,1,0,[vV (i:Int)]⟩:RR) rfl rfl (by decide) (by decide) rfl fun p65=>⟨by simp,?_⟩) ?_
     ·refine zi (v:= .agg (YE (wP k (vV (i:Int))) (.slice (some ⟨p65,0,none⟩) 1 1))) rfl ?_;refine Zb (Z9 fun p12=>⟨by simp,?_⟩) zN;refine zO (Wm (c':=(YE (wP k (vV (i:Int))) (.slice (some ⟨p65,0,none⟩) 1 1)).toList) rfl rfl rfl rfl rfl ?_) zN;refine zL (za ?_);exact⟨p12,p65,⟨rfl,rfl,rfl,rfl,rfl,rfl,rfl,rfl,rfl,rfl,trivial⟩,.of⟩
     ·refine Zb (Z9 fun p12=>⟨by simp,?_⟩) zN;refine Zb (wL (⟨nB (k/2),tB k,1,0,[vV (i:Int)]⟩:RR) rfl rfl (by decide) (by decide) rfl fun p65=>⟨by simp,?_⟩) zN;refine zi (v:= .agg (YE (wP k (vV (i:Int))) (.slice (some ⟨p65,0,none⟩) 1 1))) rfl ?_;refine zO (Wm (c':=(YE (wP k (vV (i:Int))) (.slice (some ⟨p65,0,none⟩) 1 1)).toList) rfl rfl rfl rfl rfl ?_) zN;refine zL (za ?_);exact⟨p12,p65,⟨rfl,rfl,rfl,rfl,rfl,rfl,rfl,rfl,rfl,rfl,trivial⟩,.of⟩
    ·refine Zb (Z9 fun p12=>⟨by simp,?_⟩) zN;refine Zb (YA (Y:=[vV (i:Int)]) rfl (.lit (by repeat (first | exact List.mem_cons_self | apply List.mem_cons_of_mem)) rfl) ⟨by simp,?_⟩) zN;refine zi (v:= .agg #[sv (nB (k/2)),.int .i64 (tB k),.int .i64 1,.int .i64 0,sv [vV (i:Int)]]) rfl ?_;refine Zb (wL (⟨nB (k/2),tB k,1,0,[vV (i:Int)]⟩:RR) rfl rfl (by decide) (by decide) rfl fun p65=>⟨by simp,?_⟩) zN;refine zi (v:= .agg (YE (wP k (vV (i:Int))) (.slice (some ⟨p65,0,none⟩) 1 1))) rfl ?_;refine zO (Wm (c':=(YE (wP k (vV (i:Int))) (.slice (some ⟨p65,0,none⟩) 1 1)).toList) rfl rfl rfl rfl rfl ?_) zN;refine zL (za ?_);exact⟨p12,p65,⟨rfl,rfl,rfl,rfl,rfl,rfl,rfl,rfl,rfl,rfl,trivial⟩,.of⟩
   ·refine Zb (Z9 fun p12=>⟨by simp,?_⟩) zN;refine Zb (wL (vV (i:Int)) rfl rfl (by decide) (by decide) rfl fun p62=>⟨by simp,?_⟩) zN;refine Zb (YA (Y:=[vV (i:Int)]) rfl (.lit (by repeat (first | exact List.mem_cons_self | apply List.mem_cons_of_mem)) rfl) ⟨by simp,?_⟩) zN;refine zi (v:= .agg #[sv (nB (k/2)),.int .i64 (tB k),.int .i64 1,.int .i64 0,sv [vV (i:Int)]]) rfl ?_;refine Zb (wL (⟨nB (k/2),tB k,1,0,[vV (i:Int)]⟩:RR) rfl rfl (by decide) (by decide) rfl fun p65=>⟨by simp,?_⟩) zN;refine zi (v:= .agg (YE (wP k (vV (i:Int))) (.slice (some ⟨p65,0,none⟩) 1 1))) rfl ?_;refine zO (Wm (c':=(YE (wP k (vV (i:Int))) (.slice (some ⟨p65,0,none⟩) 1 1)).toList) rfl rfl rfl rfl rfl ?_) zN;refine zL (za ?_);exact⟨p12,p65,⟨rfl,rfl,rfl,rfl,rfl,rfl,rfl,rfl,rfl,rfl,trivial⟩,.of⟩
  obtain⟨E0,e0⟩:=zy hE; subst e0; clear hE;refine zn hJ ?_;have hsB:=uh k (vV (i:Int));have hSl:Za 88 (.slice (some ⟨p65,0,none⟩) 1 1) (wP k (vV (i:Int))).rrs [(p65,.cells (cells [(⟨nB (k/2),tB k,1,0,[vV (i:Int)]⟩:RR)]).toArray 88)]:= .full (L:=[(⟨nB (k/2),tB k,1,0,[vV (i:Int)]⟩:RR)]) rfl;have hlk:=hI.Xl hk6;have hil:=hI.len;generalize hRe:uV 16384 (wP k (vV (i:Int))) ((i:Int).tmod 10) (i:Int) (100+(i:Int)) S1=R2;obtain⟨hR0,hI2⟩:=hI.put hk6 (by omega) hRe;refine ze (ze (z8 (yp (pP rfl) ?_)));refine zh (Zx rfl rfl ?_);refine yp (pI rfl) (yp (q8 rfl rfl (by decide)) (yp (pI rfl) (yp (pI rfl) (yp (WT rfl rfl (by omega)) ?_))));refine zh (zk (dZ (S0:=[[(p65,.cells (cells [(⟨nB (k/2),tB k,1,0,[vV (i:Int)]⟩:RR)]).toArray 88)]]) hS1 hsB.2.2.2.1 (hSl.src (by simp)) (by rw[hI.v,List.length_nil]; omega) ((i:Int).tmod 10) (i:Int) (100+(i:Int))) rfl rfl fun r S' h=>?_);rw[hRe] at h;obtain⟨rfl,H2,hS2,rfl⟩:=h;rw[hR0];clear hS1 hRe;have hil2:=hI2.len;generalize R2.1=S2 at*
  refine yp (xk rfl rfl) (zf (za (zA rfl (zw (za (ze (ze (z8 (yp (pI rfl) (yp (nS (k:=(k:Int)) (len:=6) rfl rfl (by omega)) ?_))))))))));rw[show 0+(k:Int).toNat*1=0+k*1 from rfl];refine zh (zx rfl (KI hk6) ?_);refine yp (WL rfl rfl) (zf (za ?_));have hcnt:((List.range 6).filter fun j=>decide (WC la k (i+1) j≠0)).length=((List.range 6).filter fun j=>decide (la j≠0)).length+if la k=0 then 1 else 0:=by
   have:∀k,k<6→∀f:Nat→Bool,((List.range 6).filter fun j=>if j=k then true else f j).length=((List.range 6).filter f).length+if f k=false then 1 else 0:=by
    intro k hk f;have hr:List.range 6=[0,1,2,3,4,5]:=rfl;have hk:k=0∨k=1∨k=2∨k=3∨k=4∨k=5:=by omega
    rw[hr];rcases hk with rfl | rfl | rfl | rfl | rfl | rfl<;>simp only[List.filter_cons,List.filter_nil]<;>cases f 0<;>cases f 1<;>cases f 2<;>cases f 3<;>cases f 4<;>cases f 5<;>rfl
   have h2:=this k hk6 fun j=>decide (la j≠0)
   have e:((List.range 6).filter fun j=>decide (WC la k (i+1) j≠0))=((List.range 6).filter fun j=>if j=k then true else decide (la j≠0)):=by
    refine List.filter_congr fun j _=>?_
    by_cases hj:j=k
    ·rw[if_pos hj,show WC la k (i+1) j=i+1 from if_pos hj,decide_eq_true (by omega)]
    ·rw[if_neg hj,show WC la k (i+1) j=la j from if_neg hj]
   rw[e,h2];congr 1;by_cases h0:la k=0
   ·rw[if_pos h0,if_pos (by rw[decide_eq_false (fun q=>q h0)])]
   ·rw[if_neg h0,if_neg (by rw[decide_eq_true h0]; decide)]
  by_cases h0:la k=0
  ·rw[decide_eq_true (show(la k:Int)=0 from by omega)];rw[if_pos h0] at hcnt;refine zH rfl (z8 (yp (pI rfl) (yp (Zg rfl rfl (by omega)) (yp (pI rfl) (zf (za (z8 (yp (pI rfl) (yp (pI rfl) (yp (Zg rfl rfl (by omega)) (yp (nS (k:=(k:Int)) (len:=6) rfl rfl (by omega)) ?_)))))))))));rw[show 0+(k:Int).toNat*1=0+k*1 from rfl];refine zh (Zh (M:=XV la) (y:=((i+1:Nat):Int)) rfl (by rw[Ui]; exact hk6) rfl rfl (.inl rfl) ?_);rw[QG hk6];refine zf (zS (za (z8 (yp (pI rfl) (yp (Zg rfl rfl (by omega)) (yp (pI rfl) (zf (za ?_))))))));refine⟨i+1,⟨WC la k (i+1),S2,H2,⟨rfl,rfl,rfl,rfl,rfl,rfl,?_,rfl,trivial⟩,by omega,(fun j=>by
    show(if j=k then i+1 else la j)≤i+1;have:=hlb j;split<;>omega),hS2,hI2,.of⟩,by omega⟩
   show Value.int .i64 _=Value.int .i64 _;congr 1; omega
  ·rw[decide_eq_false (show ¬(la k:Int)=0 from by omega)];rw[if_neg h0] at hcnt;refine zA rfl (zw (za (z8 (yp (pI rfl) (yp (pI rfl) (yp (Zg rfl rfl (by omega)) (yp (nS (k:=(k:Int)) (len:=6) rfl rfl (by omega)) ?_)))))));rw[show 0+(k:Int).toNat*1=0+k*1 from rfl];refine zh (Zh (M:=XV la) (y:=((i+1:Nat):Int)) rfl (by rw[Ui]; exact hk6) rfl rfl (.inl rfl) ?_);rw[QG hk6];refine zf (zS (za (z8 (yp (pI rfl) (yp (Zg rfl rfl (by omega)) (yp (pI rfl) (zf (za ?_))))))));refine⟨i+1,⟨WC la k (i+1),S2,H2,⟨rfl,rfl,rfl,rfl,rfl,rfl,?_,rfl,trivial⟩,by omega,(fun j=>by
    show(if j=k then i+1 else la j)≤i+1;have:=hlb j;split<;>omega),hS2,hI2,.of⟩,by omega⟩
   show Value.int .i64 _=Value.int .i64 _;congr 1; omega
 clear hJ;refine zW (zF (zF (zZ (za (ze (z8 (yp (pP rfl) ?_)))))));refine zh (zk mP rfl rfl fun r S' h=>?_);obtain⟨bp,rfl,rfl⟩:=h;have hin:=hI.len;have hcn6:S1.I.length=U3 la 6:=hin;refine yp (pF rfl) (zf (za (ze (ze (z8 (yp (pF rfl) (yp (v:= .bool false) rfl (yp (pB rfl) (Z5 rfl (Zd (pP rfl) (Z5 rfl ?_)))))))))));refine zk (mV hS1) rfl rfl fun r S' h=>?_
 obtain⟨rfl,rfl⟩:=h;refine Z5 rfl (Zd (pI rfl) (Z5 rfl (Zd (xk rfl rfl) (yp (zR rfl rfl) (yp (pB rfl) ?_)))));rw[decide_eq_true (rfl:(S1.I.length:Int)=(S1.I.length:Int))];refine Z5 rfl (Zd (pP rfl) (Z5 rfl ?_));refine zk (xY hS1) rfl rfl fun r S' h=>?_
 obtain⟨H2,HV,hV,hS2,rfl⟩:=h;rw[hI.v] at hV;have hS2:Sr sb_ 16384 ⟨S1.I,S1.P,S1.Q,[]⟩ H2:=hS2;have hI2:Yq la ⟨S1.I,S1.P,S1.Q,[]⟩:=⟨hI.kn,hI.all,hI.has,rfl⟩
 clear hS1 hI;rw[hcn6];generalize (⟨S1.I,S1.P,S1.Q,[]⟩:Ss)=S2 at*
 obtain⟨ea,ec,rfl⟩:=hV.isSlice;refine Z5 rfl (Zd (ZB rfl) (Z5 rfl (Zd (xk rfl rfl) (yp (zR rfl rfl) (zf (za (zA rfl (zw (za (ze (z8 ?_)))))))))));refine zh (Z9 fun p14=>?_);refine zh (Z9 fun p15=>?_);refine zh (Zn rfl rfl (um rfl) ?_);refine zh (Zn rfl rfl (um rfl) ?_);refine zf (za (ze (ze (z8 (yp (pF rfl) (zf (za (zq ?_))))))));refine mg (fun pre T=>∃kk,kk≤6∧U3 la kk=pre.length∧zD T ([(p14,.cells #[.int .i64 (kk:Int)] 3)]::[(p15,.cells #[.int .i64 (pre.length:Int)] 3)]::[(p8,.cells (cells (XV la)).toArray 86)]::[(p7,.cells #[.slice (some ⟨p31,0,none⟩) 3 3] 85)]::[(p31,.cells (cells X7).toArray 9)]::[(p4,.cells #[.bool false] 4)]::[(p3,.cells #[.int .i64 stop] 3)]::S))
  (fun e pre T=>e= .exit 2∧(pre.length:Int)=stop∧∃kk:Nat,zD T ([(p14,.cells #[.int .i64 (kk:Int)] 3)]::[(p15,.cells #[.int .i64 (pre.length:Int)] 3)]::[(p8,.cells (cells (XV la)).toArray 86)]::[(p7,.cells #[.slice (some ⟨p31,0,none⟩) 3 3] 85)]::[(p31,.cells (cells X7).toArray 9)]::[(p4,.cells #[.bool false] 4)]::[(p3,.cells #[.int .i64 stop] 3)]::S))
  rfl rfl (aL (S0:=[(p14,.cells #[.int .i64 ((0:Nat):Int)] 3)]::[(p15,.cells #[.int .i64 ((0:Nat):Int)] 3)]::[(p8,.cells (cells (XV la)).toArray 86)]::[(p7,.cells #[.slice (some ⟨p31,0,none⟩) 3 3] 85)]::[(p31,.cells (cells X7).toArray 9)]::[(p4,.cells #[.bool false] 4)]::[(p3,.cells #[.int .i64 stop] 3)]::S) hS2) ⟨0,by decide,rfl,.of⟩ ?_ ?_ ?_ ?_
 ·rintro pre x X ⟨L,it,v,HR,_,_,_,rfl,_,_⟩;rfl
 ·rintro l pre x X T ⟨L,it,v,HR,hSP,hpl,hb,rfl,hRR,rfl⟩ ⟨kk,hkk,hcn,hJ⟩;have hL:=hI2.sp hSP;obtain⟨va,vc,rfl⟩:=hRR.isSlice;refine zn (S0:=[HR]++([(p14,.cells #[.int .i64 (kk:Int)] 3)]::[(p15,.cells #[.int .i64 (pre.length:Int)] 3)]::[(p8,.cells (cells (XV la)).toArray 86)]::[(p7,.cells #[.slice (some ⟨p31,0,none⟩) 3 3] 85)]::[(p31,.cells (cells X7).toArray 9)]::[(p4,.cells #[.bool false] 4)]::[(p3,.cells #[.int .i64 stop] 3)]::S)) (zD.cons hJ) ?_;have hplc:pre.length<U3 la 6:=by
   have:=congrArg List.length hL;rw[List.length_map] at this;show pre.length<((List.range 6).filter fun k=>decide (la k≠0)).length;omega
  refine z8 ?_;refine zh (Z9 fun p16=>?_);refine zh (vR rfl rfl rfl rfl rfl ?_);refine zf (za (zq (ze (zq ?_))));refine Z6 (σ:=Nat) (fun kk E S'=>Has E [(4,.pointer (some ⟨p4,0,none⟩)),(7,.pointer (some ⟨p7,0,none⟩)),(8,.pointer (some ⟨p8,0,none⟩)),(3,.pointer (some ⟨p3,0,none⟩)),(14,.pointer (some ⟨p14,0,none⟩)),(15,.pointer (some ⟨p15,0,none⟩)),(16,.pointer (some ⟨p16,0,none⟩))]∧kk≤6∧U3 la kk=pre.length∧zD S' ([(p16,.cells (bW it (.slice va (Zo it.s).rrs.length vc)) 76)]::HR::[(p14,.cells #[.int .i64 (kk:Int)] 3)]::[(p15,.cells #[.int .i64 (pre.length:Int)] 3)]::[(p8,.cells (cells (XV la)).toArray 86)]::[(p7,.cells #[.slice (some ⟨p31,0,none⟩) 3 3] 85)]::[(p31,.cells (cells X7).toArray 9)]::[(p4,.cells #[.bool false] 4)]::[(p3,.cells #[.int .i64 stop] 3)]::S)) (fun kk=>6-kk) kk
   ⟨⟨rfl,rfl,rfl,rfl,rfl,rfl,rfl,trivial⟩,hkk,hcn,.of⟩ fun kk E S' ⟨hE,hkk,hcn,hJ⟩=>?_
  obtain⟨E0,e0⟩:=zy hE; subst e0; clear hE;refine ze ?_;refine WQ (fun E S'=>Has E [(4,.pointer (some ⟨p4,0,none⟩)),(7,.pointer (some ⟨p7,0,none⟩)),(8,.pointer (some ⟨p8,0,none⟩)),(3,.pointer (some ⟨p3,0,none⟩)),(14,.pointer (some ⟨p14,0,none⟩)),(15,.pointer (some ⟨p15,0,none⟩)),(16,.pointer (some ⟨p16,0,none⟩)),(111,.bool (decide (kk<6∧la kk=0)))]∧zD S' ([(p16,.cells (bW it (.slice va (Zo it.s).rrs.length vc)) 76)]::HR::[(p14,.cells #[.int .i64 (kk:Int)] 3)]::[(p15,.cells #[.int .i64 (pre.length:Int)] 3)]::[(p8,.cells (cells (XV la)).toArray 86)]::[(p7,.cells #[.slice (some ⟨p31,0,none⟩) 3 3] 85)]::[(p31,.cells (cells X7).toArray 9)]::[(p4,.cells #[.bool false] 4)]::[(p3,.cells #[.int .i64 stop] 3)]::S)) ?_ fun E S' ⟨hE,hJ⟩=>?_
  ·refine zn hJ (z8 ?_);refine zh (zx rfl rfl ?_);refine yp (ZO rfl rfl) (yp (pB rfl) ?_);by_cases h1:kk<6
   ·rw[decide_eq_true (show(kk:Int)<6 from by omega)];refine Z5 rfl ?_;refine(zx rfl rfl ?_);refine Z5 rfl (Zd (nS (k:=(kk:Int)) (len:=6) rfl rfl (by omega)) ?_);rw[show 0+(kk:Int).toNat*1=0+kk*1 from rfl];refine Z5 rfl (zx rfl (KI h1) (Z5 rfl (Zd (WL rfl rfl) (yp (zP rfl rfl) (zf (za ?_))))));refine⟨⟨rfl,rfl,rfl,rfl,rfl,rfl,rfl,?_,trivial⟩,.of⟩;show Value.bool _=Value.bool _;congr 1;rw[decide_eq_decide];omega
   ·rw[decide_eq_false (show ¬(kk:Int)<6 from by omega)];refine Z4 rfl (Z4 rfl (Z4 rfl (Z4 rfl (yp (zR rfl rfl) (zf (za ?_))))));refine⟨⟨rfl,rfl,rfl,rfl,rfl,rfl,rfl,?_,trivial⟩,.of⟩;rw[decide_eq_false (show ¬(kk<6∧la kk=0) from fun h=>h1 h.1)];rfl
  obtain⟨E0,e0⟩:=zy hE; subst e0; clear hE;refine zn hJ ?_;refine zQ rfl (fun h=>?_) (fun h=>?_)
  ·obtain⟨h1,h2⟩:=h;refine zw (za (zq (z8 ?_)));refine zh (zx rfl rfl ?_);refine yp (Zg rfl rfl (by omega)) ?_;refine zh (Zn rfl rfl (um rfl) ?_);refine zf (zS (za ?_));exact⟨kk+1,⟨⟨rfl,rfl,rfl,rfl,rfl,rfl,rfl,trivial⟩,by omega,by rw[kW,if_pos h2]; exact hcn,.of⟩,by omega⟩
  have hk6:kk<6:=by
   rcases Nat.lt_or_ge kk 6 with q | q
   ·exact q
   ·have:kk=6:=by omega
    rw[this] at hcn;omega
  have hk0:la kk≠0:=fun q=>h ⟨hk6,q⟩
  obtain⟨hl3,he3⟩:=pE (n:=6) hk6 hk0;have hLk:L[pre.length]=kB kk:=by
   have:L[pre.length]?=some (kB kk):=by
    rw[hL,List.getElem?_map, ←hcn,List.getElem?_eq_getElem hl3,he3]; rfl
   exact(List.getElem?_eq_some_iff.1 this).2
  rw[hLk,hI2.Xl hk6,if_neg hk0] at hb;obtain rfl:=Option.some.inj hb;rw[Et,rT];rw[rT] at hRR;obtain⟨bb,spp,fz,hz,rfl,_,rfl,rfl⟩:=hRR.at' (by simp);have hcs:=kW la kk;rw[if_neg hk0,hcn] at hcs;clear hJ;have hmb:=hlb kk;generalize hm:la kk=m at*
  have hmz:(m:Int)-1=((m-1:Nat):Int):=by omega
  rw[hmz];have hrem:0≤(kk:Int).tmod 2∧(kk:Int).tmod 2≤1:=by rw[show(kk:Int).tmod 2=((kk%2:Nat):Int) from rfl]; omega
  have hg8:(cells (XV la)).toArray.toList[0+kk*1]?=some (.int .i64 (m:Int)):=by rw[←hm]; exact KI hk6
  refine zW (zF (zF (zZ (za (ze (ze (zX (zV rfl rfl (zi (yM rfl rfl) (zi (pB rfl) ?_))))))))));rw[decide_eq_false (show ¬(6:Int)≤(kk:Int) from by omega)];refine zM rfl (zi (zo rfl) (zM rfl (zi (zo rfl) (zM rfl (Vq (l:=[sv (nB (kk/2)),.int .i64 (tB kk)]) rfl (show(List.drop 0 (#[sv (nB (kk/2)),.int .i64 (tB kk),.slice (some ⟨bb,0,none⟩) [(⟨nB (kk/2),tB kk,1,0,[vV (((m-1:Nat):Int))]⟩:RR)].length ([(⟨nB (kk/2),tB kk,1,0,[vV (((m-1:Nat):Int))]⟩:RR)].length+spp.length),.int .i64 0,sv [0],.int .i64 ((((m-1:Nat):Int)).tmod 10),.int .i64 (((m-1:Nat):Int)),.int .i64 (99+(m:Int)),.int .i64 0]:Array Value).toList).take 2=_ from rfl) rfl (zM rfl (zV rfl rfl (zM rfl (zV rfl rfl (zM rfl (zi (fP rfl rfl (by decide) (by omega)) ?_)))))))))));rw[show(kk:Int).tdiv 2=((kk/2:Nat):Int) from rfl];refine zM rfl (zi (zT rfl rfl (by omega)) (zM rfl (zV rfl (yO (q:=kk/2) (by omega)) (zM rfl (zV rfl rfl (zM rfl (zi (q8 rfl rfl (by decide)) (zM rfl (zi (WT rfl rfl (by omega)) (zM rfl (zi (uw (rQ rfl) (um rfl)) (zM rfl (zi (IZ (a:=kB kk) (b:=kB kk) rfl rfl) ?_)))))))))))));rw[decide_eq_true rfl];refine zi (zR rfl rfl) (zi (pB rfl) (zM rfl (zi (zo rfl) (zM rfl (zV rfl rfl (zM rfl (zV rfl rfl (zM rfl (zi (nS (k:=(kk:Int)) (len:=6) rfl rfl (by omega)) ?_)))))))));rw[show 0+(kk:Int).toNat*1=0+kk*1 from rfl];refine zM rfl (zV rfl hg8 (zM rfl (zi (ZY rfl rfl (by omega)) (zM rfl (zi (q8 rfl rfl (by decide)) (zM rfl (zi (xk rfl rfl) (zi (zR rfl rfl) (zi (pB rfl) ?_)))))))));rw[decide_eq_true (rfl:(((m-1:Nat):Int)).tmod 10=(((m-1:Nat):Int)).tmod 10)];refine zM rfl (zi (zo rfl) (zM rfl (zV rfl rfl (zM rfl (zV rfl rfl (zM rfl (zi (nS (k:=(kk:Int)) (len:=6) rfl rfl (by omega)) ?_)))))));rw[show 0+(kk:Int).toNat*1=0+kk*1 from rfl];refine zM rfl (zV rfl hg8 (zM rfl (zi (ZY rfl rfl (by omega)) (zM rfl (zi (xk rfl rfl) (zi (zR rfl rfl) (zi (pB rfl) ?_)))))));rw[decide_eq_true (rfl:((m-1:Nat):Int)=((m-1:Nat):Int))];refine zM rfl (zi (zo rfl) (zM rfl (zV rfl rfl (zM rfl (zV rfl rfl (zM rfl (zi (nS (k:=(kk:Int)) (len:=6) rfl rfl (by omega)) ?_)))))));rw[show 0+(kk:Int).toNat*1=0+kk*1 from rfl];refine zM rfl (zV rfl hg8 (zM rfl (zi (WT rfl rfl (by omega)) (zM rfl (zi (xk rfl rfl) (zi (zR rfl rfl) (zi (pB rfl) ?_)))))));rw[decide_eq_true (rfl:99+(m:Int)=99+(m:Int))];refine zM rfl (zi (zo rfl) (zM rfl (zi (zo rfl) (zM rfl (zV rfl rfl (zM rfl (zi (ZB rfl) (zM rfl (zi (xk rfl rfl) (zi (zR rfl rfl) (zi (pB rfl) (zM rfl (zi (zo rfl) (zM rfl (zi (zo rfl) (zM rfl (zV rfl rfl (zM rfl (zi (zT (k:=0) rfl rfl Nat.zero_lt_one) (zM rfl (zi (zo rfl) (zM rfl (zV rfl rfl (zM rfl (zV rfl rfl (zM rfl (zi (nS (k:=(kk:Int)) (len:=6) rfl rfl (by omega)) ?_)))))))))))))))))))))))))));rw[show 0+(kk:Int).toNat*1=0+kk*1 from rfl];refine zM rfl (zV rfl hg8 (zM rfl (zi (ZY rfl rfl (by omega)) (zM rfl (zi (kC rfl) ?_)))));refine wE rfl ?_ zN;refine Zb (wL (vV ((m-1:Nat):Int)) rfl rfl (by decide) (by decide) rfl fun p178=>⟨fun _ h=>List.mem_cons_of_mem _ h,?_⟩) zN;refine wE rfl ?_ zN;refine Zb (YA (Y:=[vV ((m-1:Nat):Int)]) rfl (.lit (by repeat (first | exact List.mem_cons_self | apply List.mem_cons_of_mem)) rfl) ⟨fun _ h=>List.mem_cons_of_mem _ h,?_⟩) zN;refine zM rfl (zi (nP rfl rfl) (zi (zR rfl rfl) (zL (za ?_))));rw[decide_eq_true (rfl:(⟨[vV ((m-1:Nat):Int)].toArray⟩:ByteArray)=⟨[vV ((m-1:Nat):Int)].toArray⟩)];refine zA rfl (zw (za (ze (z8 ?_))));refine zh (zx rfl rfl ?_);refine yp (Zg rfl rfl (by omega)) ?_;refine zh (Zn rfl rfl (um rfl) ?_);refine zf (za (ze (z8 ?_)));refine zh (zx rfl rfl ?_);refine yp (Zg rfl rfl (by omega)) ?_;refine zh (Zn rfl rfl (um rfl) ?_);refine zf (za (ze (z8 ?_)));refine zh (zx rfl rfl ?_);refine zh (zx rfl rfl ?_);refine yp (WL rfl rfl) (zf (za ?_));have hpl1:∀x:Array Value,(pre++[x]).length=pre.length+1:=fun x=>by rw[List.length_append]; rfl
  by_cases hst:((pre.length+1:Nat):Int)=stop
  ·rw[decide_eq_true hst];refine zH rfl (zW (U5 rfl ?_));refine⟨rfl,?_,kk+1,?_⟩
   ·rw[hpl1]; exact hst
   ·rw[hpl1]; exact .of
  ·rw[decide_eq_false hst];refine zA rfl (zw (zS ?_));refine⟨kk+1,by omega,?_,?_⟩
   ·rw[hpl1]; exact hcs
   ·rw[hpl1]; exact .of
 ·rintro xs O S' ⟨⟨L,hSP,hxl⟩,H3,hS3,rfl⟩ ⟨kk,hkk,hcn,hJ⟩;have hxs:xs.length=U3 la 6:=by
   have:=congrArg List.length (hI2.sp hSP);rw[List.length_map] at this;rw[hxl,this]; rfl
  refine zS (za ?_);refine zn (S0:=[H3]++([(p14,.cells #[.int .i64 (kk:Int)] 3)]::[(p15,.cells #[.int .i64 (xs.length:Int)] 3)]::[(p8,.cells (cells (XV la)).toArray 86)]::[(p7,.cells #[.slice (some ⟨p31,0,none⟩) 3 3] 85)]::[(p31,.cells (cells X7).toArray 9)]::[(p4,.cells #[.bool false] 4)]::[(p3,.cells #[.int .i64 stop] 3)]::S)) (zD.cons hJ) (ze (z8 ?_));refine zh (zx rfl rfl ?_);refine yp (pI rfl) (yp (WL rfl rfl) (yp (pB rfl) ?_));rw[hxs,decide_eq_true rfl];refine Z4 rfl (Z4 rfl (Z4 rfl (yp (zP rfl rfl) (yp (pB rfl) (Z5 rfl ?_)))));refine zk y7 rfl rfl fun r S' h=>?_
  obtain⟨rfl,rfl⟩:=h;refine yp (zP rfl rfl) ?_;refine zh (Zn rfl rfl (lT rfl) ?_);refine zf (za (zJ ?_));exact zI (UZ (rR (b:=p4) qR rfl)) ⟨S,.of,rfl,rfl⟩
 ·rintro e pre O S' _ ⟨H3,hS3,rfl⟩ ⟨rfl,hst,kk,hJ⟩;refine zZ (za ?_);refine zn (S0:=[H3]++([(p14,.cells #[.int .i64 (kk:Int)] 3)]::[(p15,.cells #[.int .i64 (pre.length:Int)] 3)]::[(p8,.cells (cells (XV la)).toArray 86)]::[(p7,.cells #[.slice (some ⟨p31,0,none⟩) 3 3] 85)]::[(p31,.cells (cells X7).toArray 9)]::[(p4,.cells #[.bool false] 4)]::[(p3,.cells #[.int .i64 stop] 3)]::S)) (zD.cons hJ) (ze (z8 ?_));refine zh (zx rfl rfl ?_);refine yp (pI rfl) (yp (WL rfl rfl) (yp (pB rfl) ?_));rw[hst];by_cases hq:stop=((U3 la 6:Nat):Int)
  ·rw[decide_eq_true hq];refine Z4 rfl (Z4 rfl (Z4 rfl (yp (zP rfl rfl) (yp (pB rfl) (Z5 rfl ?_)))));refine zk y7 rfl rfl fun r S' h=>?_
   obtain⟨rfl,rfl⟩:=h;refine yp (zP rfl rfl) ?_;refine zh (Zn rfl rfl (lT rfl) ?_);refine zf (za (zJ ?_));exact zI (UZ (rR (b:=p4) qR rfl)) ⟨S,.of,rfl,rfl⟩
  ·rw[decide_eq_false hq];refine Z5 rfl ?_;refine(zx rfl rfl ?_);refine Z5 rfl ?_;refine(zx rfl rfl ?_);refine Z5 rfl (Zd (WL rfl rfl) (yp (zR rfl rfl) (yp (pB rfl) ?_)));rw[decide_eq_true (rfl:stop=stop)];refine Z5 rfl ?_;refine zk y7 rfl rfl fun r S' h=>?_
   obtain⟨rfl,rfl⟩:=h;refine yp (zP rfl rfl) ?_;refine zh (Zn rfl rfl (lT rfl) ?_);refine zf (za (zJ ?_));exact zI (UZ (rR (b:=p4) qR rfl)) ⟨S,.of,rfl,rfl⟩
end Go.Proofs.YtejmbmenbailmaaGreat