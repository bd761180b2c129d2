/- Names by their labels: labels, order, Less. -/
import Derived.Test.YtejmbmenbailmaaGreatNamesL
import Derived.Test.YtejmbmenbailmaaGreatN1
import Derived.Test.YtejmbmenbailmaaGreatP1
import Derived.Test.YtejmbmenbailmaaGreatFSort
import Derived.Test.YtejmbmenbailmaaGreatFSortK
namespace Go.Proofs.YtejmbmenbailmaaGreat
open Go.Xs
open Enc (enc)
abbrev sb(Y:Bs):ByteArray:=⟨Y.toArray⟩
theorem yT(Y:Bs):(XD Y).length≤255:=by
 unfold XD;split
 ·next h=>
  have:∀(f:Nat) (Z:Bs),(XE f Z).length≤Z.length:=by
   intro f
   induction f with
   | zero=>intro Z; exact Nat.zero_le _
   | succ f ih=>
    intro Z;cases Z with
    | nil=>exact Nat.le_refl _
    | cons b r=>
     rw[XE];split
     ·exact Nat.zero_le _
     ·have:=ih (r.drop b.toNat);rw[List.length_drop] at this;rw[List.length_cons,List.length_cons];omega
  exact Nat.le_trans (this _ _) (wM h)
 ·exact Nat.zero_le _
set_option maxRecDepth 10000 in
theorem gL(Y:Bs)(hY:Y.length<2 ^ 62):Tri Tryz.prog 180 #[sv Y] [] (fun r S=>∃H,Za 9 r ((XD Y).map sb) H∧S=[H]):=by
 refine Tri.forget (zm Tryz.EU (Nat.le_of_ble_eq_true rfl) ?_);unfold Tryz.Cc;refine ze (z8 (yp pC (zf (za (ze (ze (z8 (yp (pT rfl) ?_))))))));refine zh (zk (vB Y hY) rfl rfl fun r S' h=>?_);obtain⟨rfl,rfl⟩:=h;cases hv:wR Y with
 | false=>
  refine yp (Zi rfl) (zf (za (zH rfl (ze (z8 (yp pC (zf (za (zJ (zU ?_))))))))));refine zI (rS rfl) ⟨[[]],.of,[],?_,rfl⟩;unfold XD;rw[hv];exact .nil
 | true=>
  have hl:XD Y=yS Y:=by unfold XD; rw[hv]; rfl
  have hln:=yT Y;rw[hl] at hln ⊢;refine yp (Zi rfl) (zf (za (zA rfl (zw (za (ze (zq ?_)))))));refine Z6 (σ:=Bs) (fun Z E S'=>∃v L H,Has E [(0,sv Z)]∧E 2=v∧wR Z=true∧L++yS Z=yS Y∧Za 9 v (L.map sb) H∧zD S' [H]) (fun Z=>Z.length) Y ⟨_,[],[],⟨rfl,trivial⟩,rfl,hv,rfl,.nil,.of⟩ fun Z E S' ⟨v,L,H,hE,hE2,hZ,hL,hS,hJ⟩=>?_
  obtain⟨a,c,rfl⟩:=hS.isSlice;have hE3:Has E [(0,sv Z),(2,.slice a (L.map sb).length c)]:=⟨hE.1,hE2,trivial⟩
  clear hE hE2;obtain⟨E0,e0⟩:=zy hE3; subst e0; clear hE3;refine zn hJ (ze (ze (z8 (yp (pT rfl) (yp (nP rfl rfl) (zf (za ?_)))))));by_cases hr:Z=[0]
  ·subst hr;refine zA rfl (zW (zF (zF (zZ (za (ze (z8 (yp (pS rfl) (yp (pS rfl) (zf (za (zJ ?_))))))))))));rw[aY,List.append_nil] at hL;rw[←hL];exact zI (rS rfl) ⟨[H],.of,H,hS,rfl⟩
  ·have hne:decide ((⟨Z.toArray⟩:ByteArray)=⟨#[0]⟩)=false:=by
    rw[decide_eq_false_iff_not];intro e;exact hr (yB (Z:=[0]).1 e)
   rw[hne];cases Z with
   | nil=>cases hZ
   | cons b r=>
   rcases dL hZ with⟨h0,h1⟩ | ⟨h1,h63,hlr,hvr⟩
   ·refine absurd ?_ hr;rw[h1,show b=0 from UInt8.toNat_inj.1 h0]
   have hlc:=aZ (b:=b) (r:=r) (by omega);have hLl:(L.map sb).length≤255:=by
    have:=congrArg List.length hL;rw[List.length_append] at this;rw[List.length_map]; omega
   refine zH rfl (zw (za (zq (ze (z8 (yp (pT rfl) (yp (Aw (Y:=b::r) (k:=0) (b:=b) rfl rfl rfl) (yp (fT rfl) (yp (WT rfl rfl (by omega)) (yp (pI rfl) (zf (za (zX (zi (pS rfl) (zi (pT rfl) (zi (pI rfl) (zi (fG (Y:=b::r) (j:=1) (k:=1+b.toNat) rfl rfl rfl (by rw[List.length_cons]; omega)) ?_)))))))))))))))));rw[show((b::r).drop 1).take (1+b.toNat-1)=r.take b.toNat from by rw[Nat.add_sub_cancel_left]; rfl];refine zi (pT rfl) (zi (pI rfl) (zi (XR (Y:=b::r) (j:=1+b.toNat) rfl rfl (by rw[List.length_cons]; omega)) ?_));rw[show(b::r).drop (1+b.toNat)=r.drop b.toNat from by rw[Nat.add_comm]; rfl];refine zO (wL (sb (r.take b.toNat)) rfl rfl (by decide) (by decide) rfl fun p17=>?_) zN;refine zO (Vr (Y:=[sb (r.take b.toNat)]) rfl rfl hS (.lit (by repeat (first | exact List.mem_cons_self | apply List.mem_cons_of_mem)) rfl) rfl (⟨#[]⟩:ByteArray) rfl (by rw[List.length_singleton]; omega) (by rw[List.length_singleton]; omega) fun v2 H2 hS2=>?_) zN;have hS3:Za 9 v2 ((L++[r.take b.toNat]).map sb) H2:=by rw[List.map_append]; exact hS2
   obtain⟨a2,c2,rfl⟩:=hS2.isSlice;refine zi (pS rfl) (zi (pT rfl) (zL (zS (za ?_))));refine⟨r.drop b.toNat,⟨_,L++[r.take b.toNat],H2,⟨rfl,trivial⟩,rfl,hvr,?_,hS3,.of⟩,?_⟩
   ·rw[List.append_assoc];show L++(r.take b.toNat::yS (r.drop b.toNat))=_;rw[←hlc]; exact hL
   ·rw[List.length_drop,List.length_cons]; omega
/-- in small letters, the last one first -/
theorem E8{v:Value}{L:List ByteArray}{H:List Chunk}(hL:Za 9 v L H)(hlen:L.length<2 ^ 40):Tri Tryz.prog 181 #[v] [H] (fun r S=>r= .tuple #[]∧∃H',Za 9 v L.reverse H'∧S=[H']):=by
 refine Tri.forget (zm Tryz.ET (Nat.le_of_ble_eq_true rfl) ?_);unfold Tryz.Cb;rcases hL.inv with⟨rfl,rfl,rfl⟩ | ⟨b,sp,fz,hz,rfl,rfl⟩
 ·refine ze (z8 (yp (pS rfl) (yp (ZB rfl) (yp (ZK rfl rfl (by omega)) (yp pC (yp (pI rfl) (zf (za (zq ?_)))))))));refine Z6 (σ:=Unit) (fun _ E S'=>Has E [(2,.int .i64 0),(3,.int .i64 (-1))]∧S'=[[]]) (fun _=>0) () ⟨⟨rfl,rfl,trivial⟩,rfl⟩ fun _ E S' ⟨hE,hS⟩=>?_
  subst hS;obtain⟨E0,e0⟩:=zy hE; subst e0; clear hE;refine ze (ze (z8 (yp (pI rfl) (yp (pI rfl) (yp (ZO rfl rfl) (zf (za (zA rfl (zW (zF (zF (zZ ?_))))))))))));exact ZQ ZX ⟨[[]],.of,rfl,[],.nil,rfl⟩
 ·have hzl:(cells (L++sp)).length=L.length+sp.length:=by rw[zG,List.length_append]; exact Nat.mul_one _
  rw[hzl] at hz;refine ze (z8 (yp (pS rfl) (yp (ZB rfl) (yp (ZK rfl rfl (by omega)) (yp pC (yp (pI rfl) (zf (za (zq ?_)))))))));refine Z6 (σ:=Nat) (fun i E S'=>Has E [(0,.slice (some ⟨b,0,none⟩) L.length (L.length+sp.length)),(2,.int .i64 (i:Int)),(3,.int .i64 ((L.length:Int)-1-(i:Int)))]∧2*i≤L.length+1∧∃M:List ByteArray,M.length=L.length∧(∀k,k<L.length→M[k]?=if k<i∨L.length-1-k<i then L[L.length-1-k]? else L[k]?)∧S'=[[(b,.cells (cells (M++sp)).toArray 9 fz)]]) (fun i=>L.length-i) 0 ⟨⟨rfl,rfl,(by show Value.int .i64 _=Value.int .i64 _; congr 1; omega),trivial⟩,by omega,L,rfl,(fun k hk=>by rw[if_neg (by omega)]),rfl⟩ fun i E S' ⟨hE,hi,M,hMl,hM,hS⟩=>?_
  subst hS;obtain⟨E0,e0⟩:=zy hE; subst e0; clear hE;refine ze (ze (z8 (yp (pI rfl) (yp (pI rfl) (yp (ZO rfl rfl) (zf (za ?_)))))));refine zQ rfl (fun h=>?_) (fun h=>?_)
  ·obtain⟨j,hj⟩:∃j:Nat,(L.length:Int)-1-(i:Int)=(j:Int):=⟨L.length-1-i,by omega⟩
   have hij:i<j:=by omega
   have hjl:j<L.length:=by omega
   have hjn:j=L.length-1-i:=by omega
   rw[hj];have hMS:(M++sp).length=L.length+sp.length:=by rw[List.length_append,hMl]
   have hz2:uS fz (cells (M++sp)).length:=by rw[zG,hMS]; exact(Nat.mul_one _).symm▸hz
   have gi:(cells (M++sp)).toArray.toList[0+i*1]?=some (.string M[i]):=ZC (L:=M) (j:=0) (by omega) rfl (by decide);have gj:(cells (M++sp)).toArray.toList[0+j*1]?=some (.string M[j]):=ZC (L:=M) (j:=0) (by omega) rfl (by decide);refine zw (za (ze (zq (zX (zi (pS rfl) (zi (pI rfl) (zi (pS rfl) (zi (pI rfl) (zi (pS rfl) (zi (pI rfl) (zi (zT rfl rfl (by omega)) (zV rfl gj (zi (pS rfl) (zi (pI rfl) (zi (zT rfl rfl (by omega)) (zV rfl gi (zi (zT rfl rfl (by omega)) ?_)))))))))))))))));refine zO (Zh (M:=M++sp) (y:=M[j]) rfl (by omega) rfl rfl hz2 ?_) zN;refine zi (zT rfl rfl (by omega)) ?_;refine zO (Zh (M:=(M++sp).set i M[j]) (y:=M[i]) rfl (by rw[List.length_set]; omega) rfl rfl (by rw[zG,List.length_set, ←zG]; exact hz2) ?_) zN;refine zL (zS (za (z8 (yp (pI rfl) (yp (Zg rfl rfl (by omega)) (yp (pI rfl) (yp (ZY rfl rfl (by omega)) (yp (pI rfl) (yp (pI rfl) (zf (za ?_)))))))))));have e:(((M++sp).set i M[j]).set j M[i])=((M.set i M[j]).set j M[i])++sp:=by
    rw[List.set_append_left _ _ (by omega),List.set_append_left _ _ (by rw[List.length_set]; omega)]
   refine⟨i+1,⟨⟨rfl,rfl,?_,trivial⟩,by omega,(M.set i M[j]).set j M[i],by rw[List.length_set,List.length_set]; exact hMl,fun k hk=>?_,by rw[e]⟩,by omega⟩
   ·show Value.int .i64 _=Value.int .i64 _;congr 1; omega
   ·rw[List.getElem?_set,List.getElem?_set];by_cases h1:j=k
    ·subst h1;rw[if_pos rfl,if_pos (by rw[List.length_set]; omega),if_pos (by omega)];have:=hM i (by omega);rw[if_neg (by omega),List.getElem?_eq_getElem (by omega)] at this;rw[this,show L.length-1-j=i from by omega]
    ·rw[if_neg h1];by_cases h2:i=k
     ·subst h2;rw[if_pos rfl,if_pos (by omega),if_pos (by omega)];have:=hM j (by omega);rw[if_neg (by omega),List.getElem?_eq_getElem (by omega)] at this;rw[this, ←hjn]
     ·rw[if_neg h2,hM k hk];by_cases h3:k<i∨L.length-1-k<i
      ·rw[if_pos h3,if_pos (by omega)]
      ·rw[if_neg h3,if_neg (by omega)]
  ·refine zW (zF (zF (zZ ?_)));have hrev:M=L.reverse:=by
    refine List.ext_getElem? fun k=>?_
    rcases Nat.lt_or_ge k L.length with hk | hk
    ·rw[List.getElem?_reverse hk,hM k hk];by_cases h3:k<i∨L.length-1-k<i
     ·rw[if_pos h3]
     ·rw[if_neg h3];congr 1; omega
    ·rw[List.getElem?_eq_none (by omega),List.getElem?_eq_none (by rw[List.length_reverse]; omega)]
   subst hrev;have hro:=Za.row (ty:=9) (b:=b) (L:=L.reverse) (sp:=sp) (fz:=fz) (by rw[zG,List.length_append,List.length_reverse]; exact(Nat.mul_one _).symm▸hz);rw[List.length_reverse] at hro;exact ZQ ZX ⟨_,.of,rfl,_,hro,rfl⟩
end Go.Proofs.YtejmbmenbailmaaGreat