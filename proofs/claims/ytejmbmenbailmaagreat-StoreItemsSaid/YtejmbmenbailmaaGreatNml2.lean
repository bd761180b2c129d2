/- Names by their labels: order, Less; the order of a store's keys. -/
import Derived.Test.YtejmbmenbailmaaGreatNml
import Derived.Test.YtejmbmenbailmaaGreatC1
namespace Go.Proofs.YtejmbmenbailmaaGreat
open Go.Xs
open Enc (enc)
theorem jV(Y:Bs):(wF Y).length≤255:=by
 unfold wF;rw[List.length_reverse,List.length_map];exact yT Y
theorem ow{Y l:Bs}(h:l∈XD Y):l.length≤255:=by
 unfold XD at h;split at h
 ·next hv=>
  have:∀(f:Nat) (Z:Bs),∀l∈XE f Z,l.length≤Z.length:=by
   intro f
   induction f with
   | zero=>intro Z l h; simp[XE] at h
   | succ f ih=>
    intro Z l h;cases Z with
    | nil=>simp[XE] at h
    | cons b r=>
     rw[XE] at h;split at h
     ·simp at h
     ·rcases List.mem_cons.1 h with rfl | h
      ·rw[List.length_take,List.length_cons]; omega
      ·have:=ih _ l h;rw[List.length_drop] at this;rw[List.length_cons]; omega
  exact Nat.le_trans (this _ _ l h) (wM hv)
 ·simp at h
theorem QA(Y:Bs)(hY:Y.length<2 ^ 62):Tri Tryz.prog 165 #[sv Y] [] (fun r S=>∃H,Za 9 r ((wF Y).map sb) H∧S=[H]):=by
 refine Tri.forget (zm Tryz.Fu (Nat.le_of_ble_eq_true rfl) ?_);unfold Tryz.Ck;have hln:=yT Y;have hl1:=fun l (h:l∈XD Y)=>ow (Y:=Y) h
 refine ze (z8 (yp pC (zf (za (ze (ze (z8 (yp (pT rfl) ?_))))))));refine zh (zk (gL Y hY) rfl rfl fun r S' h=>?_);obtain⟨HL,hS,rfl⟩:=h;rw[show wF Y=((XD Y).map (List.map low)).reverse from rfl];generalize XD Y=L at*
 obtain⟨a,c,rfl⟩:=hS.isSlice;refine yp (ZB rfl) (yp pC (zf (za (zq ?_))));refine Z6 (σ:=Nat) (fun i E S'=>Has E [(6,.slice a (L.map sb).length c),(7,.int .i64 ((L.map sb).length:Nat)),(8,.int .i64 (i:Int))]∧i≤L.length∧∃v H,E 2=v∧Za 9 v ((L.take i).map fun l=>sb (l.map low)) H∧zD S' [H,HL]) (fun i=>L.length-i) 0 ⟨⟨rfl,rfl,rfl,trivial⟩,Nat.zero_le _,_,[],rfl,.nil,.of⟩ fun i E S' ⟨hE,hi,v,H,hE2,hS2,hJ⟩=>?_
 obtain⟨a2,c2,rfl⟩:=hS2.isSlice;have hE3:Has E [(6,.slice a (L.map sb).length c),(7,.int .i64 ((L.map sb).length:Nat)),(8,.int .i64 (i:Int)),(2,.slice a2 ((L.take i).map fun l=>sb (l.map low)).length c2)]:=⟨hE.1,hE.2.1,hE.2.2.1,hE2,trivial⟩
 clear hE hE2;obtain⟨E0,e0⟩:=zy hE3; subst e0; clear hE3;refine zn hJ ?_;have hml:(L.map sb).length=L.length:=List.length_map _;have hml2:((L.take i).map fun l=>sb (l.map low)).length≤255:=by rw[List.length_map,List.length_take]; omega
 refine ze (z8 (yp (ZO rfl rfl) (zf (za (ze ?_)))));refine zQ rfl (fun h=>?_) (fun h=>?_)
 ·have hlt:i<L.length:=by omega
  obtain⟨b,sp,fz,hz,rfl,_,rfl,rfl⟩:=hS.at' (by intro h; rw[h] at hml; simp at hml; omega);have hg:(cells (L.map sb++sp)).toArray.toList[0+i*1]?=some (sv L[i]):=by
   have:=ZC (L:=L.map sb) (sp:=sp) (i:=i) (j:=0) (by omega) rfl (by decide);rw[List.getElem_map] at this;exact this
  have hll:=hl1 L[i] (List.getElem_mem hlt);have htk:(L.take (i+1)).map (fun l=>sb (l.map low))=(L.take i).map (fun l=>sb (l.map low))++[sb (L[i].map low)]:=by rw[List.take_succ_eq_append_getElem hlt,List.map_append]; rfl
  generalize L[i]=l at hg hll htk;refine zw (za (ze (zq (ze (z8 (yp (zT rfl rfl (by omega)) ?_))))));refine zh (zx rfl hg ?_);refine yp (pT rfl) (zf (za (z8 (yp (pS rfl) (yp (pT rfl) ?_)))));refine zh (zk (KC l (by omega)) rfl rfl fun r S' h=>?_);obtain⟨rfl,rfl⟩:=h;refine zh (wL (sb (l.map low)) rfl rfl (by decide) (by decide) rfl fun p15=>?_);refine zh (Vr (Y:=[sb (l.map low)]) rfl rfl hS2 (.lit (by repeat (first | exact List.mem_cons_self | apply List.mem_cons_of_mem)) rfl) rfl (⟨#[]⟩:ByteArray) rfl (by rw[List.length_singleton]; omega) (by rw[List.length_singleton]; omega) fun v2 H2 hS3=>?_);rw[←htk] at hS3;obtain⟨a3,c3,rfl⟩:=hS3.isSlice;refine yp (pS rfl) (zf (zS (za (z8 (yp (Zg rfl rfl (by omega)) (yp (pI rfl) (zf (za ?_))))))));exact⟨i+1,⟨⟨rfl,rfl,rfl,trivial⟩,by omega,_,H2,rfl,hS3,.of⟩,by omega⟩
 ·obtain rfl:i=L.length:=by omega
  rw[List.take_length] at*
  refine zW (zF (zF (zZ (za (ze (z8 (yp (pS rfl) ?_)))))));refine zh (zk (E8 hS2 (by omega)) rfl rfl fun r S' h=>?_);obtain⟨rfl,H2,hS3,rfl⟩:=h;refine zf (za (ze (z8 (yp (pS rfl) (yp (pS rfl) (zf (za (zJ ?_))))))));refine zI (rS rfl) ⟨[H2],.of,H2,?_,rfl⟩;rw[←List.map_reverse] at hS3;rw[←List.map_reverse,List.map_map];exact hS3
theorem Eb(Y:Bs):Tri Tryz.prog 192 #[sv Y] [] (fun r S=>r= .bool false∧S=[]):=by
 refine Tri.forget (zm Tryz.EH (Nat.le_of_ble_eq_true rfl) ?_);unfold Tryz.Ca;refine ze (z8 (yp pC (zf (za (ze (z8 (yp (pT rfl) (yp (pT rfl) (yp (nP rfl rfl) (yp (pB rfl) (zf (za (zJ ?_)))))))))))));rw[decide_eq_true rfl];exact zI (rB rfl) ⟨_,.of,rfl,rfl⟩
theorem y5(Y:Bs):(⟨Y.toArray⟩:ByteArray).toList=Y:=by rw[ByteArray.toList_eq]
theorem Br(A B:Bs):Tri Tryz.prog 179 #[sv A,sv B] [] (fun r S=>r= .int .i64 (wz A B)∧S=[]):=by
 refine Tri.forget (zm Tryz.EW (Nat.le_of_ble_eq_true rfl) ?_);unfold Tryz.Ce;refine ze (z8 (yp pC (zf (za (ze (z8 (yp (pT rfl) ?_)))))));refine zh (zk (Eb A) rfl rfl fun r S' h=>?_);obtain⟨rfl,rfl⟩:=h;refine yp (pB rfl) (zf (za (ze (z8 (yp (pT rfl) ?_)))));refine zh (zk (Eb B) rfl rfl fun r S' h=>?_);obtain⟨rfl,rfl⟩:=h;refine yp (pB rfl) (zf (za (ze (ze (z8 (yp (pB rfl) (zf (za (zA rfl (zw (za (ze (ze (z8 (yp (pB rfl) (zf (za (zA rfl (zw (za (ze (ze (z8 (yp (pT rfl) (yp (pT rfl) (yp (L8 (a:=⟨A.toArray⟩) (b:=⟨B.toArray⟩) rfl rfl) ?_))))))))))))))))))))))))));rw[y5,y5,show Op.bytesLess A B=Ec A B from rfl,KU];have hr:wz A B= -1∨wz A B=0∨wz A B=1:=by
  have:∀A B:Bs,wz A B= -1∨wz A B=0∨wz A B=1:=by
   intro A
   induction A with
   | nil=>intro B; cases B<;>simp[wz]
   | cons a A ih=>
    intro B;cases B with
    | nil=>simp[wz]
    | cons b B=>
     rw[wz];split
     ·exact .inl rfl
     ·split
      ·exact .inr (.inr rfl)
      ·exact ih B
  exact this A B
 by_cases h1:wz A B<0
 ·rw[decide_eq_true h1];refine zf (za (zH rfl (ze (z8 (yp pC (zf (za (zJ (zU ?_)))))))));rw[show wz A B= -1 from by omega];exact zI (rI rfl) ⟨_,.of,rfl,rfl⟩
 ·rw[decide_eq_false h1];refine zf (za (zA rfl (zw (za (ze (ze (z8 (yp (pT rfl) (yp (pT rfl) (yp (L9 (a:=⟨A.toArray⟩) (b:=⟨B.toArray⟩) rfl rfl) ?_))))))))));rw[y5,y5,show Op.bytesLess A B=Ec A B from rfl,KU,decide_eq_false h1,Bool.false_or];by_cases h2:A=B
  ·subst h2;rw[decide_eq_true rfl];refine zf (za (zA rfl (zw (za (ze (z8 (yp pC (zf (za (zJ ?_))))))))));rw[(Vz A A).2 rfl];exact zI (rI rfl) ⟨_,.of,rfl,rfl⟩
  ·rw[decide_eq_false (fun e=>h2 (yB.1 e))];refine zf (za (zH rfl (ze (z8 (yp pC (zf (za (zJ (zU ?_)))))))));have:=mt (Vz A B).1 h2;rw[show wz A B=1 from by omega];exact zI (rI rfl) ⟨_,.of,rfl,rfl⟩
/-- lists of texts -/
theorem aS{u v:Value}{A B:List Bs}{H G:List Chunk}(hA:Za 9 u (A.map sb) H)(hB:Za 9 v (B.map sb) G)(hl:A.length<2 ^ 40∧B.length<2 ^ 40):Tri Tryz.prog 164 #[u,v] [H,G] (fun r S=>r= .int .i64 (cmpL A B)∧S=[H,G]):=by
 refine Tri.forget (zm Tryz.Fv (Nat.le_of_ble_eq_true rfl) ?_);unfold Tryz.Cn;obtain⟨a,c,rfl⟩:=hA.isSlice;obtain⟨a',c',rfl⟩:=hB.isSlice;have hal:(A.map sb).length=A.length:=List.length_map _;have hbl:(B.map sb).length=B.length:=List.length_map _;rw[hal,hbl] at*
 refine ze (z8 (yp pC (zf (za (ze (ze (z8 (yp (pS rfl) (yp (ZB rfl) (yp pC (zf (za (zq ?_)))))))))))));refine Z6 (σ:=Nat) (fun i E S'=>Has E [(0,.slice a A.length c),(1,.slice a' B.length c'),(9,.slice a A.length c),(10,.int .i64 (A.length:Nat)),(11,.int .i64 (i:Int))]∧i≤A.length∧i≤B.length∧cmpL A B=cmpL (A.drop i) (B.drop i)∧S'=[H,G]) (fun i=>A.length-i) 0 ⟨⟨rfl,rfl,rfl,rfl,rfl,trivial⟩,Nat.zero_le _,Nat.zero_le _,rfl,rfl⟩ fun i E S' ⟨hE,hi,hi2,he,hS⟩=>?_
 subst hS;obtain⟨E0,e0⟩:=zy hE; subst e0; clear hE;refine ze (z8 (yp (ZO rfl rfl) (zf (za (ze ?_)))));refine zQ rfl (fun h=>?_) (fun h=>?_)
 ·have hlt:i<A.length:=by omega
  obtain⟨b,sp,fz,hz,rfl,_,rfl,rfl⟩:=hA.at' (fun h=>by have:=congrArg List.length h; rw[List.length_map,List.length_nil] at this; omega);have hg:(cells (A.map sb++sp)).toArray.toList[0+i*1]?=some (sv A[i]):=by
   have:=ZC (L:=A.map sb) (sp:=sp) (i:=i) (j:=0) (by rw[List.length_map]; exact hlt) rfl (by decide);rw[List.getElem_map] at this;exact this
  rw[List.drop_eq_getElem_cons hlt] at he;refine zw (za (ze (zq (ze (z8 (yp (pI rfl) (yp (zT rfl rfl (by omega)) ?_)))))));refine zh (zx rfl hg ?_);refine yp (pI rfl) (yp (pT rfl) (zf (za (ze (ze (z8 (yp (pI rfl) (yp (pS rfl) (yp (ZB rfl) (yp (yM rfl rfl) (zf (za ?_))))))))))));by_cases h2:B.length≤i
  ·rw[decide_eq_true (show((B.length:Nat):Int)≤(i:Int) from by omega)];rw[List.drop_of_length_le h2] at he;refine zH rfl (ze (z8 (yp pC (zf (za (zJ (zU (bret (zU (zU (bret (zU ?_))))))))))));rw[he];exact zI (rI rfl) ⟨_,.of,rfl,rfl⟩
  ·rw[decide_eq_false (show ¬((B.length:Nat):Int)≤(i:Int) from by omega)];have hlt2:i<B.length:=by omega
   obtain⟨b2,sp2,fz2,hz2,rfl,_,rfl,rfl⟩:=hB.at' (fun h=>by have:=congrArg List.length h; rw[List.length_map,List.length_nil] at this; omega);have hg2:(cells (B.map sb++sp2)).toArray.toList[0+i*1]?=some (sv B[i]):=by
    have:=ZC (L:=B.map sb) (sp:=sp2) (i:=i) (j:=0) (by rw[List.length_map]; exact hlt2) rfl (by decide);rw[List.getElem_map] at this;exact this
   rw[List.drop_eq_getElem_cons hlt2,cmpL] at he;refine zA rfl (zw (za (ze (z8 (yp (pS rfl) (yp (pI rfl) (yp (zT rfl rfl (by omega)) ?_)))))));refine zh (zx rfl hg2 ?_);refine yp (pT rfl) (zf (za (ze (z8 (yp (pT rfl) (yp (pT rfl) ?_))))));refine zh (zk (Br A[i] B[i]) rfl rfl fun r S' h=>?_);obtain⟨rfl,rfl⟩:=h;refine yp (pI rfl) (zf (za (ze (z8 (yp (pI rfl) (yp (xk rfl rfl) (zf (za ?_))))))));by_cases h3:wz A[i] B[i]=0
   ·rw[decide_eq_true h3];rw[if_neg (by omega)] at he;refine zA rfl (zw (zS (za (z8 (yp (Zg rfl rfl (by omega)) (yp (pI rfl) (zf (za ?_))))))));exact⟨i+1,⟨⟨rfl,rfl,rfl,rfl,rfl,trivial⟩,by omega,by omega,he,rfl⟩,by omega⟩
   ·rw[decide_eq_false h3];rw[if_pos h3] at he;refine zH rfl (ze (z8 (yp (pI rfl) (yp (pI rfl) (zf (za (zJ (bret (zU (zU (bret (zU ?_))))))))))));rw[he];exact zI (rI rfl) ⟨_,.of,rfl,rfl⟩
 ·obtain rfl:i=A.length:=by omega
  rw[List.drop_length] at he;refine zW (zF (zF (zZ (za (ze (ze (z8 (yp (pS rfl) (yp (ZB rfl) (yp (pS rfl) (yp (ZB rfl) (yp (ZO rfl rfl) (zf (za ?_))))))))))))));by_cases h2:A.length<B.length
  ·rw[decide_eq_true (show((A.length:Nat):Int)<((B.length:Nat):Int) from by omega)];rw[List.drop_eq_getElem_cons h2] at he;refine zH rfl (ze (z8 (yp pC (zf (za (zJ (zU ?_)))))));rw[he];exact zI (rI rfl) ⟨_,.of,rfl,rfl⟩
  ·rw[decide_eq_false (show ¬((A.length:Nat):Int)<((B.length:Nat):Int) from by omega)];rw[List.drop_of_length_le (by omega)] at he;refine zA rfl (zw (za (ze (z8 (yp pC (zf (za (zJ ?_))))))));rw[he];exact zI (rI rfl) ⟨_,.of,rfl,rfl⟩
def kE(A B:Bs):Bool:=wR A && wR B && decide (cmpL (wF A) (wF B)<0)
theorem gJ(A B:Bs)(hA:A.length<2 ^ 62)(hB:B.length<2 ^ 62):Tri Tryz.prog 135 #[sv A,sv B] [] (fun r S=>r= .bool (kE A B)∧S=[]):=by
 refine Tri.forget (zm Tryz.G5 (Nat.le_of_ble_eq_true rfl) ?_);unfold Tryz.CF kE;refine ze (z8 (yp pC (zf (za (ze (z8 (yp (pT rfl) ?_)))))));refine zh (zk (vB A hA) rfl rfl fun r S' h=>?_);obtain⟨rfl,rfl⟩:=h;cases hv:wR A with
 | false=>
  refine yp (pB rfl) (Z4 rfl (Z4 rfl (yp (zR rfl rfl) (yp (pB rfl) (Z4 rfl (Z4 rfl (Z4 rfl (Z4 rfl (Z4 rfl (Z4 rfl (yp (zR rfl rfl) (yp (pB rfl) (zf (za (zJ ?_)))))))))))))));exact zI (rB rfl) ⟨_,.of,rfl,rfl⟩
 | true=>
  refine yp (pB rfl) (Z5 rfl (Zd (pT rfl) (Z5 rfl ?_)));refine zk (vB B hB) rfl rfl fun r S' h=>?_
  obtain⟨rfl,rfl⟩:=h;cases hw:wR B with
  | false=>
   refine yp (zP rfl rfl) (yp (pB rfl) (Z4 rfl (Z4 rfl (Z4 rfl (Z4 rfl (Z4 rfl (Z4 rfl (yp (zR rfl rfl) (yp (pB rfl) (zf (za (zJ ?_))))))))))));exact zI (rB rfl) ⟨_,.of,rfl,rfl⟩
  | true=>
   refine yp (zP rfl rfl) (yp (pB rfl) (Z5 rfl (Zd (pT rfl) (Z5 rfl ?_))));refine zk (QA A hA) rfl rfl fun r S' h=>?_
   obtain⟨H,hSA,rfl⟩:=h;obtain⟨a,c,rfl⟩:=hSA.isSlice;refine Z5 rfl (Zd (pT rfl) (Z5 rfl ?_));refine zk (QA B hB) rfl rfl fun r S' h=>?_
   obtain⟨G,hSB,rfl⟩:=h;obtain⟨a',c',rfl⟩:=hSB.isSlice;have h1:=jV A;have h2:=jV B;refine Z5 rfl ?_;refine zk (aS hSA hSB (by omega)) rfl rfl fun r S' h=>?_
   obtain⟨rfl,rfl⟩:=h;refine Z5 rfl (Zd (ZO rfl rfl) (yp (zP rfl rfl) (yp (pB rfl) (zf (za (zJ ?_))))));exact zI (rB rfl) ⟨[],.of,rfl,rfl⟩
theorem mM(a b:Ky)(hA:a.n.length<2 ^ 62)(hB:b.n.length<2 ^ 62)(va:wR a.n=true)(vb:wR b.n=true):Tri Tryz.prog 90 #[.agg (Wi a),.agg (Wi b)] [] (fun r S=>(∃z,r= .int .i64 z∧(z<0↔oD a b))∧S=[]):=by
 refine Tri.forget (zm Tryz.Lu (Nat.le_of_ble_eq_true rfl) ?_);unfold Tryz.x90;have e1:kE a.n b.n=decide (cmpL (wF a.n) (wF b.n)<0):=by unfold kE; rw[va,vb]; rfl
 have e2:kE b.n a.n=decide (cmpL (wF b.n) (wF a.n)<0):=by unfold kE; rw[va,vb]; rfl
 have hr:=sM.rev (wF a.n) (wF b.n);unfold oD;refine ze (z8 ?_);refine zh (Zt rfl fun p2=>?_);refine zh (Zt rfl fun p3=>?_);refine yp pC (zf (za (ze (zq (ze (z8 (yp (zo rfl) ?_)))))));refine zh (zx rfl rfl ?_);refine yp (zo rfl) ?_;refine zh (zx rfl rfl ?_);refine zh (zk (gJ a.n b.n hA hB) rfl rfl fun r S' h=>?_);obtain⟨rfl,rfl⟩:=h;rw[e1];by_cases h1:cmpL (wF a.n) (wF b.n)<0
 ·rw[decide_eq_true h1];refine yp (pB rfl) (zf (za (zH rfl (ze (z8 (yp pC (zf (za (zJ (bret (zU ?_)))))))))));exact zI (rI rfl) ⟨[],.of,⟨_,rfl,by constructor<;>intro _<;>first | exact .inl h1 | decide⟩,rfl⟩
 ·rw[decide_eq_false h1];refine yp (pB rfl) (zf (za (zA rfl (ze (z8 (yp (zo rfl) ?_))))));refine zh (zx rfl rfl ?_);refine yp (zo rfl) ?_;refine zh (zx rfl rfl ?_);refine zh (zk (gJ b.n a.n hB hA) rfl rfl fun r S' h=>?_);obtain⟨rfl,rfl⟩:=h;rw[e2];by_cases h2:cmpL (wF b.n) (wF a.n)<0
  ·rw[decide_eq_true h2];refine yp (pB rfl) (zf (za (zH rfl (ze (z8 (yp pC (zf (za (zJ (bret (zU ?_)))))))))));exact zI (rI rfl) ⟨[],.of,⟨_,rfl,by omega⟩,rfl⟩
  ·rw[decide_eq_false h2];refine yp (pB rfl) (zf (za (zA rfl (zw (zS (za (ze (z8 (yp (zo rfl) ?_)))))))));refine zh (zx rfl rfl ?_);refine yp (zo rfl) ?_;refine zh (zx rfl rfl ?_);refine zh (zk (qE a.t b.t) rfl rfl fun r S' h=>?_);obtain⟨rfl,rfl⟩:=h;refine yp (pI rfl) (zf (za (zJ ?_)));exact zI (rI rfl) ⟨[],.of,⟨_,rfl,by unfold Jh; split<;>(try split)<;>omega⟩,rfl⟩
end Go.Proofs.YtejmbmenbailmaaGreat