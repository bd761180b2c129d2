/- The document's own answer (freshetref6): which sets may be. -/
import Derived.Test.YtekgciopamkjlaaGreatS1
import Derived.Test.YtekgciopamkjlaaGreatL0
namespace Go.Proofs.YtekgciopamkjlaaGreat
open Go.Xs
open Enc (enc)
theorem Fq(A B:Bs)(hA:A.length<2 ^ 62)(hB:B.length<2 ^ 62):Tri Tryz.prog 83 #[sv A,sv B] [] (fun r S=>r= .bool (UG A B)∧S=[]):=by
 refine Tri.forget (zq Tryz.RQ (Nat.le_of_ble_eq_true rfl) ?_);unfold Tryz.TJ UG;refine ze (z8 (yp pC (zf (za (ze (z8 (yp (pT rfl) ?_)))))));refine zh (zk (xE A hA) rfl rfl fun r S' h=>?_);obtain⟨rfl,rfl⟩:=h;cases hv:wm A with
 | false=>
  refine yp (pB rfl) (zP rfl (zP rfl (yp (zD rfl rfl) (yp (pB rfl) (zP rfl (zP rfl (zP rfl (zP rfl (zP rfl (yp (zD rfl rfl) (yp (pB rfl) (zf (za (zJ ?_))))))))))))));exact zI (rB rfl) ⟨_,.of,rfl,rfl⟩
 | true=>
  refine yp (pB rfl) (zK rfl (zQ (pT rfl) (zK rfl ?_)));refine zk (xE B hB) rfl rfl fun r S' h=>?_
  obtain⟨rfl,rfl⟩:=h;cases hw:wm B with
  | false=>
   refine yp (zw rfl rfl) (yp (pB rfl) (zP rfl (zP rfl (zP rfl (zP rfl (zP rfl (yp (zD rfl rfl) (yp (pB rfl) (zf (za (zJ ?_)))))))))));exact zI (rB rfl) ⟨_,.of,rfl,rfl⟩
  | true=>
   refine yp (zw rfl rfl) (yp (pB rfl) (zK rfl (zQ (pT rfl) (zK rfl ?_))));refine zk (om A hA) rfl rfl fun r S' h=>?_
   obtain⟨rfl,rfl⟩:=h;refine zK rfl (zQ (pT rfl) (zK rfl ?_));refine zk (om B hB) rfl rfl fun r S' h=>?_
   obtain⟨rfl,rfl⟩:=h;refine zK rfl (zQ (iP rfl rfl) (yp (zw rfl rfl) (yp (pB rfl) (zf (za (zJ ?_))))));refine zI (rB rfl) ⟨_,.of,?_,rfl⟩;rw[Qy hv,Qy hw];congr 1;rw[Bool.true_and,Bool.true_and,Bool.eq_iff_iff,decide_eq_true_iff,beq_iff_eq];exact Jc
/-- all but the records -/
def Gc(s:St):Bool:=wm s.name && wm s.zone && decide (1≤s.typ∧s.typ≤65535∧0≤s.kind∧s.kind≤2) && decide (s.rrs.length≤32) && (decide (0<s.rrs.length)==decide (s.kind=0))
theorem M9(s:St):Wh s=(Gc s && s.rrs.all (vY s)):=rfl
set_option maxRecDepth 10000 in
set_option maxHeartbeats 4000000 in
theorem o9{S:zL}{s:St}{v:Value}(hs:YF s)(hv:Src S v s.rrs):Tri Tryz.prog 34 #[.agg (X7 s v)] S (fun x S'=>x= .bool (Wh s)∧S'=S):=by
 have hn:=hs.name;have hz:=hs.zone;have hrl:=hs.rrs;refine Tri.forget (zq Tryz.SY (Nat.le_of_ble_eq_true rfl) ?_);unfold Tryz.x34;obtain⟨a,c,rfl⟩:=hv.isSlice;rw[M9];refine ze (z8 ?_);refine zh (ZC rfl fun p1=>?_);refine yp pC (zf (za ?_));refine uy (fun E S'=>Has E [(1,.pointer (some ⟨p1,0,none⟩))]∧Gc s=true∧zG S' (kg p1 s (.slice a s.rrs.length c)::S)) ?_ fun E S' ⟨hE,hm,hJ⟩=>?_
 ·have hno:∀{x:Value} {b:Bool} {S':zL},b=false→x= .bool false→zG S' (kg p1 s (.slice a s.rrs.length c)::S)→∃S'',zG S' S''∧x= .bool (b && s.rrs.all (vY s))∧S''=S:=fun h1 h2 h3=>⟨S,h3.trans .of,by rw[h1,h2]; rfl,rfl⟩
  unfold Gc;refine ze (z8 (yp (zx rfl) (yp (zx rfl) ?_)));refine zh (zy rfl rfl ?_);refine zh (zk (xE s.name (by omega)) rfl rfl fun r' S' h=>?_);obtain⟨rfl,rfl⟩:=h;cases wm s.name with
  | false=>
   refine yp (Za rfl) (yp (pB rfl) (zP rfl (zP rfl (zP rfl (zP rfl (yp (zw rfl rfl) (yp (pB rfl) (zP rfl (zP rfl (zP rfl (zP rfl (yp (zw rfl rfl) (yp (pB rfl) (zP rfl (zP rfl (zP rfl (zP rfl (yp (zw rfl rfl) (yp (pB rfl) (zP rfl (zP rfl (zP rfl (yp (zw rfl rfl) (yp (pB rfl) (zP rfl (zP rfl (zP rfl (yp (zw rfl rfl) (yp (pB rfl) (zP rfl (zP rfl (zP rfl (zP rfl (ZT rfl (ZT rfl (ZT rfl (ZT rfl (zP rfl (yp (zw rfl rfl) (yp (pB rfl) (zP rfl (zP rfl (zP rfl (zP rfl (ZT rfl (ZT rfl (ZT rfl (ZT rfl (ZT rfl (ZT rfl (ZT rfl (ZT rfl (ZT rfl (ZT rfl (zP rfl (yp (zw rfl rfl) (zf (za (zC rfl (ze (z8 (yp pC (zf (za (zJ (zV ?_))))))))))))))))))))))))))))))))))))))))))))))))))))))))))))))))));exact zI (rB rfl) (hno rfl rfl .of)
  | true=>
  refine yp (Za rfl) (yp (pB rfl) (zK rfl (zQ (zx rfl) (zK rfl ?_))));refine(zy rfl rfl ?_);refine zK rfl ?_;refine zk (xE s.zone (by omega)) rfl rfl fun r' S' h=>?_
  obtain⟨rfl,rfl⟩:=h;cases wm s.zone with
  | false=>
   refine zK rfl (zQ (Za rfl) (yp (zD rfl rfl) (yp (pB rfl) (zP rfl (zP rfl (zP rfl (zP rfl (yp (zw rfl rfl) (yp (pB rfl) (zP rfl (zP rfl (zP rfl (zP rfl (yp (zw rfl rfl) (yp (pB rfl) (zP rfl (zP rfl (zP rfl (yp (zw rfl rfl) (yp (pB rfl) (zP rfl (zP rfl (zP rfl (yp (zw rfl rfl) (yp (pB rfl) (zP rfl (zP rfl (zP rfl (zP rfl (ZT rfl (ZT rfl (ZT rfl (ZT rfl (zP rfl (yp (zw rfl rfl) (yp (pB rfl) (zP rfl (zP rfl (zP rfl (zP rfl (ZT rfl (ZT rfl (ZT rfl (ZT rfl (ZT rfl (ZT rfl (ZT rfl (ZT rfl (ZT rfl (ZT rfl (zP rfl (yp (zw rfl rfl) (zf (za (zC rfl (ze (z8 (yp pC (zf (za (zJ (zV ?_))))))))))))))))))))))))))))))))))))))))))))))))))))))))))))));exact zI (rB rfl) (hno rfl rfl .of)
  | true=>
  refine zK rfl (zQ (Za rfl) (yp (zD rfl rfl) (yp (pB rfl) (zK rfl (zQ (zx rfl) (zK rfl (zQ (zx rfl) (zK rfl ?_))))))));refine(zy rfl rfl ?_);refine zK rfl (zQ (ZE rfl rfl) (yp (zD rfl rfl) (yp (pB rfl) ?_)));by_cases h1:s.typ<1
  ·rw[decide_eq_true h1];refine zP rfl (zP rfl (zP rfl (zP rfl (yp (zw rfl rfl) (yp (pB rfl) (zP rfl (zP rfl (zP rfl (yp (zw rfl rfl) (yp (pB rfl) (zP rfl (zP rfl (zP rfl (yp (zw rfl rfl) (yp (pB rfl) (zP rfl (zP rfl (zP rfl (zP rfl (ZT rfl (ZT rfl (ZT rfl (ZT rfl (zP rfl (yp (zw rfl rfl) (yp (pB rfl) (zP rfl (zP rfl (zP rfl (zP rfl (ZT rfl (ZT rfl (ZT rfl (ZT rfl (ZT rfl (ZT rfl (ZT rfl (ZT rfl (ZT rfl (ZT rfl (zP rfl (yp (zw rfl rfl) (zf (za (zC rfl (ze (z8 (yp pC (zf (za (zJ (zV ?_))))))))))))))))))))))))))))))))))))))))))))))))))));exact zI (rB rfl) (hno (by rw[decide_eq_false (by omega)]; simp) rfl .of)
  rw[decide_eq_false h1];refine zK rfl (zQ (zx rfl) (zK rfl (zQ (zx rfl) (zK rfl ?_))));refine(zy rfl rfl ?_);refine zK rfl (zQ (WS rfl rfl) (yp (zD rfl rfl) (yp (pB rfl) ?_)));by_cases h2:65535<s.typ
  ·rw[decide_eq_true h2];refine zP rfl (zP rfl (zP rfl (yp (zw rfl rfl) (yp (pB rfl) (zP rfl (zP rfl (zP rfl (yp (zw rfl rfl) (yp (pB rfl) (zP rfl (zP rfl (zP rfl (zP rfl (ZT rfl (ZT rfl (ZT rfl (ZT rfl (zP rfl (yp (zw rfl rfl) (yp (pB rfl) (zP rfl (zP rfl (zP rfl (zP rfl (ZT rfl (ZT rfl (ZT rfl (ZT rfl (ZT rfl (ZT rfl (ZT rfl (ZT rfl (ZT rfl (ZT rfl (zP rfl (yp (zw rfl rfl) (zf (za (zC rfl (ze (z8 (yp pC (zf (za (zJ (zV ?_))))))))))))))))))))))))))))))))))))))))))))));exact zI (rB rfl) (hno (by rw[decide_eq_false (by omega)]; simp) rfl .of)
  rw[decide_eq_false h2];refine zK rfl (zQ (zx rfl) (zK rfl ?_));refine(zy rfl rfl ?_);refine zK rfl (zQ (ZE rfl rfl) (yp (zD rfl rfl) (yp (pB rfl) ?_)));by_cases h3:s.kind<0
  ·rw[decide_eq_true h3];refine zP rfl (zP rfl (zP rfl (yp (zw rfl rfl) (yp (pB rfl) (zP rfl (zP rfl (zP rfl (zP rfl (ZT rfl (ZT rfl (ZT rfl (ZT rfl (zP rfl (yp (zw rfl rfl) (yp (pB rfl) (zP rfl (zP rfl (zP rfl (zP rfl (ZT rfl (ZT rfl (ZT rfl (ZT rfl (ZT rfl (ZT rfl (ZT rfl (ZT rfl (ZT rfl (ZT rfl (zP rfl (yp (zw rfl rfl) (zf (za (zC rfl (ze (z8 (yp pC (zf (za (zJ (zV ?_)))))))))))))))))))))))))))))))))))))))));exact zI (rB rfl) (hno (by rw[decide_eq_false (show ¬(1≤s.typ∧s.typ≤65535∧0≤s.kind∧s.kind≤2) from by omega)]; simp) rfl .of)
  rw[decide_eq_false h3];refine zK rfl (zQ (zx rfl) (zK rfl ?_));refine(zy rfl rfl ?_);refine zK rfl (zQ (WS rfl rfl) (yp (zD rfl rfl) (yp (pB rfl) ?_)));by_cases h4:2<s.kind
  ·rw[decide_eq_true h4];refine zP rfl (zP rfl (zP rfl (zP rfl (ZT rfl (ZT rfl (ZT rfl (ZT rfl (zP rfl (yp (zw rfl rfl) (yp (pB rfl) (zP rfl (zP rfl (zP rfl (zP rfl (ZT rfl (ZT rfl (ZT rfl (ZT rfl (ZT rfl (ZT rfl (ZT rfl (ZT rfl (ZT rfl (ZT rfl (zP rfl (yp (zw rfl rfl) (zf (za (zC rfl (ze (z8 (yp pC (zf (za (zJ (zV ?_))))))))))))))))))))))))))))))))))));exact zI (rB rfl) (hno (by rw[decide_eq_false (show ¬(1≤s.typ∧s.typ≤65535∧0≤s.kind∧s.kind≤2) from by omega)]; simp) rfl .of)
  rw[decide_eq_false h4,decide_eq_true (show 1≤s.typ∧s.typ≤65535∧0≤s.kind∧s.kind≤2 from by omega)];refine zK rfl (zQ (zx rfl) (zK rfl ?_));refine(zy rfl rfl ?_);refine zK rfl (zQ (WS rfl rfl) (zK rfl (zQ (pB rfl) ?_)));by_cases h5:0<s.kind
  ·rw[decide_eq_true h5,decide_eq_false (show ¬s.kind=0 from by omega)];refine zK rfl (zQ (zx rfl) (zK rfl ?_));refine(zy rfl rfl ?_);refine zK rfl (zQ (Zp rfl) (zK rfl (zQ (WS rfl rfl) (zK rfl (zQ (zw rfl rfl) (yp (zD rfl rfl) (yp (pB rfl) ?_)))))));by_cases h6:0<(s.rrs.length:Int)
   ·rw[decide_eq_true h6];refine zP rfl (zP rfl (zP rfl (zP rfl (ZT rfl (ZT rfl (ZT rfl (ZT rfl (ZT rfl (ZT rfl (ZT rfl (ZT rfl (ZT rfl (ZT rfl (zP rfl (yp (zw rfl rfl) (zf (za (zC rfl (ze (z8 (yp pC (zf (za (zJ (zV ?_)))))))))))))))))))))))));exact zI (rB rfl) (hno (by rw[decide_eq_true (show 0<s.rrs.length from by omega)]; simp) rfl .of)
   rw[decide_eq_false h6];refine zK rfl (zQ (zx rfl) (zK rfl ?_));refine(zy rfl rfl ?_);refine zK rfl (zQ (wB rfl rfl) (zK rfl (zQ (pB rfl) ?_)));rw[decide_eq_false (show ¬s.kind=0 from by omega)];refine zP rfl (zP rfl (zP rfl (zP rfl (zP rfl (ZT rfl (ZT rfl (ZT rfl (ZT rfl (zP rfl (zK rfl (zQ (zD rfl rfl) (yp (zD rfl rfl) (zf (za (zo rfl (zl (za ?_)))))))))))))))));exact⟨⟨rfl,trivial⟩,by rw[decide_eq_false (show ¬0<s.rrs.length from by omega),decide_eq_true (show s.rrs.length≤32 from by omega)]; rfl,.of⟩
  ·rw[decide_eq_false h5,decide_eq_true (show s.kind=0 from by omega)];refine zP rfl (zP rfl (zP rfl (zP rfl (zK rfl (zQ (zD rfl rfl) (yp (zD rfl rfl) (yp (pB rfl) (zK rfl (zQ (zx rfl) (zK rfl ?_))))))))));refine(zy rfl rfl ?_);refine zK rfl (zQ (wB rfl rfl) (zK rfl (zQ (pB rfl) ?_)));rw[decide_eq_true (show s.kind=0 from by omega)];refine zK rfl (zQ (zx rfl) (zK rfl ?_));refine(zy rfl rfl ?_);refine zK rfl (zQ (Zp rfl) (zK rfl (zQ (ZE rfl rfl) (zK rfl (zQ (pB rfl) ?_)))));by_cases h6:(s.rrs.length:Int)<1
   ·rw[decide_eq_true h6];refine zP rfl (zP rfl (zP rfl (zP rfl (zK rfl (zQ (zw rfl rfl) (zK rfl (zQ (zw rfl rfl) (yp (zD rfl rfl) (zf (za (zC rfl (ze (z8 (yp pC (zf (za (zJ (zV ?_))))))))))))))))));exact zI (rB rfl) (hno (by rw[decide_eq_false (show ¬0<s.rrs.length from by omega)]; simp) rfl .of)
   rw[decide_eq_false h6];refine zK rfl (zQ (zx rfl) (zK rfl ?_));refine(zy rfl rfl ?_);refine zK rfl (zQ (Zp rfl) (zK rfl (zQ (WS rfl rfl) (zK rfl (zQ (zD rfl rfl) (zK rfl (zQ (zw rfl rfl) (yp (zD rfl rfl) (zf (za ?_))))))))));by_cases h7:32<(s.rrs.length:Int)
   ·rw[decide_eq_true h7];refine zC rfl (ze (z8 (yp pC (zf (za (zJ (zV ?_)))))));exact zI (rB rfl) (hno (by rw[decide_eq_false (show ¬s.rrs.length≤32 from by omega)]; simp) rfl .of)
   rw[decide_eq_false h7];refine zo rfl (zl (za ?_));exact⟨⟨rfl,trivial⟩,by rw[decide_eq_true (show 0<s.rrs.length from by omega),decide_eq_true (show s.rrs.length≤32 from by omega)]; rfl,.of⟩
 obtain⟨E0,e0⟩:=zm hE; subst e0; clear hE;refine zn hJ ?_;rw[hm,Bool.true_and];refine ze (ze (z8 (yp pC (zf (za (zu ?_))))));have hno:∀{x:Value} {S':zL} (r:RR),r∈s.rrs→vY s r=false→x= .bool false→zG S' S→∃S'',zG S' S''∧x= .bool (s.rrs.all (vY s))∧S''=S:=fun r hr h1 h2 h3=>by
  have ha:s.rrs.all (vY s)=false:=by
   cases ha:s.rrs.all (vY s) with
   | false=>rfl
   | true=>have:=List.all_eq_true.1 ha r hr; rw[h1] at this; cases this
  exact⟨S,h3,by rw[h2,ha],rfl⟩
 refine Z7 (σ:=Nat) (fun i E S'=>Has E [(1,.pointer (some ⟨p1,0,none⟩)),(3,.int .i64 (i:Int))]∧(i≤s.rrs.length∧∀r∈s.rrs.take i,vY s r=true)∧zG S' (kg p1 s (.slice a s.rrs.length c)::S)) (fun i=>s.rrs.length-i) 0
  ⟨⟨rfl,rfl,trivial⟩,⟨Nat.zero_le _,fun r h=>by simp at h⟩,.of⟩ fun i E S' ⟨hE,⟨hi,hall⟩,hJ⟩=>?_
 obtain⟨E0,e0⟩:=zm hE; subst e0; clear hE;refine zn hJ (ze (ze (z8 (yp (pI rfl) (yp (zx rfl) ?_)))));refine zh (zy rfl rfl ?_);refine yp (Zp rfl) (yp (ZE rfl rfl) (zf (za ?_)));refine zR rfl (fun hlt=>?_) (fun hlt=>?_)
 ·have hii:i<s.rrs.length:=by omega
  obtain⟨b1,o1,ca1,ty1,fz1,rfl,hm1,hg1,_⟩:=j3 hv hii;have hr:=List.getElem_mem hii;have hts:s.rrs.take (i+1)=s.rrs.take i++[s.rrs[i]]:=List.take_succ_eq_append_getElem hii;generalize s.rrs[i]=r at hg1 hr hts;obtain⟨hn1,hd1⟩:=hs.each r hr;refine zl (za (ze (zu (ze (z8 (yp (zx rfl) ?_))))));refine zh (zy rfl rfl ?_);refine yp (pI rfl) (yp (zT rfl rfl (by omega)) ?_);refine zh (xg (l:=enc r) (by repeat (first | exact hm1 | apply List.mem_cons_of_mem)) rfl hg1 rfl ?_);refine zh (Z5 fun p4=>?_);refine zh (Zv rfl rfl rfl rfl rfl ?_);refine zf (za (ze (z8 (yp (zx rfl) ?_))));refine zh (zy rfl rfl ?_);refine yp (zx rfl) ?_;refine zh (zy rfl rfl ?_);refine zh (zk (BH r.t r.d hd1) rfl rfl fun r' S' h=>?_);obtain⟨pv,pl,HP,rfl,hP,_,rfl⟩:=h;obtain⟨pa,pc,rfl⟩:=hP.isSlice;cases hdo:Zk r.t r.d with
  | false=>
   refine yp (pU rfl) (yp (pExt rfl rfl) (yp (pExt rfl rfl) (yp (pS rfl) (yp (pB rfl) (zf (za (ze (z8 (yp (pB rfl) (yp (Za rfl) (yp (pB rfl) (zP rfl (zP rfl (zP rfl (zP rfl (zP rfl (zP rfl (zP rfl (yp (zw rfl rfl) (yp (pB rfl) (zP rfl (zP rfl (zP rfl (zP rfl (zP rfl (zP rfl (yp (zw rfl rfl) (yp (pB rfl) (zP rfl (zP rfl (zP rfl (yp (zw rfl rfl) (zf (za (zC rfl (ze (z8 (yp pC (zf (za (zJ (bret (zV (zV (bret (zV ?_))))))))))))))))))))))))))))))))))))))))))))));exact zI (rB rfl) (hno r hr (by unfold vY; rw[hdo]; simp) rfl .of)
  | true=>
  refine yp (pU rfl) (yp (pExt rfl rfl) (yp (pExt rfl rfl) (yp (pS rfl) (yp (pB rfl) (zf (za (ze (z8 (yp (pB rfl) (yp (Za rfl) (yp (pB rfl) (zK rfl (zQ (zx rfl) (zK rfl ?_))))))))))))));refine(zy rfl rfl ?_);refine zK rfl (zQ (zx rfl) (zK rfl (zQ (zx rfl) (zK rfl ?_))));refine(zy rfl rfl ?_);refine zK rfl ?_;refine zk (Fq r.n s.name (by omega) (by omega)) rfl rfl fun r' S' h=>?_
  obtain⟨rfl,rfl⟩:=h;cases hsn:UG r.n s.name with
  | false=>
   refine zK rfl (zQ (Za rfl) (yp (zD rfl rfl) (yp (pB rfl) (zP rfl (zP rfl (zP rfl (zP rfl (zP rfl (zP rfl (yp (zw rfl rfl) (yp (pB rfl) (zP rfl (zP rfl (zP rfl (yp (zw rfl rfl) (zf (za (zC rfl (ze (z8 (yp pC (zf (za (zJ (bret (zV (zV (bret (zV ?_)))))))))))))))))))))))))))));exact zI (rB rfl) (hno r hr (by unfold vY; rw[hsn]; rfl) rfl .of)
  | true=>
  refine zK rfl (zQ (Za rfl) (yp (zD rfl rfl) (yp (pB rfl) (zK rfl (zQ (zx rfl) (zK rfl ?_))))));refine(zy rfl rfl ?_);refine zK rfl (zQ (zx rfl) (zK rfl (zQ (zx rfl) (zK rfl ?_))));refine(zy rfl rfl ?_);refine zK rfl (zQ (WU rfl rfl) (yp (zD rfl rfl) (yp (pB rfl) ?_)));by_cases ht:r.t=s.typ
  ·rw[decide_eq_true ht];refine zK rfl (zQ (zx rfl) (zK rfl ?_));refine(zy rfl rfl ?_);refine zK rfl (zQ (WU rfl rfl) (yp (zD rfl rfl) (zf (za ?_))));by_cases hc:r.c=1
   ·rw[decide_eq_true hc];refine zo rfl (zl (zW (za (z8 (yp (pI rfl) (yp (Z8 rfl rfl (by omega)) (yp (pI rfl) (zf (za ?_)))))))));refine⟨i+1,⟨⟨rfl,rfl,trivial⟩,⟨by omega,fun x hx=>?_⟩,.of⟩,by omega⟩;rw[hts] at hx;rcases List.mem_append.1 hx with hx | hx
    ·exact hall x hx
    ·rw[List.mem_singleton.1 hx]; unfold vY; rw[hsn,hdo,decide_eq_true ht,decide_eq_true hc]; rfl
   ·rw[decide_eq_false hc];refine zC rfl (ze (z8 (yp pC (zf (za (zJ (bret (zV (zV (bret (zV ?_)))))))))));exact zI (rB rfl) (hno r hr (by unfold vY; simp[hc]) rfl .of)
  ·rw[decide_eq_false ht];refine zP rfl (zP rfl (zP rfl (yp (zw rfl rfl) (zf (za (zC rfl (ze (z8 (yp pC (zf (za (zJ (bret (zV (zV (bret (zV ?_)))))))))))))))));exact zI (rB rfl) (hno r hr (by unfold vY; simp[ht]) rfl .of)
 ·refine zZ (zA (zA (Z0 (za (ze (z8 (yp pC (zf (za (zJ ?_))))))))));refine zI (rB rfl) ⟨_,.of,?_,rfl⟩;have:s.rrs.all (vY s)=true:=List.all_eq_true.2 fun r hr=>hall r (by rw[List.take_of_length_le (by omega)]; exact hr)
  rw[this]
end Go.Proofs.YtekgciopamkjlaaGreat