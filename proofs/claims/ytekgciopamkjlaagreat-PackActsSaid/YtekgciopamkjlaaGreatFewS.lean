/- PackActs: are the sets looked at? -/
import Derived.Test.YtekgciopamkjlaaGreatSetH
import Derived.Test.YtekgciopamkjlaaGreatP2
import Derived.Test.YtekgciopamkjlaaGreatFLawP
import Derived.Test.YtekgciopamkjlaaGreatFAlk
namespace Go.Proofs.YtekgciopamkjlaaGreat
open Go.Xs
open Enc (enc)
set_option maxRecDepth 10000 in
set_option maxHeartbeats 4000000 in
theorem l6{S:zq}{v:Value}{L:List RR}(hv:Src S v L)(hl:L.length≤40):Tri Tryz.prog 47 #[v,.int .i64 5000] S (fun x S'=>∃b,x= .bool b∧(b=true→∀r∈L,r.n.length≤5000∧r.d.length≤5000)∧S'=S):=by
 refine Tri.forget (zB Tryz.BF (Nat.le_of_ble_eq_true rfl) ?_);unfold Tryz.Df;obtain⟨a,c,rfl⟩:=hv.isSlice;refine ze (z8 (yp pC (zf (za (ze (z8 (yp (pS rfl) (yp (Zq rfl) (yp (pI rfl) (zf (za (ze (ze (z8 (yp pC (zf (za (zw ?_))))))))))))))))));refine Z7 (σ:=Nat) (fun i E S'=>∃m:Nat,Has E [(0,.slice a L.length c),(1,.int .i64 5000),(5,.int .i64 (m:Int)),(6,.int .i64 (i:Int))]∧i≤L.length∧m≤20000∧(∀r∈L.take i,r.n.length≤5000∧r.d.length≤5000)∧zM S' S) (fun i=>L.length-i) 0
  ⟨L.length,⟨rfl,rfl,rfl,rfl,trivial⟩,Nat.zero_le _,by omega,fun r h=>by simp at h,.of⟩ fun i E S' ⟨m,hE,hi,hm,hall,hJ⟩=>?_
 obtain⟨E0,e0⟩:=zu hE; subst e0; clear hE;refine zy hJ (ze (ze (z8 (yp (pI rfl) (yp (pS rfl) (yp (Zq rfl) (yp (w9 rfl rfl) (yp (pB rfl) ?_))))))));by_cases hlt:(i:Int)<(L.length:Int)
 case neg=>
  rw[decide_eq_false hlt];refine zJ rfl (zJ rfl (zJ rfl (yp (zL rfl rfl) (zf (za (zA rfl (Z0 (zF (zF (Z4 (za (ze (z8 (yp (pI rfl) (yp (pI rfl) (yp (K7 rfl rfl) (yp (pB rfl) (zf (za (zH ?_))))))))))))))))))));refine zG (rB rfl) ⟨_,.of,_,rfl,fun _=>?_,rfl⟩;have:L.take i=L:=List.take_of_length_le (by omega);rw[this] at hall; exact hall
 rw[decide_eq_true hlt];refine zV rfl (zZ (pI rfl) (zV rfl (zZ (pI rfl) (zV rfl (zZ (K7 rfl rfl) (yp (zD rfl rfl) (zf (za ?_))))))));by_cases hm5:(m:Int)≤5000
 case neg=>
  rw[decide_eq_false hm5];refine zA rfl (Z0 (zF (zF (Z4 (za (ze (z8 (yp (pI rfl) (yp (pI rfl) (yp (K7 rfl rfl) (yp (pB rfl) (zf (za (zH ?_))))))))))))));exact zG (rB rfl) ⟨_,.of,_,rfl,fun h=>absurd (of_decide_eq_true h) hm5,rfl⟩
 rw[decide_eq_true hm5];have hii:i<L.length:=by omega
 have hts:L.take (i+1)=L.take i++[L[i]]:=List.take_succ_eq_append_getElem hii;obtain⟨b1,o1,ca1,ty1,fz1,rfl,hm1,_,hg1⟩:=wR hv hii;have hgn:ca1.toList[o1+i*5]?=some (sv L[i].n):=hg1 0 (by decide);have hgd:ca1.toList[o1+i*5+4]?=some (sv L[i].d):=hg1 4 (by decide);generalize L[i]=r at hts hgn hgd;refine zC rfl (zx (za (ze (zw (ze (ze (z8 (yp (pS rfl) (yp (pI rfl) (yp (zT rfl rfl (by omega)) (yp (zl rfl) ?_)))))))))));refine zh (wY (show _∈_ from by repeat (first | exact hm1 | apply List.mem_cons_of_mem)) rfl hgn ?_);refine yp (ZV rfl) (yp (pI rfl) (yp (Va rfl rfl) (yp (pB rfl) ?_)));rw[uH]
 skip
 by_cases h1:5000<(r.n.length:Int)
 ·rw[decide_eq_true h1];refine zJ rfl (zJ rfl (zJ rfl (zJ rfl (zJ rfl (zJ rfl (zJ rfl (zJ rfl (yp (zD rfl rfl) (zf (za (zC rfl (ze (z8 (yp pC (zf (za (zH (zP (bret (zP (zP (bret (zP ?_)))))))))))))))))))))));exact zG (rB rfl) ⟨_,.of,_,rfl,fun h=>(by cases h),rfl⟩
 rw[decide_eq_false h1];refine zV rfl (zZ (pS rfl) (zV rfl (zZ (pI rfl) (zV rfl (zZ (zT rfl rfl (by omega)) (zV rfl (zZ (zl rfl) (zV rfl (wY (show _∈_ from by repeat (first | exact hm1 | apply List.mem_cons_of_mem)) rfl hgd (zV rfl (zZ (ZV rfl) (zV rfl (zZ (pI rfl) (zV rfl (zZ (Va rfl rfl) (yp (zL rfl rfl) (zf (za ?_))))))))))))))))));rw[uH]
 skip
 by_cases h2:5000<(r.d.length:Int)
 ·rw[decide_eq_true h2];refine zC rfl (ze (z8 (yp pC (zf (za (zH (zP (bret (zP (zP (bret (zP ?_))))))))))));exact zG (rB rfl) ⟨_,.of,_,rfl,fun h=>(by cases h),rfl⟩
 rw[decide_eq_false h2];refine zA rfl (zx (za (Za (zi (pI rfl) (zi (pS rfl) (zi (pI rfl) (zi (zT rfl rfl (by omega)) (zi (zl rfl) (UW (show _∈_ from by repeat (first | exact hm1 | apply List.mem_cons_of_mem)) rfl hgn (zi (ZV rfl) ?_))))))))));rw[uH];refine zi (Zy rfl rfl (by omega)) (zi (pS rfl) (zi (pI rfl) (zi (zT rfl rfl (by omega)) (zi (zl rfl) (UW (show _∈_ from by repeat (first | exact hm1 | apply List.mem_cons_of_mem)) rfl hgd (zi (ZV rfl) ?_))))));rw[uH];refine zi (Zy rfl rfl (by omega)) (zi (pI rfl) (zN (zY (za (z8 (yp (pI rfl) (yp (Z9 rfl rfl (by omega)) (yp (pI rfl) (zf (za ?_))))))))));refine⟨i+1,⟨m+r.n.length+r.d.length,⟨rfl,rfl,rfl,rfl,trivial⟩,by omega,by omega,fun x hx=>?_,.of⟩,by omega⟩;rw[hts] at hx;rcases List.mem_append.1 hx with hx | hx
 ·exact hall x hx
 ·rw[List.mem_singleton.1 hx]; exact⟨by omega,by omega⟩
/-- a set that is looked at -/
structure Fw(x:SH):Prop where
 n:x.s.name.length≤300
 z:x.s.zone.length≤300
 r:x.s.rrs.length≤40
 e:∀r∈x.s.rrs,r.n.length≤5000∧r.d.length≤5000
set_option maxRecDepth 10000 in
set_option maxHeartbeats 4000000 in
theorem Ce{S:zq}{v:Value}{L:List SH}(hv:Src S v L)(he:∀x∈L,Src S x.v x.s.rrs):Tri Tryz.prog 12 #[v] S (fun x S'=>∃b,x= .bool b∧(b=true→L.length≤20∧∀x∈L,Fw x)∧S'=S):=by
 refine Tri.forget (zB Tryz.Ca (Nat.le_of_ble_eq_true rfl) ?_);unfold Tryz.Dt;obtain⟨a,c,rfl⟩:=hv.isSlice;refine ze (z8 (yp pC (zf (za (ze (z8 (yp pC (zf (za (ze (ze (z8 (yp pC (zf (za (zw ?_))))))))))))))));refine Z7 (σ:=Nat) (fun i E S'=>∃m:Nat,Has E [(0,.slice a L.length c),(3,.int .i64 (m:Int)),(4,.int .i64 (i:Int))]∧i≤L.length∧i≤30∧m≤40*i∧(∀x∈L.take i,Fw x)∧zM S' S) (fun i=>L.length-i) 0
  ⟨0,⟨rfl,rfl,rfl,trivial⟩,Nat.zero_le _,by omega,Nat.le_refl _,fun r h=>by simp at h,.of⟩ fun i E S' ⟨m,hE,hi,hi30,hm,hall,hJ⟩=>?_
 obtain⟨E0,e0⟩:=zu hE; subst e0; clear hE;refine zy hJ (ze (ze (z8 (yp (pI rfl) (yp (pS rfl) (yp (Zq rfl) (yp (w9 rfl rfl) (yp (pB rfl) ?_))))))));by_cases hlt:(i:Int)<(L.length:Int)
 case neg=>
  rw[decide_eq_false hlt];refine zJ rfl (zJ rfl (yp (zL rfl rfl) (zf (za (zA rfl (Z0 (zF (zF (Z4 (za (ze (z8 (yp (pS rfl) (yp (Zq rfl) (yp (K7 rfl rfl) (yp (pB rfl) ?_))))))))))))))));have hfin:L.take i=L:=List.take_of_length_le (by omega);rw[hfin] at hall;by_cases h20:(L.length:Int)≤20
  ·rw[decide_eq_true h20];refine zV rfl (zZ (pI rfl) (zV rfl (zZ (K7 rfl rfl) (yp (zD rfl rfl) (yp (pB rfl) (zf (za (zH ?_))))))));exact zG (rB rfl) ⟨_,.of,_,rfl,fun _=>⟨by omega,hall⟩,rfl⟩
  ·rw[decide_eq_false h20];refine zJ rfl (zJ rfl (yp (zL rfl rfl) (yp (pB rfl) (zf (za (zH ?_))))));exact zG (rB rfl) ⟨_,.of,_,rfl,fun h=>(by cases h),rfl⟩
 rw[decide_eq_true hlt];refine zV rfl (zZ (pI rfl) (zV rfl (zZ (w9 rfl rfl) (yp (zD rfl rfl) (zf (za ?_))))));by_cases h30:(i:Int)<30
 case neg=>
  rw[decide_eq_false h30];refine zA rfl (Z0 (zF (zF (Z4 (za (ze (z8 (yp (pS rfl) (yp (Zq rfl) (yp (K7 rfl rfl) (yp (pB rfl) ?_)))))))))));rw[decide_eq_false (show ¬(L.length:Int)≤20 from by omega)];refine zJ rfl (zJ rfl (yp (zL rfl rfl) (yp (pB rfl) (zf (za (zH ?_))))));exact zG (rB rfl) ⟨_,.of,_,rfl,fun h=>(by cases h),rfl⟩
 rw[decide_eq_true h30];have hii:i<L.length:=by omega
 have hts:L.take (i+1)=L.take i++[L[i]]:=List.take_succ_eq_append_getElem hii;obtain⟨b1,o1,ca1,ty1,fz1,rfl,hm1,_,hg1⟩:=wR hv hii;have hgn:ca1.toList[o1+i*5]?=some (sv L[i].s.name):=hg1 0 (by decide);have hgz:ca1.toList[o1+i*5+4]?=some (sv L[i].s.zone):=hg1 4 (by decide);have hgr:ca1.toList[o1+i*5+2]?=some (.slice L[i].a L[i].s.rrs.length L[i].c):=hg1 2 (by decide);have hsr:=he _ (List.getElem_mem hii);generalize L[i]=y at hts hgn hgz hgr hsr;refine zC rfl (zx (za (ze (zw (ze (ze (z8 (yp (pS rfl) (yp (pI rfl) (yp (zT rfl rfl (by omega)) (yp (zl rfl) (yp (zl rfl) ?_))))))))))));refine zh (wY (show _∈_ from by repeat (first | exact hm1 | apply List.mem_cons_of_mem)) rfl hgn ?_);refine yp (ZV rfl) (yp (Va rfl rfl) (yp (pB rfl) ?_));rw[uH]
 skip
 by_cases h1:300<(y.s.name.length:Int)
 ·rw[decide_eq_true h1];refine zJ rfl (zJ rfl (zJ rfl (zJ rfl (zJ rfl (zJ rfl (zJ rfl (yp (zD rfl rfl) (yp (pB rfl) (zJ rfl (zJ rfl (zJ rfl (zJ rfl (zJ rfl (zJ rfl (zJ rfl (yp (zD rfl rfl) (yp (pB rfl) (zJ rfl (zJ rfl (zJ rfl (zJ rfl (zJ rfl (zJ rfl (zJ rfl (yp (zD rfl rfl) (zf (za (zC rfl (ze (z8 (yp pC (zf (za (zH (zP (bret (zP (zP (bret (zP ?_))))))))))))))))))))))))))))))))))))))));exact zG (rB rfl) ⟨_,.of,_,rfl,fun h=>(by cases h),rfl⟩
 rw[decide_eq_false h1];refine zV rfl (zZ (pS rfl) (zV rfl (zZ (pI rfl) (zV rfl (zZ (zT rfl rfl (by omega)) (zV rfl (zZ (zl rfl) (zV rfl (wY (show _∈_ from by repeat (first | exact hm1 | apply List.mem_cons_of_mem)) rfl hgz (zV rfl (zZ (ZV rfl) (zV rfl (zZ (Va rfl rfl) (yp (zL rfl rfl) (yp (pB rfl) ?_)))))))))))))));rw[uH]
 skip
 by_cases h2:300<(y.s.zone.length:Int)
 ·rw[decide_eq_true h2];refine zJ rfl (zJ rfl (zJ rfl (zJ rfl (zJ rfl (zJ rfl (zJ rfl (yp (zD rfl rfl) (yp (pB rfl) (zJ rfl (zJ rfl (zJ rfl (zJ rfl (zJ rfl (zJ rfl (zJ rfl (yp (zD rfl rfl) (zf (za (zC rfl (ze (z8 (yp pC (zf (za (zH (zP (bret (zP (zP (bret (zP ?_)))))))))))))))))))))))))))))));exact zG (rB rfl) ⟨_,.of,_,rfl,fun h=>(by cases h),rfl⟩
 rw[decide_eq_false h2];refine zV rfl (zZ (pS rfl) (zV rfl (zZ (pI rfl) (zV rfl (zZ (zT rfl rfl (by omega)) (zV rfl (zZ (zl rfl) (zV rfl (wY (show _∈_ from by repeat (first | exact hm1 | apply List.mem_cons_of_mem)) rfl hgr (zV rfl (zZ (Zq rfl) (zV rfl (zZ (Va rfl rfl) (yp (zL rfl rfl) (yp (pB rfl) ?_)))))))))))))));by_cases h3:40<(y.s.rrs.length:Int)
 ·rw[decide_eq_true h3];refine zJ rfl (zJ rfl (zJ rfl (zJ rfl (zJ rfl (zJ rfl (zJ rfl (yp (zD rfl rfl) (zf (za (zC rfl (ze (z8 (yp pC (zf (za (zH (zP (bret (zP (zP (bret (zP ?_))))))))))))))))))))));exact zG (rB rfl) ⟨_,.of,_,rfl,fun h=>(by cases h),rfl⟩
 rw[decide_eq_false h3];refine zV rfl (zZ (pS rfl) (zV rfl (zZ (pI rfl) (zV rfl (zZ (zT rfl rfl (by omega)) (zV rfl (zZ (zl rfl) (zV rfl (wY (show _∈_ from by repeat (first | exact hm1 | apply List.mem_cons_of_mem)) rfl hgr (zV rfl ?_))))))))));refine zm (l6 hsr (by omega)) rfl rfl fun r' S' h=>?_
 obtain⟨b,rfl,hb,hSS⟩:=h;have hSS:=hSS.symm;subst hSS;rw[List.append_nil];cases b with
 | false=>
  refine zV rfl (zZ (Ze rfl) (yp (zL rfl rfl) (zf (za (zC rfl (ze (z8 (yp pC (zf (za (zH (zP (bret (zP (zP (bret (zP ?_)))))))))))))))));exact zG (rB rfl) ⟨_,.of,_,rfl,fun h=>(by cases h),rfl⟩
 | true=>
 refine zV rfl (zZ (Ze rfl) (yp (zL rfl rfl) (zf (za (zA rfl (zx (za (z8 (yp (pI rfl) (yp (pS rfl) (yp (pI rfl) (yp (zT rfl rfl (by omega)) (yp (zl rfl) ?_)))))))))))));refine zh (wY (show _∈_ from by repeat (first | exact hm1 | apply List.mem_cons_of_mem)) rfl hgr ?_);refine yp (Zq rfl) (yp (Zy rfl rfl (by omega)) (yp (pI rfl) (zf (zY (za (z8 (yp (pI rfl) (yp (Z9 rfl rfl (by omega)) (yp (pI rfl) (zf (za ?_)))))))))));refine⟨i+1,⟨m+y.s.rrs.length,⟨rfl,rfl,rfl,trivial⟩,by omega,by omega,by omega,fun x hx=>?_,.of⟩,by omega⟩;rw[hts] at hx;rcases List.mem_append.1 hx with hx | hx
 ·exact hall x hx
 ·rw[List.mem_singleton.1 hx]; exact⟨by omega,by omega,by omega,hb rfl⟩
end Go.Proofs.YtekgciopamkjlaaGreat