/- CacheRanks: the walk. -/
import Derived.Test.YtekgciopamkjlaaGreatCaW
import Derived.Test.YtekgciopamkjlaaGreatCaR
namespace Go.Proofs.YtekgciopamkjlaaGreat
open Go.Xs
open Enc (enc)
set_option maxRecDepth 10000 in
set_option maxHeartbeats 4000000 in
theorem c5(a b left by_:Int):zP Tryz.prog 5 #[.int .i64 a,.int .i64 b,.int .i64 left,.int .i64 by_] [] (fun r S'=>r= .bool true∧S'=[]):=by
 refine zP.forget (zm Tryz.MU (Nat.le_of_ble_eq_true rfl) ?_);unfold Tryz.x5;refine ze (z8 (yp pC (zf (za ?_))));refine X3 (fun E S'=>Has E [(0,.int .i64 a),(1,.int .i64 b),(2,.int .i64 left),(3,.int .i64 by_)]∧((0≤a∧a≤9)∧(0≤b∧b≤9)∧(1≤left∧left≤1000)∧0≤by_∧by_≤2000)∧zF S' []) ?_ fun E S' ⟨hE,hb,hJ⟩=>?_
 ·refine Ws (fun E S'=>∃c,Has E [(0,.int .i64 a),(1,.int .i64 b),(2,.int .i64 left),(3,.int .i64 by_),(42,.bool c)]∧(c=false→(0≤a∧a≤9)∧(0≤b∧b≤9)∧(1≤left∧left≤1000)∧0≤by_∧by_≤2000)∧zF S' []) ?_ fun E S' ⟨c,hE,hb,hJ⟩=>?_
  ·refine z8 (yp (pI rfl) (yp (ZN rfl rfl) (yp (pB rfl) ?_)));by_cases c1:a<0
   ·rw[decide_eq_true c1];refine zS rfl (zS rfl (yp (zD rfl rfl) (yp (pB rfl) (zS rfl (zS rfl (yp (zD rfl rfl) (yp (pB rfl) (zS rfl (zS rfl (yp (zD rfl rfl) (yp (pB rfl) (zS rfl (zS rfl (yp (zD rfl rfl) (yp (pB rfl) (zS rfl (zS rfl (yp (zD rfl rfl) (yp (pB rfl) (zS rfl (zS rfl (yp (zD rfl rfl) (yp (pB rfl) (zS rfl (zS rfl (yp (zD rfl rfl) (zf (za ?_))))))))))))))))))))))))))));exact⟨true,⟨rfl,rfl,rfl,rfl,rfl,trivial⟩,(fun h=>by cases h),.of⟩
   rw[decide_eq_false c1];refine zW rfl (Z6 (pI rfl) (zW rfl (Z6 (VK rfl rfl) (yp (zQ rfl rfl) (yp (pB rfl) ?_)))));by_cases c2:9<a
   ·rw[decide_eq_true c2];refine zS rfl (zS rfl (yp (zD rfl rfl) (yp (pB rfl) (zS rfl (zS rfl (yp (zD rfl rfl) (yp (pB rfl) (zS rfl (zS rfl (yp (zD rfl rfl) (yp (pB rfl) (zS rfl (zS rfl (yp (zD rfl rfl) (yp (pB rfl) (zS rfl (zS rfl (yp (zD rfl rfl) (yp (pB rfl) (zS rfl (zS rfl (yp (zD rfl rfl) (zf (za ?_))))))))))))))))))))))));exact⟨true,⟨rfl,rfl,rfl,rfl,rfl,trivial⟩,(fun h=>by cases h),.of⟩
   rw[decide_eq_false c2];refine zW rfl (Z6 (pI rfl) (zW rfl (Z6 (ZN rfl rfl) (yp (zQ rfl rfl) (yp (pB rfl) ?_)))));by_cases c3:b<0
   ·rw[decide_eq_true c3];refine zS rfl (zS rfl (yp (zD rfl rfl) (yp (pB rfl) (zS rfl (zS rfl (yp (zD rfl rfl) (yp (pB rfl) (zS rfl (zS rfl (yp (zD rfl rfl) (yp (pB rfl) (zS rfl (zS rfl (yp (zD rfl rfl) (yp (pB rfl) (zS rfl (zS rfl (yp (zD rfl rfl) (zf (za ?_))))))))))))))))))));exact⟨true,⟨rfl,rfl,rfl,rfl,rfl,trivial⟩,(fun h=>by cases h),.of⟩
   rw[decide_eq_false c3];refine zW rfl (Z6 (pI rfl) (zW rfl (Z6 (VK rfl rfl) (yp (zQ rfl rfl) (yp (pB rfl) ?_)))));by_cases c4:9<b
   ·rw[decide_eq_true c4];refine zS rfl (zS rfl (yp (zD rfl rfl) (yp (pB rfl) (zS rfl (zS rfl (yp (zD rfl rfl) (yp (pB rfl) (zS rfl (zS rfl (yp (zD rfl rfl) (yp (pB rfl) (zS rfl (zS rfl (yp (zD rfl rfl) (zf (za ?_))))))))))))))));exact⟨true,⟨rfl,rfl,rfl,rfl,rfl,trivial⟩,(fun h=>by cases h),.of⟩
   rw[decide_eq_false c4];refine zW rfl (Z6 (pI rfl) (zW rfl (Z6 (ZN rfl rfl) (yp (zQ rfl rfl) (yp (pB rfl) ?_)))));by_cases c5:left<1
   ·rw[decide_eq_true c5];refine zS rfl (zS rfl (yp (zD rfl rfl) (yp (pB rfl) (zS rfl (zS rfl (yp (zD rfl rfl) (yp (pB rfl) (zS rfl (zS rfl (yp (zD rfl rfl) (zf (za ?_))))))))))));exact⟨true,⟨rfl,rfl,rfl,rfl,rfl,trivial⟩,(fun h=>by cases h),.of⟩
   rw[decide_eq_false c5];refine zW rfl (Z6 (pI rfl) (zW rfl (Z6 (VK rfl rfl) (yp (zQ rfl rfl) (yp (pB rfl) ?_)))));by_cases c6:1000<left
   ·rw[decide_eq_true c6];refine zS rfl (zS rfl (yp (zD rfl rfl) (yp (pB rfl) (zS rfl (zS rfl (yp (zD rfl rfl) (zf (za ?_))))))));exact⟨true,⟨rfl,rfl,rfl,rfl,rfl,trivial⟩,(fun h=>by cases h),.of⟩
   rw[decide_eq_false c6];refine zW rfl (Z6 (pI rfl) (zW rfl (Z6 (ZN rfl rfl) (yp (zQ rfl rfl) (yp (pB rfl) ?_)))));by_cases c7:by_<0
   ·rw[decide_eq_true c7];refine zS rfl (zS rfl (yp (zD rfl rfl) (zf (za ?_))));exact⟨true,⟨rfl,rfl,rfl,rfl,rfl,trivial⟩,(fun h=>by cases h),.of⟩
   rw[decide_eq_false c7];refine zW rfl (Z6 (pI rfl) (zW rfl (Z6 (VK rfl rfl) (yp (zQ rfl rfl) (zf (za ?_))))));by_cases c8:2000<by_
   ·rw[decide_eq_true c8]
    skip
    exact⟨true,⟨rfl,rfl,rfl,rfl,rfl,trivial⟩,(fun h=>by cases h),.of⟩
   rw[decide_eq_false c8]
   skip
   exact⟨false,⟨rfl,rfl,rfl,rfl,rfl,trivial⟩,fun _=>by omega,.of⟩
  obtain⟨E0,e0⟩:=zu hE; subst e0; clear hE;refine zo hJ ?_;cases c
  ·refine zA rfl (zq (za ?_));exact⟨⟨rfl,rfl,rfl,rfl,trivial⟩,hb rfl,.of⟩
  ·refine zG rfl (ze (z8 ?_));refine zh (zk KD rfl rfl fun r S' h=>?_);obtain⟨rfl,rfl⟩:=h;refine yp (pB rfl) (zf (za (zJ (zX ?_))));exact zH (rB rfl) ⟨_,.of,rfl,rfl⟩
 obtain⟨⟨a0,a9⟩,⟨b0,b9⟩,⟨l1,l2⟩,y0,y2⟩:=hb;obtain⟨_,okA,wA,kA⟩:=dW 1;obtain⟨eB,okB,wB,kB⟩:=sO 2;have hke:Zk (oJ 2)=Zk (Q5 1):=kB.trans kA.symm;obtain⟨E0,e0⟩:=zu hE; subst e0; clear hE;refine zo hJ (ze (z8 ?_));refine zh (zk (pX (N:=4096) (by decide) rfl (by decide)) rfl rfl fun r S' h=>?_);obtain⟨cb,sb,H0,rfl,hS0,rfl⟩:=h;refine yp (pU rfl) (yp (pExt rfl rfl) (yp (pExt rfl rfl) (yp (pP rfl) (yp (pI rfl) (zf (za (ze (ze (z8 (yp (pI rfl) (yp (UL rfl rfl) (yp (pB rfl) (zW rfl (Z6 (pP rfl) (zW rfl (Z6 (wG rfl rfl) (yp (zQ rfl rfl) (yp (pB rfl) (zW rfl (Z6 (pP rfl) (zW rfl ?_)))))))))))))))))))));refine zk (QO [1,97,0] 1) rfl rfl fun r S' h=>?_
 obtain⟨v,HS,rfl,hR,rfl⟩:=h;refine zW rfl (Z6 (pI rfl) (zW rfl (Z6 (pI rfl) (zW rfl ?_))));refine zk (jX (tc:=5000) (nc:=5000) (S0:=[HS]) (cb:=cb) hS0 okA (hR.src (by simp)) (by decide) qO (by decide) a left 0 (by decide)) rfl rfl fun r S' h=>?_
 rw[aJ ⟨by omega,by omega,by omega⟩ (by decide) ⟨a0,a9⟩] at h;obtain⟨rfl,H1,hS1,rfl⟩:=h;rw[show(0:Int)+left=left from by omega] at hS1;have hx1:bK (one (Q5 1) 0 a 0 left [Zk (Q5 1)] []):=kC ⟨by omega,by omega⟩;refine zW rfl (Z6 (UL rfl rfl) (yp (zQ rfl rfl) (zf (za (zA rfl (zq (za (ze (z8 (yp (pP rfl) ?_))))))))));refine zh (zk (QO [1,65,0] 2) rfl rfl fun r S' h=>?_);obtain⟨v2,HS2,rfl,hR2,rfl⟩:=h;refine yp (pI rfl) (yp (pI rfl) ?_);refine zh (zk (jX (tc:=5000) (nc:=5000) (S0:=[HS2]) (cb:=cb) hS1 okB (hR2.src (by simp)) (by show 0+1<_; decide) hx1 (by decide) b 3000 by_ ⟨by omega,by omega⟩) rfl rfl fun r S' h=>?_);by_cases hg:a≤b∨left≤by_
 ·rw[fH ⟨rfl,rfl⟩ (by decide) ⟨y0,by omega⟩ hke hg,tZ eB (by omega) hke ((Qo _ _ _).2 (by omega))] at h;obtain⟨rfl,H2,hS2,rfl⟩:=h;have hth:ZJ (one (oJ 2) 0 b by_ (by_+3000) [Zk (oJ 2)] []) ⟨[1,97,0],1⟩ by_=some (bM (oJ 2) 0 b by_ (by_+3000)):=by rw[U8 (show fk _=_ from(pQ AP 1).trans kB.symm),if_pos (by omega)]
  refine yp (pI rfl) (zf (za (ze (z8 (yp (pP rfl) (yp (pI rfl) ?_))))));refine zh (zk (Kw (tc:=5000) (nc:=5000) (cb:=cb) kP Kr (by decide) hS2 [1,97,0] (by decide) by_ (kC ⟨by omega,by omega⟩) ⟨by omega,by omega⟩ (fun i hi _=>by rw[hth] at hi; cases hi; exact QT _ _)) rfl rfl fun r S' h=>?_);obtain⟨M,HM,hM,hMs,rfl⟩:=h;obtain rfl:=(hM.get hth rfl).one (ru (k:=2) (by decide));obtain⟨ma,mc,rfl⟩:=hMs.isSlice;refine yp (pS rfl) (zf (za (ze ?_)));refine Ws (fun E S'=>Has E [(11,.int .i64 0),(12,.slice ma 1 mc),(77,.bool true)]∧zF S' [HM]) ?_ fun E S' ⟨hE,hJ⟩=>?_
  ·refine z8 (yp (pI rfl) (yp (pI rfl) (yp (Xa rfl rfl) (yp (pB rfl) ?_))));by_cases hab:a≤b
   ·rw[decide_eq_true hab];refine zS rfl (zS rfl (zS rfl (yp (zD rfl rfl) (zf (za ?_)))));exact⟨⟨rfl,rfl,rfl,trivial⟩,.of⟩
   ·rw[decide_eq_false hab];refine zW rfl (Z6 (pI rfl) (zW rfl (Z6 (pI rfl) (zW rfl (Z6 (Xa rfl rfl) (yp (zQ rfl rfl) (zf (za ?_))))))));rw[decide_eq_true (show left≤by_ from by omega)]
    skip
    exact⟨⟨rfl,rfl,rfl,trivial⟩,.of⟩
  obtain⟨E0,e0⟩:=zu hE; subst e0; clear hE;refine zo hJ (zG rfl (ze (z8 (yp (pI rfl) (yp (WZ rfl rfl) (yp (pB rfl) (zW rfl (Z6 (pS rfl) (zW rfl ?_)))))))));refine vU (2:Int) rfl rfl (by decide) (by decide) rfl fun p82=>?_
  refine zW rfl ?_;refine zk (iJ (A:=[2]) (B:=[2]) (S:=[HM,[(p82,.cells (cells [(2:Int)]).toArray 3)]]) (hMs.src (by simp)) (.lit (by repeat (first | exact List.mem_cons_self | apply List.mem_cons_of_mem)) rfl) (by decide)) rfl rfl fun r S' h=>?_
  obtain⟨rfl,h⟩:=h;have h:=h.symm;subst h;refine yp (zD rfl rfl) (yp (pB rfl) (zW rfl ?_));refine zk KD rfl rfl fun r S' h=>?_
  obtain⟨rfl,rfl⟩:=h;refine yp (zD rfl rfl) (yp (pB rfl) (zf (za (zJ (zX ?_)))));exact zH (rB rfl) ⟨[],.of,rfl,rfl⟩
 ·rw[fI ⟨rfl,rfl⟩ (by decide) hke (by omega)] at h;obtain⟨rfl,H2,hS2,rfl⟩:=h;have hth:ZJ (one (Q5 1) 0 a 0 left [Zk (Q5 1)] []) ⟨[1,97,0],1⟩ by_=some (bM (Q5 1) 0 a 0 left):=by rw[U8 (show fk _=_ from(pQ AP 1).trans kA.symm),if_pos (by omega)]
  refine yp (pI rfl) (zf (za (ze (z8 (yp (pP rfl) (yp (pI rfl) ?_))))));refine zh (zk (Kw (tc:=5000) (nc:=5000) (cb:=cb) kP Kr (by decide) hS2 [1,97,0] (by decide) by_ hx1 ⟨by omega,by omega⟩ (fun i hi _=>by rw[hth] at hi; cases hi; exact QT _ _)) rfl rfl fun r S' h=>?_);obtain⟨M,HM,hM,hMs,rfl⟩:=h;obtain rfl:=(hM.get hth rfl).one (ru (k:=1) (by decide));obtain⟨ma,mc,rfl⟩:=hMs.isSlice;refine yp (pS rfl) (zf (za (ze (ze (z8 (yp (pI rfl) (yp (pI rfl) (yp (Xa rfl rfl) (yp (pB rfl) ?_)))))))));rw[decide_eq_false (show ¬a≤b from fun q=>hg (.inl q))];refine zW rfl (Z6 (pI rfl) (zW rfl (Z6 (pI rfl) (zW rfl (Z6 (Xa rfl rfl) (yp (zQ rfl rfl) (zf (za ?_))))))));rw[decide_eq_false (show ¬left≤by_ from fun q=>hg (.inr q))];refine zA rfl (zq (za (ze (z8 (yp (pI rfl) (yp (WZ rfl rfl) (yp (pB rfl) (zW rfl (Z6 (pS rfl) (zW rfl ?_))))))))));refine vU (1:Int) rfl rfl (by decide) (by decide) rfl fun p92=>?_
  refine zW rfl ?_;refine zk (iJ (A:=[1]) (B:=[1]) (S:=[HM,[(p92,.cells (cells [(1:Int)]).toArray 3)]]) (hMs.src (by simp)) (.lit (by repeat (first | exact List.mem_cons_self | apply List.mem_cons_of_mem)) rfl) (by decide)) rfl rfl fun r S' h=>?_
  obtain⟨rfl,h⟩:=h;have h:=h.symm;subst h;refine yp (zD rfl rfl) (yp (pB rfl) (zW rfl ?_));refine zk KD rfl rfl fun r S' h=>?_
  obtain⟨rfl,rfl⟩:=h;refine yp (zD rfl rfl) (yp (pB rfl) (zf (za (zJ ?_))));exact zH (rB rfl) ⟨[],.of,rfl,rfl⟩
end Go.Proofs.YtekgciopamkjlaaGreat