/- Caches (chapter 13): New, Store, Clip, there, Use, Tick. -/
import Derived.Test.YtekgciopamkjlaaGreatCaA
import Derived.Test.YtekgciopamkjlaaGreatC1
namespace Go.Proofs.YtekgciopamkjlaaGreat
open Go.Xs
open Enc (enc)
abbrev Uo(cb sb:Nat)(tc nc:Int):List Chunk:=[(cb,.cells #[.pointer (some ⟨sb,0,none⟩),.int .i64 tc,.int .i64 nc] 133)]
abbrev Ep(z:Int):Prop:= -9223372036854775808≤z∧z≤9223372036854775807
def jO(S:Ss):Prop:=∀i∈S.I,0≤i.exp∧i.exp≤1099511627776
theorem jO.i64{S:Ss}(h:jO S){k:Ky}{i:It}(hb:wG S.I k=some i):Ep i.exp:=by
 have:=h i (XW hb).1;unfold Ep;omega
theorem Ke{N:Nat}(hN:2048≤N∧N≤1048576){z tc nc:Int}(hz:z=N)(ht:1≤tc∧tc≤2147483648∧1≤nc∧nc≤2147483648):Tri Tryz.prog 31 #[.int .i64 z,.int .i64 tc,.int .i64 nc] [] (fun r S=>∃cb sb H,r= .tuple #[.pointer (some ⟨cb,0,none⟩),.int .i64 0]∧Sr sb N Ui H∧S=[Uo cb sb tc nc,H]):=by
 refine Tri.forget (zq Tryz.MF (Nat.le_of_ble_eq_true rfl) ?_);unfold Tryz.x31;refine ze (z8 (yp pC (yp pC (zf (za (ze (z8 (yp (pI rfl) ?_))))))));refine zh (zk (Dm hN hz) rfl rfl fun r S' h=>?_);obtain⟨sb,H,rfl,hS,rfl⟩:=h;refine yp (pU rfl) (yp (pExt rfl rfl) (yp (pExt rfl rfl) (yp (pP rfl) (yp (pI rfl) (zf (za (ze (ze (z8 (yp (pI rfl) (yp (WU rfl rfl) (zf (za (zo rfl (zl (za (ze (ze (z8 (yp (pI rfl) (yp (pI rfl) (yp (kE rfl rfl) (yp (ZE rfl rfl) (yp (pB rfl) ?_))))))))))))))))))))))));rw[decide_eq_false (show ¬min tc nc<1 from by omega)];refine zK rfl (zQ (pI rfl) (zK rfl (zQ (pI rfl) (zK rfl (zQ (eZ rfl rfl) (zK rfl (zQ (WS rfl rfl) (yp (zD rfl rfl) (zf (za ?_))))))))));rw[decide_eq_false (show ¬2147483648<max tc nc from by omega)];refine zo rfl (zl (za (ze (z8 (yp (pP rfl) (yp (pI rfl) (yp (pI rfl) (yp (fq (qE rfl) (vH rfl) (vH rfl)) ?_))))))));refine zh (ZC rfl fun p32=>?_);refine yp (pP rfl) (yp pC (zf (za (zJ ?_))));exact zI (P9 rfl rfl) ⟨_,.of,_,_,_,rfl,hS,rfl⟩
theorem GI{N:Nat}(hN:2048≤N∧N≤1048576){z tc nc:Int}(hz:z=N)(ht:tc<1):Tri Tryz.prog 31 #[.int .i64 z,.int .i64 tc,.int .i64 nc] [] (fun r S=>r= .tuple #[.pointer none,.int .i64 1]∧S=[]):=by
 refine Tri.forget (zq Tryz.MF (Nat.le_of_ble_eq_true rfl) ?_);unfold Tryz.x31;refine ze (z8 (yp pC (yp pC (zf (za (ze (z8 (yp (pI rfl) ?_))))))));refine zh (zk (Dm hN hz) rfl rfl fun r S' h=>?_);obtain⟨sb,H,rfl,hS,rfl⟩:=h;refine yp (pU rfl) (yp (pExt rfl rfl) (yp (pExt rfl rfl) (yp (pP rfl) (yp (pI rfl) (zf (za (ze (ze (z8 (yp (pI rfl) (yp (WU rfl rfl) (zf (za (zo rfl (zl (za (ze (ze (z8 (yp (pI rfl) (yp (pI rfl) (yp (kE rfl rfl) (yp (ZE rfl rfl) (yp (pB rfl) ?_))))))))))))))))))))))));rw[decide_eq_true (show min tc nc<1 from by omega)];refine zP rfl (zP rfl (zP rfl (zP rfl (yp (zw rfl rfl) (zf (za (zC rfl (ze (z8 (yp pC (yp pC (zf (za (zJ (zV ?_)))))))))))))));exact zI (P9 rfl rfl) ⟨_,.of,rfl,rfl⟩
theorem VO{cb sb:Nat}{tc nc:Int}:Tri Tryz.prog 39 #[.pointer (some ⟨cb,0,none⟩)] [Uo cb sb tc nc] (fun r S=>r= .pointer (some ⟨sb,0,none⟩)∧S=[Uo cb sb tc nc]):=by
 refine Tri.forget (zq Tryz.MB (Nat.le_of_ble_eq_true rfl) ?_);unfold Tryz.x39;refine ze (z8 (yp pC (zf (za (ze (ze (z8 (yp (pP rfl) (yp (wh rfl rfl) (zf (za (zo rfl (zl (za (ze (z8 (yp (pP rfl) (yp (zX rfl) (yp (zx rfl) ?_)))))))))))))))))));refine zh (zy rfl rfl ?_);refine yp (pP rfl) (zf (za (zJ ?_)));exact zI (rP rfl) ⟨_,.of,rfl,rfl⟩
theorem Kc:Tri Tryz.prog 39 #[.pointer none] [] (fun r S=>r= .pointer none∧S=[]):=by
 refine Tri.forget (zq Tryz.MB (Nat.le_of_ble_eq_true rfl) ?_);unfold Tryz.x39;refine ze (z8 (yp pC (zf (za (ze (ze (z8 (yp (pP rfl) (yp (wh rfl rfl) (zf (za (zC rfl (ze (z8 (yp pC (zf (za (zJ (zV ?_)))))))))))))))))));exact zI (rP rfl) ⟨_,.of,rfl,rfl⟩
theorem cu{cb sb:Nat}{tc nc:Int}(kind t:Int):Tri Tryz.prog 75 #[.pointer (some ⟨cb,0,none⟩),.int .i64 kind,.int .i64 t] [Uo cb sb tc nc] (fun r S=>r= .int .i64 (WJ tc nc kind t)∧S=[Uo cb sb tc nc]):=by
 refine Tri.forget (zq Tryz.Sb (Nat.le_of_ble_eq_true rfl) ?_);unfold Tryz.TQ;unfold WJ;refine ze (z8 (yp pC (zf (za (ze (zu (ze (z8 (yp (pP rfl) (yp (wh rfl rfl) (yp (pB rfl) (zf (za (zo rfl (ze (z8 (yp (pI rfl) (yp (wB rfl rfl) (yp (pB rfl) (zf (za ?_)))))))))))))))))))));by_cases c:kind=0
 ·rw[decide_eq_true c,if_pos c];refine zC rfl (ze (z8 (yp (pI rfl) (yp (pP rfl) (yp (zX rfl) (yp (zx rfl) ?_))))));refine zh (zy rfl rfl ?_);refine zh (zk (Dj t tc) rfl rfl fun r S' h=>?_);obtain⟨rfl,rfl⟩:=h;refine yp (pI rfl) (zf (za (zJ (bret (zV ?_)))));exact zI (rI rfl) ⟨_,.of,rfl,rfl⟩
 ·rw[decide_eq_false c,if_neg c];refine zo rfl (zl (zW (za (ze (z8 (yp (pI rfl) (yp (pP rfl) (yp (zX rfl) (yp (zx rfl) ?_)))))))));refine zh (zy rfl rfl ?_);refine zh (zk (Dj t nc) rfl rfl fun r S' h=>?_);obtain⟨rfl,rfl⟩:=h;refine yp (pI rfl) (zf (za (zJ ?_)));exact zI (rI rfl) ⟨_,.of,rfl,rfl⟩
/-- what Peek tells, one form for both ends -/
def P6(S:Ss)(k:Ky)(w:Array Value)(b:Bool)(HR:List Chunk):Prop:=
 (b=false∧wG S.I (fk k)=none∧w=yD∧HR=[])∨∃i v,b=true∧wG S.I (fk k)=some i∧w=mq i v∧Zg 89 v (Zh i.s).rrs HR
def Tv(S:Ss)(k:Ky)(now:Int)(w:Array Value)(b:Bool)(HR:List Chunk):Prop:=
 (b=false∧Zi S k now=none∧w=yD∧HR=[])∨∃i v,b=true∧Zi S k now=some i∧wG S.I (fk k)=some i∧now<i.exp∧w=mq i v∧Zg 89 v (Zh i.s).rrs HR
theorem JO{i:It}{v:Value}{H:List Chunk}(hR:Zg 89 v (Zh i.s).rrs H):(mq i v).toList.length=9∧(mq i v).toList.all V9=true:=by
 obtain⟨a,c,rfl⟩:=hR.isSlice;exact⟨rfl,rfl⟩
theorem P6.pl{S:Ss}{k:Ky}{w:Array Value}{b:Bool}{HR:List Chunk}(h:P6 S k w b HR):w.toList.length=9∧w.toList.all V9=true:=by
 rcases h with⟨_,_,rfl,_⟩ | ⟨i,v,_,_,rfl,hR⟩
 ·exact⟨rfl,rfl⟩
 ·exact JO hR
theorem Tv.pl{S:Ss}{k:Ky}{now:Int}{w:Array Value}{b:Bool}{HR:List Chunk}(h:Tv S k now w b HR):w.toList.length=9∧w.toList.all V9=true:=by
 rcases h with⟨_,_,rfl,_⟩ | ⟨i,v,_,_,_,_,rfl,hR⟩
 ·exact⟨rfl,rfl⟩
 ·exact JO hR
theorem Xv{sb N:Nat}{S:Ss}{H:List Chunk}(hS:Sr sb N S H)(k:Ky)(hkl:k.n.length<2 ^ 62):
 Tri Tryz.prog 79 #[.pointer (some ⟨sb,0,none⟩),.agg (vC k)] [H] (fun r S'=>∃w b HR,r= .tuple #[.agg w,.bool b]∧P6 S k w b HR∧S'=[HR,H]):=
 Tri.forget ((ET hS k hkl).mono fun r S' h=>by
  rcases h with⟨h1,rfl,rfl⟩ | ⟨i,v,HR,h1,rfl,hR,rfl⟩
  ·exact⟨[[],H],⟨[],by simp⟩,_,_,[],rfl,.inl ⟨rfl,h1,rfl,rfl⟩,rfl⟩
  ·exact⟨[HR,H],.self,_,_,HR,rfl,.inr ⟨i,v,rfl,h1,rfl,hR⟩,rfl⟩)
theorem YB{cb sb N:Nat}{tc nc:Int}{S:Ss}{H:List Chunk}(hS:Sr sb N S H)(k:Ky)(hkl:k.n.length<2 ^ 62)(now:Int)(hx:jO S)(hn:Ep now):
 Tri Tryz.prog 84 #[.pointer (some ⟨cb,0,none⟩),.agg (vC k),.int .i64 now] [Uo cb sb tc nc,H] (fun r S'=>∃w b HR,r= .tuple #[.agg w,.bool b]∧Tv S k now w b HR∧S'=[HR,Uo cb sb tc nc,H]):=by
 refine Tri.forget (zq Tryz.Mw (Nat.le_of_ble_eq_true rfl) ?_);unfold Tryz.Pq;refine ze (z8 ?_);refine zh (ZC rfl fun p4=>?_);refine zh (Z5 fun p6=>?_);refine yp pC (zf (za ?_));refine wz (fun E S'=>∃p8 w b HR,Has E [(2,.int .i64 now),(6,.pointer (some ⟨p6,0,none⟩)),(8,.pointer (some ⟨p8,0,none⟩)),(9,.bool b)]∧P6 S k w b HR∧zG S' [HR,[(p8,.cells w 136)],[(p6,.cells yD 136)],Uo cb sb tc nc,H]) ?_ fun E S' ⟨p8,w,b,HR,hE,hP,hJ⟩=>?_
 ·refine wU (R:=[bN p4 k]) (by simp) (zi (pP rfl) (vO rfl rfl ?_));refine Zd (zk (VO (sb:=sb) (tc:=tc) (nc:=nc)) rfl rfl fun r S' h=>?_) (Zd (Z5 fun p8=>⟨by simp,?_⟩) zN)
  ·obtain⟨rfl,rfl⟩:=h;refine⟨by simp,?_⟩;refine zO (zk (Xv hS k hkl) rfl rfl fun r S' h=>?_) (Zd (Z5 fun p8=>⟨by simp,?_⟩) zN)
   ·obtain⟨w,b,HR,rfl,hP,rfl⟩:=h;refine zi (pU rfl) (zi (pExt rfl rfl) (zi (pExt rfl rfl) ?_));refine Zd (Z5 fun p8=>⟨(by first | exact fun _ h=>List.mem_cons_of_mem _ h | simp),?_⟩) zN;refine zO (Zv rfl rfl hP.pl.1 rfl hP.pl.2 ?_) zN;refine zi (pB rfl) (zH (za ?_));exact⟨p8,w,b,HR,⟨rfl,rfl,rfl,rfl,trivial⟩,hP,.of⟩
   ·refine zO (zk (Xv hS k hkl) rfl rfl fun r S' h=>?_) zN;obtain⟨w,b,HR,rfl,hP,rfl⟩:=h;refine zi (pU rfl) (zi (pExt rfl rfl) (zi (pExt rfl rfl) ?_));refine zO (Zv rfl rfl hP.pl.1 rfl hP.pl.2 ?_) zN;refine zi (pB rfl) (zH (za ?_));exact⟨p8,w,b,HR,⟨rfl,rfl,rfl,rfl,trivial⟩,hP,.of⟩
  ·refine Zd (zk (VO (sb:=sb) (tc:=tc) (nc:=nc)) rfl rfl fun r S' h=>?_) zN;obtain⟨rfl,rfl⟩:=h;refine⟨by simp,?_⟩;refine zO (zk (Xv hS k hkl) rfl rfl fun r S' h=>?_) zN;obtain⟨w,b,HR,rfl,hP,rfl⟩:=h;refine zi (pU rfl) (zi (pExt rfl rfl) (zi (pExt rfl rfl) ?_));refine zO (Zv rfl rfl hP.pl.1 rfl hP.pl.2 ?_) zN;refine zi (pB rfl) (zH (za ?_));exact⟨p8,w,b,HR,⟨rfl,rfl,rfl,rfl,trivial⟩,hP,.of⟩
 obtain⟨E0,e0⟩:=zm hE; subst e0; clear hE;refine zn hJ (ze (ze (z8 (yp (pB rfl) (yp (Za rfl) (yp (pB rfl) ?_))))));rcases hP with⟨rfl,hb,rfl,rfl⟩ | ⟨i,v,rfl,hb,rfl,hR⟩
 ·refine zP rfl (zP rfl (zP rfl (zP rfl (yp (zw rfl rfl) (zf (za (zC rfl (ze (z8 (yp Ww ?_))))))))));refine zh (Zv rfl rfl rfl rfl rfl ?_);refine yp pC (zf (za (zJ (zV ?_))));exact zI (WR (KF (b:=p6) Yb Y5 rfl rfl) (Yl rfl)) ⟨_,.of,_,_,[],rfl,.inl ⟨rfl,wL hb,rfl,rfl⟩,rfl⟩
 ·have hxi:=hx.i64 hb;obtain⟨a,c,rfl⟩:=hR.isSlice;refine zK rfl (zQ (zx rfl) (zK rfl ?_));refine(zy rfl rfl ?_);refine zK rfl (zQ (pI rfl) (zK rfl ?_));refine zk (nH i.exp now hxi hn) rfl rfl fun r S' h=>?_
  obtain⟨rfl,rfl⟩:=h;by_cases hle:i.exp≤now
  ·rw[decide_eq_true hle];refine yp (zD rfl rfl) (zf (za (zC rfl (ze (z8 (yp Ww ?_))))));refine zh (Zv rfl rfl rfl rfl rfl ?_);refine yp pC (zf (za (zJ (zV ?_))));exact zI (WR (KF (b:=p6) Yb Y5 rfl rfl) (Yl rfl)) ⟨_,.of,_,_,[],rfl,.inl ⟨rfl,by rw[wK hb,if_neg (by omega)],rfl,rfl⟩,rfl⟩
  ·rw[decide_eq_false hle];refine yp (zD rfl rfl) (zf (za (zo rfl (zl (za (ze (z8 ?_)))))));refine zh (ZP rfl rfl ?_);refine zh (Zv rfl rfl rfl rfl rfl ?_);refine yp pC (zf (za (zJ ?_)));exact zI (WR (KF (b:=p6) Yb Y5 rfl rfl) (Yl rfl)) ⟨_,.of,_,_,HR,rfl,.inr ⟨i,_,rfl,by rw[wK hb,if_pos (by omega)],hb,by omega,rfl,hR⟩,rfl⟩
end Go.Proofs.YtekgciopamkjlaaGreat