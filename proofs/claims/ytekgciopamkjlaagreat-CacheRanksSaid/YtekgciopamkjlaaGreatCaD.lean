/- Caches (chapter 13): New, Store, Clip, there, Use, Tick. -/
import Derived.Test.YtekgciopamkjlaaGreatCaA
import Derived.Test.YtekgciopamkjlaaGreatC1
namespace Go.Proofs.YtekgciopamkjlaaGreat
open Go.Xs
open Enc (enc)
abbrev Kt(cb sb:Nat)(tc nc:Int):List Chunk:=[(cb,.cells #[.pointer (some ⟨sb,0,none⟩),.int .i64 tc,.int .i64 nc] 133)]
abbrev AZ(z:Int):Prop:= -9223372036854775808≤z∧z≤9223372036854775807
def bK(S:Ss):Prop:=∀i∈S.I,0≤i.exp∧i.exp≤1099511627776
theorem bK.i64{S:Ss}(h:bK S){k:Ky}{i:It}(hb:VE S.I k=some i):AZ i.exp:=by
 have:=h i (jY hb).1;unfold AZ;omega
theorem pX{N:Nat}(hN:2048≤N∧N≤1048576){z tc nc:Int}(hz:z=N)(ht:1≤tc∧tc≤2147483648∧1≤nc∧nc≤2147483648):zP Tryz.prog 31 #[.int .i64 z,.int .i64 tc,.int .i64 nc] [] (fun r S=>∃cb sb H,r= .tuple #[.pointer (some ⟨cb,0,none⟩),.int .i64 0]∧Sr sb N jD H∧S=[Kt cb sb tc nc,H]):=by
 refine zP.forget (zm Tryz.Ed (Nat.le_of_ble_eq_true rfl) ?_);unfold Tryz.x31;refine ze (z8 (yp pC (yp pC (zf (za (ze (z8 (yp (pI rfl) ?_))))))));refine zh (zk (oH hN hz) rfl rfl fun r S' h=>?_);obtain⟨sb,H,rfl,hS,rfl⟩:=h;refine yp (pU rfl) (yp (pExt rfl rfl) (yp (pExt rfl rfl) (yp (pP rfl) (yp (pI rfl) (zf (za (ze (ze (z8 (yp (pI rfl) (yp (UL rfl rfl) (zf (za (zA rfl (zq (za (ze (ze (z8 (yp (pI rfl) (yp (pI rfl) (yp (Yw rfl rfl) (yp (ZN rfl rfl) (yp (pB rfl) ?_))))))))))))))))))))))));rw[decide_eq_false (show ¬min tc nc<1 from by omega)];refine zW rfl (Z6 (pI rfl) (zW rfl (Z6 (pI rfl) (zW rfl (Z6 (Ql rfl rfl) (zW rfl (Z6 (VK rfl rfl) (yp (zQ rfl rfl) (zf (za ?_))))))))));rw[decide_eq_false (show ¬2147483648<max tc nc from by omega)];refine zA rfl (zq (za (ze (z8 (yp (pP rfl) (yp (pI rfl) (yp (pI rfl) (yp (Qn (jh rfl) (uO rfl) (uO rfl)) ?_))))))));refine zh (Zt rfl fun p32=>?_);refine yp (pP rfl) (yp pC (zf (za (zJ ?_))));exact zH (GH rfl rfl) ⟨_,.of,_,_,_,rfl,hS,rfl⟩
theorem AO{N:Nat}(hN:2048≤N∧N≤1048576){z tc nc:Int}(hz:z=N)(ht:tc<1):zP Tryz.prog 31 #[.int .i64 z,.int .i64 tc,.int .i64 nc] [] (fun r S=>r= .tuple #[.pointer none,.int .i64 1]∧S=[]):=by
 refine zP.forget (zm Tryz.Ed (Nat.le_of_ble_eq_true rfl) ?_);unfold Tryz.x31;refine ze (z8 (yp pC (yp pC (zf (za (ze (z8 (yp (pI rfl) ?_))))))));refine zh (zk (oH hN hz) rfl rfl fun r S' h=>?_);obtain⟨sb,H,rfl,hS,rfl⟩:=h;refine yp (pU rfl) (yp (pExt rfl rfl) (yp (pExt rfl rfl) (yp (pP rfl) (yp (pI rfl) (zf (za (ze (ze (z8 (yp (pI rfl) (yp (UL rfl rfl) (zf (za (zA rfl (zq (za (ze (ze (z8 (yp (pI rfl) (yp (pI rfl) (yp (Yw rfl rfl) (yp (ZN rfl rfl) (yp (pB rfl) ?_))))))))))))))))))))))));rw[decide_eq_true (show min tc nc<1 from by omega)];refine zS rfl (zS rfl (zS rfl (zS rfl (yp (zD rfl rfl) (zf (za (zG rfl (ze (z8 (yp pC (yp pC (zf (za (zJ (zX ?_)))))))))))))));exact zH (GH rfl rfl) ⟨_,.of,rfl,rfl⟩
theorem Kv{cb sb:Nat}{tc nc:Int}:zP Tryz.prog 39 #[.pointer (some ⟨cb,0,none⟩)] [Kt cb sb tc nc] (fun r S=>r= .pointer (some ⟨sb,0,none⟩)∧S=[Kt cb sb tc nc]):=by
 refine zP.forget (zm Tryz.Eb (Nat.le_of_ble_eq_true rfl) ?_);unfold Tryz.x39;refine ze (z8 (yp pC (zf (za (ze (ze (z8 (yp (pP rfl) (yp (wG rfl rfl) (zf (za (zA rfl (zq (za (ze (z8 (yp (pP rfl) (yp (zM rfl) (yp (zn rfl) ?_)))))))))))))))))));refine zh (zC rfl rfl ?_);refine yp (pP rfl) (zf (za (zJ ?_)));exact zH (rP rfl) ⟨_,.of,rfl,rfl⟩
theorem yJ:zP Tryz.prog 39 #[.pointer none] [] (fun r S=>r= .pointer none∧S=[]):=by
 refine zP.forget (zm Tryz.Eb (Nat.le_of_ble_eq_true rfl) ?_);unfold Tryz.x39;refine ze (z8 (yp pC (zf (za (ze (ze (z8 (yp (pP rfl) (yp (wG rfl rfl) (zf (za (zG rfl (ze (z8 (yp pC (zf (za (zJ (zX ?_)))))))))))))))))));exact zH (rP rfl) ⟨_,.of,rfl,rfl⟩
theorem qg{cb sb:Nat}{tc nc:Int}(kind t:Int):zP Tryz.prog 75 #[.pointer (some ⟨cb,0,none⟩),.int .i64 kind,.int .i64 t] [Kt cb sb tc nc] (fun r S=>r= .int .i64 (WK tc nc kind t)∧S=[Kt cb sb tc nc]):=by
 refine zP.forget (zm Tryz.IQ (Nat.le_of_ble_eq_true rfl) ?_);unfold Tryz.Mc;unfold WK;refine ze (z8 (yp pC (zf (za (ze (zy (ze (z8 (yp (pP rfl) (yp (wG rfl rfl) (yp (pB rfl) (zf (za (zA rfl (ze (z8 (yp (pI rfl) (yp (WZ rfl rfl) (yp (pB rfl) (zf (za ?_)))))))))))))))))))));by_cases c:kind=0
 ·rw[decide_eq_true c,if_pos c];refine zG rfl (ze (z8 (yp (pI rfl) (yp (pP rfl) (yp (zM rfl) (yp (zn rfl) ?_))))));refine zh (zC rfl rfl ?_);refine zh (zk (oz t tc) rfl rfl fun r S' h=>?_);obtain⟨rfl,rfl⟩:=h;refine yp (pI rfl) (zf (za (zJ (bret (zX ?_)))));exact zH (rI rfl) ⟨_,.of,rfl,rfl⟩
 ·rw[decide_eq_false c,if_neg c];refine zA rfl (zq (zU (za (ze (z8 (yp (pI rfl) (yp (pP rfl) (yp (zM rfl) (yp (zn rfl) ?_)))))))));refine zh (zC rfl rfl ?_);refine zh (zk (oz t nc) rfl rfl fun r S' h=>?_);obtain⟨rfl,rfl⟩:=h;refine yp (pI rfl) (zf (za (zJ ?_)));exact zH (rI rfl) ⟨_,.of,rfl,rfl⟩
/-- what Peek tells, one form for both ends -/
def Gx(S:Ss)(k:Ky)(w:Array Value)(b:Bool)(HR:List Chunk):Prop:=
 (b=false∧VE S.I (fk k)=none∧w=Y5∧HR=[])∨∃i v,b=true∧VE S.I (fk k)=some i∧w=lG i v∧Zc 89 v (Zf i.s).rrs HR
def LQ(S:Ss)(k:Ky)(now:Int)(w:Array Value)(b:Bool)(HR:List Chunk):Prop:=
 (b=false∧ZJ S k now=none∧w=Y5∧HR=[])∨∃i v,b=true∧ZJ S k now=some i∧VE S.I (fk k)=some i∧now<i.exp∧w=lG i v∧Zc 89 v (Zf i.s).rrs HR
theorem gJ{i:It}{v:Value}{H:List Chunk}(hR:Zc 89 v (Zf i.s).rrs H):(lG i v).toList.length=9∧(lG i v).toList.all vR=true:=by
 obtain⟨a,c,rfl⟩:=hR.isSlice;exact⟨rfl,rfl⟩
theorem Gx.pl{S:Ss}{k:Ky}{w:Array Value}{b:Bool}{HR:List Chunk}(h:Gx S k w b HR):w.toList.length=9∧w.toList.all vR=true:=by
 rcases h with⟨_,_,rfl,_⟩ | ⟨i,v,_,_,rfl,hR⟩
 ·exact⟨rfl,rfl⟩
 ·exact gJ hR
theorem LQ.pl{S:Ss}{k:Ky}{now:Int}{w:Array Value}{b:Bool}{HR:List Chunk}(h:LQ S k now w b HR):w.toList.length=9∧w.toList.all vR=true:=by
 rcases h with⟨_,_,rfl,_⟩ | ⟨i,v,_,_,_,_,rfl,hR⟩
 ·exact⟨rfl,rfl⟩
 ·exact gJ hR
theorem UE{sb N:Nat}{S:Ss}{H:List Chunk}(hS:Sr sb N S H)(k:Ky)(hkl:k.n.length<2 ^ 62):
 zP Tryz.prog 79 #[.pointer (some ⟨sb,0,none⟩),.agg (WH k)] [H] (fun r S'=>∃w b HR,r= .tuple #[.agg w,.bool b]∧Gx S k w b HR∧S'=[HR,H]):=
 zP.forget ((sj hS k hkl).mono fun r S' h=>by
  rcases h with⟨h1,rfl,rfl⟩ | ⟨i,v,HR,h1,rfl,hR,rfl⟩
  ·exact⟨[[],H],⟨[],by simp⟩,_,_,[],rfl,.inl ⟨rfl,h1,rfl,rfl⟩,rfl⟩
  ·exact⟨[HR,H],.self,_,_,HR,rfl,.inr ⟨i,v,rfl,h1,rfl,hR⟩,rfl⟩)
theorem Ku{cb sb N:Nat}{tc nc:Int}{S:Ss}{H:List Chunk}(hS:Sr sb N S H)(k:Ky)(hkl:k.n.length<2 ^ 62)(now:Int)(hx:bK S)(hn:AZ now):
 zP Tryz.prog 84 #[.pointer (some ⟨cb,0,none⟩),.agg (WH k),.int .i64 now] [Kt cb sb tc nc,H] (fun r S'=>∃w b HR,r= .tuple #[.agg w,.bool b]∧LQ S k now w b HR∧S'=[HR,Kt cb sb tc nc,H]):=by
 refine zP.forget (zm Tryz.E9 (Nat.le_of_ble_eq_true rfl) ?_);unfold Tryz.GV;refine ze (z8 ?_);refine zh (Zt rfl fun p4=>?_);refine zh (Z8 fun p6=>?_);refine yp pC (zf (za ?_));refine Ws (fun E S'=>∃p8 w b HR,Has E [(2,.int .i64 now),(6,.pointer (some ⟨p6,0,none⟩)),(8,.pointer (some ⟨p8,0,none⟩)),(9,.bool b)]∧Gx S k w b HR∧zF S' [HR,[(p8,.cells w 136)],[(p6,.cells Y5 136)],Kt cb sb tc nc,H]) ?_ fun E S' ⟨p8,w,b,HR,hE,hP,hJ⟩=>?_
 ·refine Wq (R:=[aP p4 k]) (by simp) (zi (pP rfl) (vC rfl rfl ?_));refine Zj (zk (Kv (sb:=sb) (tc:=tc) (nc:=nc)) rfl rfl fun r S' h=>?_) (Zj (Z8 fun p8=>⟨by simp,?_⟩) zO)
  ·obtain⟨rfl,rfl⟩:=h;refine⟨by simp,?_⟩;refine zN (zk (UE hS k hkl) rfl rfl fun r S' h=>?_) (Zj (Z8 fun p8=>⟨by simp,?_⟩) zO)
   ·obtain⟨w,b,HR,rfl,hP,rfl⟩:=h;refine zi (pU rfl) (zi (pExt rfl rfl) (zi (pExt rfl rfl) ?_));refine Zj (Z8 fun p8=>⟨(by first | exact fun _ h=>List.mem_cons_of_mem _ h | simp),?_⟩) zO;refine zN (wm rfl rfl hP.pl.1 rfl hP.pl.2 ?_) zO;refine zi (pB rfl) (zK (za ?_));exact⟨p8,w,b,HR,⟨rfl,rfl,rfl,rfl,trivial⟩,hP,.of⟩
   ·refine zN (zk (UE hS k hkl) rfl rfl fun r S' h=>?_) zO;obtain⟨w,b,HR,rfl,hP,rfl⟩:=h;refine zi (pU rfl) (zi (pExt rfl rfl) (zi (pExt rfl rfl) ?_));refine zN (wm rfl rfl hP.pl.1 rfl hP.pl.2 ?_) zO;refine zi (pB rfl) (zK (za ?_));exact⟨p8,w,b,HR,⟨rfl,rfl,rfl,rfl,trivial⟩,hP,.of⟩
  ·refine Zj (zk (Kv (sb:=sb) (tc:=tc) (nc:=nc)) rfl rfl fun r S' h=>?_) zO;obtain⟨rfl,rfl⟩:=h;refine⟨by simp,?_⟩;refine zN (zk (UE hS k hkl) rfl rfl fun r S' h=>?_) zO;obtain⟨w,b,HR,rfl,hP,rfl⟩:=h;refine zi (pU rfl) (zi (pExt rfl rfl) (zi (pExt rfl rfl) ?_));refine zN (wm rfl rfl hP.pl.1 rfl hP.pl.2 ?_) zO;refine zi (pB rfl) (zK (za ?_));exact⟨p8,w,b,HR,⟨rfl,rfl,rfl,rfl,trivial⟩,hP,.of⟩
 obtain⟨E0,e0⟩:=zu hE; subst e0; clear hE;refine zo hJ (ze (ze (z8 (yp (pB rfl) (yp (Ze rfl) (yp (pB rfl) ?_))))));rcases hP with⟨rfl,hb,rfl,rfl⟩ | ⟨i,v,rfl,hb,rfl,hR⟩
 ·refine zS rfl (zS rfl (zS rfl (zS rfl (yp (zD rfl rfl) (zf (za (zG rfl (ze (z8 (yp vw ?_))))))))));refine zh (wm rfl rfl rfl rfl rfl ?_);refine yp pC (zf (za (zJ (zX ?_))));exact zH (vV (Jw (b:=p6) KJ kL rfl rfl) (KP rfl)) ⟨_,.of,_,_,[],rfl,.inl ⟨rfl,XI hb,rfl,rfl⟩,rfl⟩
 ·have hxi:=hx.i64 hb;obtain⟨a,c,rfl⟩:=hR.isSlice;refine zW rfl (Z6 (zn rfl) (zW rfl ?_));refine(zC rfl rfl ?_);refine zW rfl (Z6 (pI rfl) (zW rfl ?_));refine zk (dA i.exp now hxi hn) rfl rfl fun r S' h=>?_
  obtain⟨rfl,rfl⟩:=h;by_cases hle:i.exp≤now
  ·rw[decide_eq_true hle];refine yp (zQ rfl rfl) (zf (za (zG rfl (ze (z8 (yp vw ?_))))));refine zh (wm rfl rfl rfl rfl rfl ?_);refine yp pC (zf (za (zJ (zX ?_))));exact zH (vV (Jw (b:=p6) KJ kL rfl rfl) (KP rfl)) ⟨_,.of,_,_,[],rfl,.inl ⟨rfl,by rw[Vf hb,if_neg (by omega)],rfl,rfl⟩,rfl⟩
  ·rw[decide_eq_false hle];refine yp (zQ rfl rfl) (zf (za (zA rfl (zq (za (ze (z8 ?_)))))));refine zh (wC rfl rfl ?_);refine zh (wm rfl rfl rfl rfl rfl ?_);refine yp pC (zf (za (zJ ?_)));exact zH (vV (Jw (b:=p6) KJ kL rfl rfl) (KP rfl)) ⟨_,.of,_,_,HR,rfl,.inr ⟨i,_,rfl,by rw[Vf hb,if_pos (by omega)],hb,by omega,rfl,hR⟩,rfl⟩
end Go.Proofs.YtekgciopamkjlaaGreat