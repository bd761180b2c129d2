/- Caches (chapter 13): New, Store, Clip, there, Use, Tick. -/
import Derived.Test.YtekgciopamkjlaaGreatCaA
import Derived.Test.YtekgciopamkjlaaGreatC1
namespace Go.Proofs.YtekgciopamkjlaaGreat
open Go.Xs
open Enc (enc)
abbrev yV(cb sb:Nat)(tc nc:Int):List Chunk:=[(cb,.cells #[.pointer (some ⟨sb,0,none⟩),.int .i64 tc,.int .i64 nc] 133)]
abbrev BI(z:Int):Prop:= -9223372036854775808≤z∧z≤9223372036854775807
def dx(S:Ss):Prop:=∀i∈S.I,0≤i.exp∧i.exp≤1099511627776
theorem dx.i64{S:Ss}(h:dx S){k:Ky}{i:It}(hb:V6 S.I k=some i):BI i.exp:=by
 have:=h i (Jk hb).1;unfold BI;omega
theorem sD{N:Nat}(hN:2048≤N∧N≤1048576){z tc nc:Int}(hz:z=N)(ht:1≤tc∧tc≤2147483648∧1≤nc∧nc≤2147483648):zP Tryz.prog 31 #[.int .i64 z,.int .i64 tc,.int .i64 nc] [] (fun r S=>∃cb sb H,r= .tuple #[.pointer (some ⟨cb,0,none⟩),.int .i64 0]∧Sr sb N jV H∧S=[yV cb sb tc nc,H]):=by
 refine zP.forget (zl Tryz.EN (Nat.le_of_ble_eq_true rfl) ?_);unfold Tryz.x31;refine ze (z8 (yp pC (yp pC (zf (za (ze (z8 (yp (pI rfl) ?_))))))));refine zh (zk (rJ hN hz) rfl rfl fun r S' h=>?_);obtain⟨sb,H,rfl,hS,rfl⟩:=h;refine yp (pU rfl) (yp (pExt rfl rfl) (yp (pExt rfl rfl) (yp (pP rfl) (yp (pI rfl) (zf (za (ze (ze (z8 (yp (pI rfl) (yp (uO rfl rfl) (zf (za (zx rfl (zq (za (ze (ze (z8 (yp (pI rfl) (yp (pI rfl) (yp (YM rfl rfl) (yp (ZP rfl rfl) (yp (pB rfl) ?_))))))))))))))))))))))));rw[decide_eq_false (show ¬min tc nc<1 from by omega)];refine zY rfl (Z7 (pI rfl) (zY rfl (Z7 (pI rfl) (zY rfl (Z7 (QK rfl rfl) (zY rfl (Z7 (uf rfl rfl) (yp (zQ rfl rfl) (zf (za ?_))))))))));rw[decide_eq_false (show ¬2147483648<max tc nc from by omega)];refine zx rfl (zq (za (ze (z8 (yp (pP rfl) (yp (pI rfl) (yp (pI rfl) (yp (QM (j5 rfl) (u7 rfl) (u7 rfl)) ?_))))))));refine zh (Zp rfl fun p32=>?_);refine yp (pP rfl) (yp pC (zf (za (zH ?_))));exact zG (I6 rfl rfl) ⟨_,.of,_,_,_,rfl,hS,rfl⟩
theorem Bw{N:Nat}(hN:2048≤N∧N≤1048576){z tc nc:Int}(hz:z=N)(ht:tc<1):zP Tryz.prog 31 #[.int .i64 z,.int .i64 tc,.int .i64 nc] [] (fun r S=>r= .tuple #[.pointer none,.int .i64 1]∧S=[]):=by
 refine zP.forget (zl Tryz.EN (Nat.le_of_ble_eq_true rfl) ?_);unfold Tryz.x31;refine ze (z8 (yp pC (yp pC (zf (za (ze (z8 (yp (pI rfl) ?_))))))));refine zh (zk (rJ hN hz) rfl rfl fun r S' h=>?_);obtain⟨sb,H,rfl,hS,rfl⟩:=h;refine yp (pU rfl) (yp (pExt rfl rfl) (yp (pExt rfl rfl) (yp (pP rfl) (yp (pI rfl) (zf (za (ze (ze (z8 (yp (pI rfl) (yp (uO rfl rfl) (zf (za (zx rfl (zq (za (ze (ze (z8 (yp (pI rfl) (yp (pI rfl) (yp (YM rfl rfl) (yp (ZP rfl rfl) (yp (pB rfl) ?_))))))))))))))))))))))));rw[decide_eq_true (show min tc nc<1 from by omega)];refine zW rfl (zW rfl (zW rfl (zW rfl (yp (zK rfl rfl) (zf (za (zF rfl (ze (z8 (yp pC (yp pC (zf (za (zH (zX ?_)))))))))))))));exact zG (I6 rfl rfl) ⟨_,.of,rfl,rfl⟩
theorem uI{cb sb:Nat}{tc nc:Int}:zP Tryz.prog 39 #[.pointer (some ⟨cb,0,none⟩)] [yV cb sb tc nc] (fun r S=>r= .pointer (some ⟨sb,0,none⟩)∧S=[yV cb sb tc nc]):=by
 refine zP.forget (zl Tryz.EK (Nat.le_of_ble_eq_true rfl) ?_);unfold Tryz.x39;refine ze (z8 (yp pC (zf (za (ze (ze (z8 (yp (pP rfl) (yp (wz rfl rfl) (zf (za (zx rfl (zq (za (ze (z8 (yp (pP rfl) (yp (zM rfl) (yp (zn rfl) ?_)))))))))))))))))));refine zh (zB rfl rfl ?_);refine yp (pP rfl) (zf (za (zH ?_)));exact zG (rP rfl) ⟨_,.of,rfl,rfl⟩
theorem yX:zP Tryz.prog 39 #[.pointer none] [] (fun r S=>r= .pointer none∧S=[]):=by
 refine zP.forget (zl Tryz.EK (Nat.le_of_ble_eq_true rfl) ?_);unfold Tryz.x39;refine ze (z8 (yp pC (zf (za (ze (ze (z8 (yp (pP rfl) (yp (wz rfl rfl) (zf (za (zF rfl (ze (z8 (yp pC (zf (za (zH (zX ?_)))))))))))))))))));exact zG (rP rfl) ⟨_,.of,rfl,rfl⟩
theorem qR{cb sb:Nat}{tc nc:Int}(kind t:Int):zP Tryz.prog 75 #[.pointer (some ⟨cb,0,none⟩),.int .i64 kind,.int .i64 t] [yV cb sb tc nc] (fun r S=>r= .int .i64 (vM tc nc kind t)∧S=[yV cb sb tc nc]):=by
 refine zP.forget (zl Tryz.LH (Nat.le_of_ble_eq_true rfl) ?_);unfold Tryz.MO;unfold vM;refine ze (z8 (yp pC (zf (za (ze (zy (ze (z8 (yp (pP rfl) (yp (wz rfl rfl) (yp (pB rfl) (zf (za (zx rfl (ze (z8 (yp (pI rfl) (yp (WT rfl rfl) (yp (pB rfl) (zf (za ?_)))))))))))))))))))));by_cases c:kind=0
 ·rw[decide_eq_true c,if_pos c];refine zF rfl (ze (z8 (yp (pI rfl) (yp (pP rfl) (yp (zM rfl) (yp (zn rfl) ?_))))));refine zh (zB rfl rfl ?_);refine zh (zk (rD t tc) rfl rfl fun r S' h=>?_);obtain⟨rfl,rfl⟩:=h;refine yp (pI rfl) (zf (za (zH (bret (zX ?_)))));exact zG (rI rfl) ⟨_,.of,rfl,rfl⟩
 ·rw[decide_eq_false c,if_neg c];refine zx rfl (zq (zT (za (ze (z8 (yp (pI rfl) (yp (pP rfl) (yp (zM rfl) (yp (zn rfl) ?_)))))))));refine zh (zB rfl rfl ?_);refine zh (zk (rD t nc) rfl rfl fun r S' h=>?_);obtain⟨rfl,rfl⟩:=h;refine yp (pI rfl) (zf (za (zH ?_)));exact zG (rI rfl) ⟨_,.of,rfl,rfl⟩
/-- what Peek tells, one form for both ends -/
def HY(S:Ss)(k:Ky)(w:Array Value)(b:Bool)(HR:List Chunk):Prop:=
 (b=false∧V6 S.I (fk k)=none∧w=Yl∧HR=[])∨∃i v,b=true∧V6 S.I (fk k)=some i∧w=mD i v∧Zc 89 v (Zh i.s).rrs HR
def Mt(S:Ss)(k:Ky)(now:Int)(w:Array Value)(b:Bool)(HR:List Chunk):Prop:=
 (b=false∧ZL S k now=none∧w=Yl∧HR=[])∨∃i v,b=true∧ZL S k now=some i∧V6 S.I (fk k)=some i∧now<i.exp∧w=mD i v∧Zc 89 v (Zh i.s).rrs HR
theorem iG{i:It}{v:Value}{H:List Chunk}(hR:Zc 89 v (Zh i.s).rrs H):(mD i v).toList.length=9∧(mD i v).toList.all WS=true:=by
 obtain⟨a,c,rfl⟩:=hR.isSlice;exact⟨rfl,rfl⟩
theorem HY.pl{S:Ss}{k:Ky}{w:Array Value}{b:Bool}{HR:List Chunk}(h:HY S k w b HR):w.toList.length=9∧w.toList.all WS=true:=by
 rcases h with⟨_,_,rfl,_⟩ | ⟨i,v,_,_,rfl,hR⟩
 ·exact⟨rfl,rfl⟩
 ·exact iG hR
theorem Mt.pl{S:Ss}{k:Ky}{now:Int}{w:Array Value}{b:Bool}{HR:List Chunk}(h:Mt S k now w b HR):w.toList.length=9∧w.toList.all WS=true:=by
 rcases h with⟨_,_,rfl,_⟩ | ⟨i,v,_,_,_,_,rfl,hR⟩
 ·exact⟨rfl,rfl⟩
 ·exact iG hR
theorem UW{sb N:Nat}{S:Ss}{H:List Chunk}(hS:Sr sb N S H)(k:Ky)(hkl:k.n.length<2 ^ 62):
 zP Tryz.prog 79 #[.pointer (some ⟨sb,0,none⟩),.agg (WB k)] [H] (fun r S'=>∃w b HR,r= .tuple #[.agg w,.bool b]∧HY S k w b HR∧S'=[HR,H]):=
 zP.forget ((tL hS k hkl).mono fun r S' h=>by
  rcases h with⟨h1,rfl,rfl⟩ | ⟨i,v,HR,h1,rfl,hR,rfl⟩
  ·exact⟨[[],H],⟨[],by simp⟩,_,_,[],rfl,.inl ⟨rfl,h1,rfl,rfl⟩,rfl⟩
  ·exact⟨[HR,H],.self,_,_,HR,rfl,.inr ⟨i,v,rfl,h1,rfl,hR⟩,rfl⟩)
theorem KP{cb sb N:Nat}{tc nc:Int}{S:Ss}{H:List Chunk}(hS:Sr sb N S H)(k:Ky)(hkl:k.n.length<2 ^ 62)(now:Int)(hx:dx S)(hn:BI now):
 zP Tryz.prog 84 #[.pointer (some ⟨cb,0,none⟩),.agg (WB k),.int .i64 now] [yV cb sb tc nc,H] (fun r S'=>∃w b HR,r= .tuple #[.agg w,.bool b]∧Mt S k now w b HR∧S'=[HR,yV cb sb tc nc,H]):=by
 refine zP.forget (zl Tryz.EI (Nat.le_of_ble_eq_true rfl) ?_);unfold Tryz.Ii;refine ze (z8 ?_);refine zh (Zp rfl fun p4=>?_);refine zh (Z6 fun p6=>?_);refine yp pC (zf (za ?_));refine Wj (fun E S'=>∃p8 w b HR,Has E [(2,.int .i64 now),(6,.pointer (some ⟨p6,0,none⟩)),(8,.pointer (some ⟨p8,0,none⟩)),(9,.bool b)]∧HY S k w b HR∧zD S' [HR,[(p8,.cells w 136)],[(p6,.cells Yl 136)],yV cb sb tc nc,H]) ?_ fun E S' ⟨p8,w,b,HR,hE,hP,hJ⟩=>?_
 ·refine wU (R:=[Yk p4 k]) (by simp) (zi (pP rfl) (Wz rfl rfl ?_));refine Zf (zk (uI (sb:=sb) (tc:=tc) (nc:=nc)) rfl rfl fun r S' h=>?_) (Zf (Z6 fun p8=>⟨by simp,?_⟩) zO)
  ·obtain⟨rfl,rfl⟩:=h;refine⟨by simp,?_⟩;refine zN (zk (UW hS k hkl) rfl rfl fun r S' h=>?_) (Zf (Z6 fun p8=>⟨by simp,?_⟩) zO)
   ·obtain⟨w,b,HR,rfl,hP,rfl⟩:=h;refine zi (pU rfl) (zi (pExt rfl rfl) (zi (pExt rfl rfl) ?_));refine Zf (Z6 fun p8=>⟨(by first | exact fun _ h=>List.mem_cons_of_mem _ h | simp),?_⟩) zO;refine zN (ZX rfl rfl hP.pl.1 rfl hP.pl.2 ?_) zO;refine zi (pB rfl) (zJ (za ?_));exact⟨p8,w,b,HR,⟨rfl,rfl,rfl,rfl,trivial⟩,hP,.of⟩
   ·refine zN (zk (UW hS k hkl) rfl rfl fun r S' h=>?_) zO;obtain⟨w,b,HR,rfl,hP,rfl⟩:=h;refine zi (pU rfl) (zi (pExt rfl rfl) (zi (pExt rfl rfl) ?_));refine zN (ZX rfl rfl hP.pl.1 rfl hP.pl.2 ?_) zO;refine zi (pB rfl) (zJ (za ?_));exact⟨p8,w,b,HR,⟨rfl,rfl,rfl,rfl,trivial⟩,hP,.of⟩
  ·refine Zf (zk (uI (sb:=sb) (tc:=tc) (nc:=nc)) rfl rfl fun r S' h=>?_) zO;obtain⟨rfl,rfl⟩:=h;refine⟨by simp,?_⟩;refine zN (zk (UW hS k hkl) rfl rfl fun r S' h=>?_) zO;obtain⟨w,b,HR,rfl,hP,rfl⟩:=h;refine zi (pU rfl) (zi (pExt rfl rfl) (zi (pExt rfl rfl) ?_));refine zN (ZX rfl rfl hP.pl.1 rfl hP.pl.2 ?_) zO;refine zi (pB rfl) (zJ (za ?_));exact⟨p8,w,b,HR,⟨rfl,rfl,rfl,rfl,trivial⟩,hP,.of⟩
 obtain⟨E0,e0⟩:=zu hE; subst e0; clear hE;refine zo hJ (ze (ze (z8 (yp (pB rfl) (yp (Zd rfl) (yp (pB rfl) ?_))))));rcases hP with⟨rfl,hb,rfl,rfl⟩ | ⟨i,v,rfl,hb,rfl,hR⟩
 ·refine zW rfl (zW rfl (zW rfl (zW rfl (yp (zK rfl rfl) (zf (za (zF rfl (ze (z8 (yp vB ?_))))))))));refine zh (ZX rfl rfl rfl rfl rfl ?_);refine yp pC (zf (za (zH (zX ?_))));exact zG (vU (JY (b:=p6) KY K4 rfl rfl) (j6 rfl)) ⟨_,.of,_,_,[],rfl,.inl ⟨rfl,Us hb,rfl,rfl⟩,rfl⟩
 ·have hxi:=hx.i64 hb;obtain⟨a,c,rfl⟩:=hR.isSlice;refine zY rfl (Z7 (zn rfl) (zY rfl ?_));refine(zB rfl rfl ?_);refine zY rfl (Z7 (pI rfl) (zY rfl ?_));refine zk (eD i.exp now hxi hn) rfl rfl fun r S' h=>?_
  obtain⟨rfl,rfl⟩:=h;by_cases hle:i.exp≤now
  ·rw[decide_eq_true hle];refine yp (zQ rfl rfl) (zf (za (zF rfl (ze (z8 (yp vB ?_))))));refine zh (ZX rfl rfl rfl rfl rfl ?_);refine yp pC (zf (za (zH (zX ?_))));exact zG (vU (JY (b:=p6) KY K4 rfl rfl) (j6 rfl)) ⟨_,.of,_,_,[],rfl,.inl ⟨rfl,by rw[Vg hb,if_neg (by omega)],rfl,rfl⟩,rfl⟩
  ·rw[decide_eq_false hle];refine yp (zQ rfl rfl) (zf (za (zx rfl (zq (za (ze (z8 ?_)))))));refine zh (ZK rfl rfl ?_);refine zh (ZX rfl rfl rfl rfl rfl ?_);refine yp pC (zf (za (zH ?_)));exact zG (vU (JY (b:=p6) KY K4 rfl rfl) (j6 rfl)) ⟨_,.of,_,_,HR,rfl,.inr ⟨i,_,rfl,by rw[Vg hb,if_pos (by omega)],hb,by omega,rfl,hR⟩,rfl⟩
end Go.Proofs.YtekgciopamkjlaaGreat