/- Caches (chapter 13): New, Store, Clip, there, Use, Tick. -/
import Derived.Test.YtekgciopamkjlaaGreatCaA
import Derived.Test.YtekgciopamkjlaaGreatC1
namespace Go.Proofs.YtekgciopamkjlaaGreat
open Go.Xs
open Enc (enc)
abbrev Yi(cb sb:Nat)(tc nc:Int):List Chunk:=[(cb,.cells #[.pointer (some ⟨sb,0,none⟩),.int .i64 tc,.int .i64 nc] 133)]
abbrev CG(z:Int):Prop:= -9223372036854775808≤z∧z≤9223372036854775807
def cZ(S:Ss):Prop:=∀i∈S.I,0≤i.exp∧i.exp≤1099511627776
theorem cZ.i64{S:Ss}(h:cZ S){k:Ky}{i:It}(hb:VJ S.I k=some i):CG i.exp:=by
 have:=h i (Jg hb).1;unfold CG;omega
theorem tO{N:Nat}(hN:2048≤N∧N≤1048576){z tc nc:Int}(hz:z=N)(ht:1≤tc∧tc≤2147483648∧1≤nc∧nc≤2147483648):Tri Tryz.prog 31 #[.int .i64 z,.int .i64 tc,.int .i64 nc] [] (fun r S=>∃cb sb H,r= .tuple #[.pointer (some ⟨cb,0,none⟩),.int .i64 0]∧Sr sb N qd H∧S=[Yi cb sb tc nc,H]):=by
 refine Tri.forget (zn Tryz.FE (Nat.le_of_ble_eq_true rfl) ?_);unfold Tryz.x31;refine ze (z8 (yp pC (yp pC (zf (za (ze (z8 (yp (pI rfl) ?_))))))));refine zh (zk (sj hN hz) rfl rfl fun r S' h=>?_);obtain⟨sb,H,rfl,hS,rfl⟩:=h;refine yp (pU rfl) (yp (pExt rfl rfl) (yp (pExt rfl rfl) (yp (pP rfl) (yp (pI rfl) (zf (za (ze (ze (z8 (yp (pI rfl) (yp (UF rfl rfl) (zf (za (zw rfl (zq (za (ze (ze (z8 (yp (pI rfl) (yp (pI rfl) (yp (YH rfl rfl) (yp (ZL rfl rfl) (yp (pB rfl) ?_))))))))))))))))))))))));rw[decide_eq_false (show ¬min tc nc<1 from by omega)];refine Z0 rfl (Zc (pI rfl) (Z0 rfl (Zc (pI rfl) (Z0 rfl (Zc (QF rfl rfl) (Z0 rfl (Zc (VE rfl rfl) (yp (zU rfl rfl) (zf (za ?_))))))))));rw[decide_eq_false (show ¬2147483648<max tc nc from by omega)];refine zw rfl (zq (za (ze (z8 (yp (pP rfl) (yp (pI rfl) (yp (pI rfl) (yp (QH (jI rfl) (uM rfl) (uM rfl)) ?_))))))));refine zh (Zv rfl fun p32=>?_);refine yp (pP rfl) (yp pC (zf (za (zL ?_))));exact zK (IZ rfl rfl) ⟨_,.of,_,_,_,rfl,hS,rfl⟩
theorem Ct{N:Nat}(hN:2048≤N∧N≤1048576){z tc nc:Int}(hz:z=N)(ht:tc<1):Tri Tryz.prog 31 #[.int .i64 z,.int .i64 tc,.int .i64 nc] [] (fun r S=>r= .tuple #[.pointer none,.int .i64 1]∧S=[]):=by
 refine Tri.forget (zn Tryz.FE (Nat.le_of_ble_eq_true rfl) ?_);unfold Tryz.x31;refine ze (z8 (yp pC (yp pC (zf (za (ze (z8 (yp (pI rfl) ?_))))))));refine zh (zk (sj hN hz) rfl rfl fun r S' h=>?_);obtain⟨sb,H,rfl,hS,rfl⟩:=h;refine yp (pU rfl) (yp (pExt rfl rfl) (yp (pExt rfl rfl) (yp (pP rfl) (yp (pI rfl) (zf (za (ze (ze (z8 (yp (pI rfl) (yp (UF rfl rfl) (zf (za (zw rfl (zq (za (ze (ze (z8 (yp (pI rfl) (yp (pI rfl) (yp (YH rfl rfl) (yp (ZL rfl rfl) (yp (pB rfl) ?_))))))))))))))))))))))));rw[decide_eq_true (show min tc nc<1 from by omega)];refine Z5 rfl (Z5 rfl (Z5 rfl (Z5 rfl (yp (zP rfl rfl) (zf (za (zI rfl (ze (z8 (yp pC (yp pC (zf (za (zL (zX ?_)))))))))))))));exact zK (IZ rfl rfl) ⟨_,.of,rfl,rfl⟩
theorem KQ{cb sb:Nat}{tc nc:Int}:Tri Tryz.prog 39 #[.pointer (some ⟨cb,0,none⟩)] [Yi cb sb tc nc] (fun r S=>r= .pointer (some ⟨sb,0,none⟩)∧S=[Yi cb sb tc nc]):=by
 refine Tri.forget (zn Tryz.FC (Nat.le_of_ble_eq_true rfl) ?_);unfold Tryz.x39;refine ze (z8 (yp pC (zf (za (ze (ze (z8 (yp (pP rfl) (yp (wJ rfl rfl) (zf (za (zw rfl (zq (za (ze (z8 (yp (pP rfl) (yp (zS rfl) (yp (zx rfl) ?_)))))))))))))))))));refine zh (zF rfl rfl ?_);refine yp (pP rfl) (zf (za (zL ?_)));exact zK (rP rfl) ⟨_,.of,rfl,rfl⟩
theorem yT:Tri Tryz.prog 39 #[.pointer none] [] (fun r S=>r= .pointer none∧S=[]):=by
 refine Tri.forget (zn Tryz.FC (Nat.le_of_ble_eq_true rfl) ?_);unfold Tryz.x39;refine ze (z8 (yp pC (zf (za (ze (ze (z8 (yp (pP rfl) (yp (wJ rfl rfl) (zf (za (zI rfl (ze (z8 (yp pC (zf (za (zL (zX ?_)))))))))))))))))));exact zK (rP rfl) ⟨_,.of,rfl,rfl⟩
theorem qR{cb sb:Nat}{tc nc:Int}(kind t:Int):Tri Tryz.prog 75 #[.pointer (some ⟨cb,0,none⟩),.int .i64 kind,.int .i64 t] [Yi cb sb tc nc] (fun r S=>r= .int .i64 (Vm tc nc kind t)∧S=[Yi cb sb tc nc]):=by
 refine Tri.forget (zn Tryz.MQ (Nat.le_of_ble_eq_true rfl) ?_);unfold Tryz.NY;unfold Vm;refine ze (z8 (yp pC (zf (za (ze (zo (ze (z8 (yp (pP rfl) (yp (wJ rfl rfl) (yp (pB rfl) (zf (za (zw rfl (ze (z8 (yp (pI rfl) (yp (WB rfl rfl) (yp (pB rfl) (zf (za ?_)))))))))))))))))))));by_cases c:kind=0
 ·rw[decide_eq_true c,if_pos c];refine zI rfl (ze (z8 (yp (pI rfl) (yp (pP rfl) (yp (zS rfl) (yp (zx rfl) ?_))))));refine zh (zF rfl rfl ?_);refine zh (zk (rY t tc) rfl rfl fun r S' h=>?_);obtain⟨rfl,rfl⟩:=h;refine yp (pI rfl) (zf (za (zL (bret (zX ?_)))));exact zK (rI rfl) ⟨_,.of,rfl,rfl⟩
 ·rw[decide_eq_false c,if_neg c];refine zw rfl (zq (zT (za (ze (z8 (yp (pI rfl) (yp (pP rfl) (yp (zS rfl) (yp (zx rfl) ?_)))))))));refine zh (zF rfl rfl ?_);refine zh (zk (rY t nc) rfl rfl fun r S' h=>?_);obtain⟨rfl,rfl⟩:=h;refine yp (pI rfl) (zf (za (zL ?_)));exact zK (rI rfl) ⟨_,.of,rfl,rfl⟩
/-- what Peek tells, one form for both ends -/
def IU(S:Ss)(k:Ky)(w:Array Value)(b:Bool)(HR:List Chunk):Prop:=
 (b=false∧VJ S.I (fk k)=none∧w=Yf∧HR=[])∨∃i v,b=true∧VJ S.I (fk k)=some i∧w=mU i v∧Zf 89 v (Zj i.s).rrs HR
def ND(S:Ss)(k:Ky)(now:Int)(w:Array Value)(b:Bool)(HR:List Chunk):Prop:=
 (b=false∧ZP S k now=none∧w=Yf∧HR=[])∨∃i v,b=true∧ZP S k now=some i∧VJ S.I (fk k)=some i∧now<i.exp∧w=mU i v∧Zf 89 v (Zj i.s).rrs HR
theorem iL{i:It}{v:Value}{H:List Chunk}(hR:Zf 89 v (Zj i.s).rrs H):(mU i v).toList.length=9∧(mU i v).toList.all vT=true:=by
 obtain⟨a,c,rfl⟩:=hR.isSlice;exact⟨rfl,rfl⟩
theorem IU.pl{S:Ss}{k:Ky}{w:Array Value}{b:Bool}{HR:List Chunk}(h:IU S k w b HR):w.toList.length=9∧w.toList.all vT=true:=by
 rcases h with⟨_,_,rfl,_⟩ | ⟨i,v,_,_,rfl,hR⟩
 ·exact⟨rfl,rfl⟩
 ·exact iL hR
theorem ND.pl{S:Ss}{k:Ky}{now:Int}{w:Array Value}{b:Bool}{HR:List Chunk}(h:ND S k now w b HR):w.toList.length=9∧w.toList.all vT=true:=by
 rcases h with⟨_,_,rfl,_⟩ | ⟨i,v,_,_,_,_,rfl,hR⟩
 ·exact⟨rfl,rfl⟩
 ·exact iL hR
theorem UM{sb N:Nat}{S:Ss}{H:List Chunk}(hS:Sr sb N S H)(k:Ky)(hkl:k.n.length<2 ^ 62):
 Tri Tryz.prog 79 #[.pointer (some ⟨sb,0,none⟩),.agg (WS k)] [H] (fun r S'=>∃w b HR,r= .tuple #[.agg w,.bool b]∧IU S k w b HR∧S'=[HR,H]):=
 Tri.forget ((Aw hS k hkl).mono fun r S' h=>by
  rcases h with⟨h1,rfl,rfl⟩ | ⟨i,v,HR,h1,rfl,hR,rfl⟩
  ·exact⟨[[],H],⟨[],by simp⟩,_,_,[],rfl,.inl ⟨rfl,h1,rfl,rfl⟩,rfl⟩
  ·exact⟨[HR,H],.self,_,_,HR,rfl,.inr ⟨i,v,rfl,h1,rfl,hR⟩,rfl⟩)
theorem KP{cb sb N:Nat}{tc nc:Int}{S:Ss}{H:List Chunk}(hS:Sr sb N S H)(k:Ky)(hkl:k.n.length<2 ^ 62)(now:Int)(hx:cZ S)(hn:CG now):
 Tri Tryz.prog 84 #[.pointer (some ⟨cb,0,none⟩),.agg (WS k),.int .i64 now] [Yi cb sb tc nc,H] (fun r S'=>∃w b HR,r= .tuple #[.agg w,.bool b]∧ND S k now w b HR∧S'=[HR,Yi cb sb tc nc,H]):=by
 refine Tri.forget (zn Tryz.Fz (Nat.le_of_ble_eq_true rfl) ?_);unfold Tryz.Li;refine ze (z8 ?_);refine zh (Zv rfl fun p4=>?_);refine zh (Z8 fun p6=>?_);refine yp pC (zf (za ?_));refine w9 (fun E S'=>∃p8 w b HR,Has E [(2,.int .i64 now),(6,.pointer (some ⟨p6,0,none⟩)),(8,.pointer (some ⟨p8,0,none⟩)),(9,.bool b)]∧IU S k w b HR∧zG S' [HR,[(p8,.cells w 136)],[(p6,.cells Yf 136)],Yi cb sb tc nc,H]) ?_ fun E S' ⟨p8,w,b,HR,hE,hP,hJ⟩=>?_
 ·refine Wn (R:=[bF p4 k]) (by simp) (zi (pP rfl) (vH rfl rfl ?_));refine Zm (zk (KQ (sb:=sb) (tc:=tc) (nc:=nc)) rfl rfl fun r S' h=>?_) (Zm (Z8 fun p8=>⟨by simp,?_⟩) zM)
  ·obtain⟨rfl,rfl⟩:=h;refine⟨by simp,?_⟩;refine zH (zk (UM hS k hkl) rfl rfl fun r S' h=>?_) (Zm (Z8 fun p8=>⟨by simp,?_⟩) zM)
   ·obtain⟨w,b,HR,rfl,hP,rfl⟩:=h;refine zi (pU rfl) (zi (pExt rfl rfl) (zi (pExt rfl rfl) ?_));refine Zm (Z8 fun p8=>⟨(by first | exact fun _ h=>List.mem_cons_of_mem _ h | simp),?_⟩) zM;refine zH (wz rfl rfl hP.pl.1 rfl hP.pl.2 ?_) zM;refine zi (pB rfl) (zD (za ?_));exact⟨p8,w,b,HR,⟨rfl,rfl,rfl,rfl,trivial⟩,hP,.of⟩
   ·refine zH (zk (UM hS k hkl) rfl rfl fun r S' h=>?_) zM;obtain⟨w,b,HR,rfl,hP,rfl⟩:=h;refine zi (pU rfl) (zi (pExt rfl rfl) (zi (pExt rfl rfl) ?_));refine zH (wz rfl rfl hP.pl.1 rfl hP.pl.2 ?_) zM;refine zi (pB rfl) (zD (za ?_));exact⟨p8,w,b,HR,⟨rfl,rfl,rfl,rfl,trivial⟩,hP,.of⟩
  ·refine Zm (zk (KQ (sb:=sb) (tc:=tc) (nc:=nc)) rfl rfl fun r S' h=>?_) zM;obtain⟨rfl,rfl⟩:=h;refine⟨by simp,?_⟩;refine zH (zk (UM hS k hkl) rfl rfl fun r S' h=>?_) zM;obtain⟨w,b,HR,rfl,hP,rfl⟩:=h;refine zi (pU rfl) (zi (pExt rfl rfl) (zi (pExt rfl rfl) ?_));refine zH (wz rfl rfl hP.pl.1 rfl hP.pl.2 ?_) zM;refine zi (pB rfl) (zD (za ?_));exact⟨p8,w,b,HR,⟨rfl,rfl,rfl,rfl,trivial⟩,hP,.of⟩
 obtain⟨E0,e0⟩:=zl hE; subst e0; clear hE;refine zm hJ (ze (ze (z8 (yp (pB rfl) (yp (Ze rfl) (yp (pB rfl) ?_))))));rcases hP with⟨rfl,hb,rfl,rfl⟩ | ⟨i,v,rfl,hb,rfl,hR⟩
 ·refine Z5 rfl (Z5 rfl (Z5 rfl (Z5 rfl (yp (zP rfl rfl) (zf (za (zI rfl (ze (z8 (yp vF ?_))))))))));refine zh (wz rfl rfl rfl rfl rfl ?_);refine yp pC (zf (za (zL (zX ?_))));exact zK (vW (JO (b:=p6) j4 K5 rfl rfl) (jg rfl)) ⟨_,.of,_,_,[],rfl,.inl ⟨rfl,Uo hb,rfl,rfl⟩,rfl⟩
 ·have hxi:=hx.i64 hb;obtain⟨a,c,rfl⟩:=hR.isSlice;refine Z0 rfl (Zc (zx rfl) (Z0 rfl ?_));refine(zF rfl rfl ?_);refine Z0 rfl (Zc (pI rfl) (Z0 rfl ?_));refine zk (eD i.exp now hxi hn) rfl rfl fun r S' h=>?_
  obtain⟨rfl,rfl⟩:=h;by_cases hle:i.exp≤now
  ·rw[decide_eq_true hle];refine yp (zU rfl rfl) (zf (za (zI rfl (ze (z8 (yp vF ?_))))));refine zh (wz rfl rfl rfl rfl rfl ?_);refine yp pC (zf (za (zL (zX ?_))));exact zK (vW (JO (b:=p6) j4 K5 rfl rfl) (jg rfl)) ⟨_,.of,_,_,[],rfl,.inl ⟨rfl,by rw[Vf hb,if_neg (by omega)],rfl,rfl⟩,rfl⟩
  ·rw[decide_eq_false hle];refine yp (zU rfl rfl) (zf (za (zw rfl (zq (za (ze (z8 ?_)))))));refine zh (wC rfl rfl ?_);refine zh (wz rfl rfl rfl rfl rfl ?_);refine yp pC (zf (za (zL ?_)));exact zK (vW (JO (b:=p6) j4 K5 rfl rfl) (jg rfl)) ⟨_,.of,_,_,HR,rfl,.inr ⟨i,_,rfl,by rw[Vf hb,if_pos (by omega)],hb,by omega,rfl,hR⟩,rfl⟩
end Go.Proofs.YtekgciopamkjlaaGreat