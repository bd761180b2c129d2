/- Caches (chapter 13): Use, Find, Put, Tick. -/
import Derived.Test.YtekgciopamkjlaaGreatCaD
namespace Go.Proofs.YtekgciopamkjlaaGreat
open Go.Xs
open Enc (enc)
theorem Gw:isAgg? Tryz.prog 70=some true:=by kernel_rfl
theorem D6:sizeOf? Tryz.prog 70=some 7:=by kernel_rfl
theorem nO(now:Int):zP Tryz.prog 38 #[.pointer none,.int .i64 now] [] (fun r S'=>r= .int .i64 0∧S'=[]):=by
 refine zP.forget (zm Tryz.Lj (Nat.le_of_ble_eq_true rfl) ?_);unfold Tryz.x38;refine ze (z8 (yp pC (zf (za (ze (z8 (yp (pP rfl) ?_)))))));refine zh (zk yJ rfl rfl fun r S' h=>?_);obtain⟨rfl,rfl⟩:=h;refine yp (pI rfl) ?_;refine zh (zk (dL now) rfl rfl fun r S' h=>?_);obtain⟨rfl,rfl⟩:=h;refine yp (pI rfl) (zf (za (zJ ?_)));exact zH (rI rfl) ⟨_,.of,rfl,rfl⟩
/-- what is found, as it is told -/
abbrev LK(i:It)(v:Value)(l:Int):Array Value:= #[sv (Zf i.s).name,.int .i64 (Zf i.s).typ,v,.int .i64 (Zf i.s).kind,sv (Zf i.s).zone,.int .i64 l,.int .i64 i.rank]
abbrev Aq:Array Value:= #[.string ⟨#[]⟩,.int .i64 0,.slice none 0 0,.int .i64 0,.string ⟨#[]⟩,.int .i64 0,.int .i64 0]
def Gz(o:Option It)(now:Int)(w:Array Value)(b:Bool)(HR:List Chunk):Prop:=
 (b=false∧o=none∧w=Aq∧HR=[])∨∃i v,b=true∧o=some i∧w=LK i v (Yz i.exp now)∧Zc 89 v (Zf i.s).rrs HR
theorem qd{cb sb N:Nat}{tc nc:Int}{S:Ss}{H:List Chunk}(hS:Sr sb N S H)(k:Ky)(hkl:k.n.length<2 ^ 62)(now:Int)(hx:bK S)(hn:AZ now):
 zP Tryz.prog 35 #[.pointer (some ⟨cb,0,none⟩),.agg (WH k),.int .i64 now] [Kt cb sb tc nc,H] (fun r S'=>∃w b HR,r= .tuple #[.agg w,.bool b]∧Gz (Ui S k now) now w b HR∧S'=[HR,Kt cb sb tc nc,H]):=by
 refine zP.forget (zm Tryz.Lm (Nat.le_of_ble_eq_true rfl) ?_);unfold Tryz.MC;refine ze (z8 ?_);refine zh (Zt rfl fun p4=>?_);refine zh (Z8 fun p6=>?_);refine yp pC (zf (za (ze (z8 (yp (pP rfl) ?_)))));refine zh (wC rfl rfl ?_);refine yp (pI rfl) ?_;refine zh (zk (Ku (cb:=cb) (tc:=tc) (nc:=nc) hS k hkl now hx hn) rfl rfl fun r S' h=>?_);obtain⟨w,b,HR,rfl,hP,rfl⟩:=h;refine yp (pU rfl) (yp (pExt rfl rfl) (yp (pExt rfl rfl) ?_));refine zh (Z8 fun p8=>?_);refine zh (wm rfl rfl hP.pl.1 rfl hP.pl.2 ?_);refine yp (pB rfl) (zf (za ?_));refine Ws (fun E S'=>∃w b HR,Has E [(2,.int .i64 now),(6,.pointer (some ⟨p6,0,none⟩)),(8,.pointer (some ⟨p8,0,none⟩)),(9,.bool b)]∧((b=false∧Ui S k now=none)∨∃i v,b=true∧Ui S k now=some i∧AZ i.exp∧w=lG i v∧Zc 89 v (Zf i.s).rrs HR)∧zF S' [HR,[(p8,.cells w 136)],[(p6,.cells Aq 70)],Kt cb sb tc nc,H]) ?_ fun E S' ⟨w,b,HR,hE,hP,hJ⟩=>?_
 ·rcases hP with⟨rfl,hb,rfl,rfl⟩ | ⟨i,v,rfl,ht,hb,hlt,rfl,hR⟩
  ·refine ze (z8 (yp (pB rfl) (yp (Ze rfl) (yp (pB rfl) (zW rfl (Z6 (zn rfl) (zW rfl ?_)))))));refine(zC rfl rfl ?_);refine zW rfl (Z6 (UL rfl rfl) (yp (zD rfl rfl) (zf (za ?_))));by_cases ck:k.t=255
   ·rw[ck,decide_eq_true rfl];refine zA rfl (zq (za ?_));exact⟨Y5,_,[],⟨rfl,rfl,rfl,rfl,trivial⟩,.inl ⟨rfl,by unfold Ui; rw[hb]; exact if_pos ck⟩,.of⟩
   ·rw[decide_eq_false ck];refine zG rfl (z8 (yp (pP rfl) (yp (zn rfl) ?_)));refine zh (zC rfl rfl ?_);refine yp (vg (dU rfl) (uO rfl)) (yp (pI rfl) ?_);refine zh (zk (Ku (cb:=cb) (tc:=tc) (nc:=nc) hS ⟨k.n,255⟩ hkl now hx hn) rfl rfl fun r S' h=>?_);obtain⟨w,b,HR,rfl,hP,rfl⟩:=h;have hf:Ui S k now=ZJ S ⟨k.n,255⟩ now:=by unfold Ui; rw[hb]; exact if_neg ck
    refine yp (pU rfl) (yp (pExt rfl rfl) (yp (pExt rfl rfl) ?_));refine zh (wm rfl rfl hP.pl.1 rfl hP.pl.2 ?_);refine yp (pB rfl) (zf (za ?_));refine⟨w,_,HR,⟨rfl,rfl,rfl,rfl,trivial⟩,?_,.of⟩;rw[hf];rcases hP with⟨h1,h2,_,_⟩ | ⟨i,v,h1,h2,h3,_,h5,h6⟩
    ·exact .inl ⟨h1,h2⟩
    ·exact .inr ⟨i,v,h1,h2,hx.i64 h3,h5,h6⟩
  ·refine ze (z8 (yp (pB rfl) (yp (Ze rfl) (yp (pB rfl) (zS rfl (zS rfl (zS rfl (yp (zQ rfl rfl) (zf (za (zA rfl (zq (za ?_)))))))))))));exact⟨_,_,HR,⟨rfl,rfl,rfl,rfl,trivial⟩,.inr ⟨i,v,rfl,by unfold Ui; rw[ht],hx.i64 hb,rfl,hR⟩,.of⟩
 obtain⟨E0,e0⟩:=zu hE; subst e0; clear hE;refine zo hJ ?_;rcases hP with⟨rfl,ho⟩ | ⟨i,v,rfl,ho,hxi,rfl,hR⟩
 ·rw[ho];refine ze (ze (z8 (yp (pB rfl) (yp (Ze rfl) (zf (za (zG rfl (ze (z8 (yp vw ?_))))))))));refine zh (wm rfl rfl rfl rfl rfl ?_);refine yp pC (zf (za (zJ (zX ?_))));exact zH (vV (Jw (b:=p6) Gw D6 rfl rfl) (KP rfl)) ⟨_,.of,_,_,[],rfl,.inl ⟨rfl,rfl,rfl,rfl⟩,rfl⟩
 ·rw[ho];obtain⟨a,c,rfl⟩:=hR.isSlice;refine ze (ze (z8 (yp (pB rfl) (yp (Ze rfl) (zf (za (zA rfl (zq (za ?_)))))))))
  skip
  refine ze (Wq (R:=[[(p8,.cells (lG i (.slice a (Zf i.s).rrs.length c)) 136)]]) (by simp) (zi (zn rfl) (Vu (l:=[sv (Zf i.s).name,.int .i64 (Zf i.s).typ,.slice a (Zf i.s).rrs.length c,.int .i64 (Zf i.s).kind,sv (Zf i.s).zone]) rfl rfl rfl (zi (zn rfl) (Z9 rfl rfl (zi (pI rfl) (zi (zn rfl) (Z9 rfl rfl ?_))))))));refine Zj (zk (dB i.exp now hxi hn) rfl rfl fun r S' h=>?_) zO;obtain⟨rfl,rfl⟩:=h;refine⟨by simp,?_⟩;refine zi (v:= .agg (LK i (.slice a (Zf i.s).rrs.length c) (Yz i.exp now))) rfl ?_;refine zN (wm rfl rfl rfl rfl rfl ?_) zO;refine zi pC (zK (za (zJ ?_)));exact zH (vV (Jw (b:=p6) Gw D6 rfl rfl) (KP rfl)) ⟨_,.of,_,_,HR,rfl,.inr ⟨i,_,rfl,rfl,rfl,hR⟩,rfl⟩
theorem jX{cb sb N:Nat}{tc nc:Int}{S:Ss}{H:List Chunk}{S0:zw}{s:St}{v:Value}(hS:Sr sb N S H)(hs:Y8 s)(hv:Src S0 v s.rrs)(hV:S.V.length+S.I.length<2 ^ 30)(hx:bK S)(hc:tc≤2147483648∧nc≤2147483648)(r left now:Int)(hn:AZ now):
 zP Tryz.prog 33 #[.pointer (some ⟨cb,0,none⟩),.agg (Jt s v),.int .i64 r,.int .i64 left,.int .i64 now] (Kt cb sb tc nc::H::S0) (fun x S'=>x= .int .i64 (VI N tc nc s r left now S).2∧∃H',Sr sb N (VI N tc nc s r left now S).1 H'∧S'=Kt cb sb tc nc::H'::S0):=by
 have hsn:=hs.name;have hl9:WK tc nc s.kind left≤9223372036854775807:=by unfold WK nN; split<;>omega
 refine zP.forget (zm Tryz.Lp (Nat.le_of_ble_eq_true rfl) ?_);unfold Tryz.ME;obtain⟨va,vc,rfl⟩:=hv.isSlice;refine ze (z8 ?_);refine zh (Zt rfl fun p6=>?_);refine yp pC (zf (za (ze (ze (z8 (yp (pP rfl) (yp (wG rfl rfl) (zf (za (zA rfl (zq (za (ze (ze (z8 (yp (zn rfl) (yp (zn rfl) ?_)))))))))))))))));refine zh (zC rfl rfl ?_);refine yp (WZ rfl rfl) (yp (zn rfl) ?_);refine zh (zC rfl rfl ?_);refine yp (WZ rfl rfl) (yp (Dw rfl rfl) (zf (za ?_)));by_cases h1:decide (s.typ=255)=decide (s.kind=2)
 ·have e1:(!(decide (s.typ=255)==decide (s.kind=2)))=false:=by rw[h1]; simp
  rw[e1];refine zA rfl (zq (za (ze (ze (z8 (yp (pP rfl) (yp (zn rfl) ?_)))))));refine zh (zC rfl rfl ?_);refine yp (pI rfl) ?_;refine zh (zk (qg (sb:=sb) (tc:=tc) (nc:=nc) s.kind left) rfl rfl fun r' S' h=>?_);obtain⟨rfl,rfl⟩:=h;refine yp (pI rfl) (zf (za (ze (z8 (yp (pI rfl) (yp (WZ rfl rfl) (zf (za ?_))))))));by_cases h2:WK tc nc s.kind left=0
  ·rw[decide_eq_true h2];have e:VI N tc nc s r left now S=(S,1):=by unfold VI; rw[if_neg (by simpa using h1),if_pos h2]
   rw[e];refine zG rfl (ze (z8 (yp pC (zf (za (zJ (zX ?_)))))));exact zH (rI rfl) ⟨_,.of,rfl,_,hS,rfl⟩
  ·rw[decide_eq_false h2];refine zA rfl (zq (za ?_));have hend:(∀i,ZJ S ⟨s.name,s.typ⟩ now=some i→¬r<i.rank)→VI N tc nc s r left now S=uL N s r now (UZ now (WK tc nc s.kind left)) S:=fun hb=>by
    unfold VI;rw[if_neg (by simpa using h1),if_neg h2];cases hi:ZJ S ⟨s.name,s.typ⟩ now with
    | none=>rfl
    | some i=>exact if_neg (hb i hi)
   refine X3 (fun E S'=>Has E [(0,.pointer (some ⟨cb,0,none⟩)),(2,.int .i64 r),(3,.int .i64 (WK tc nc s.kind left)),(4,.int .i64 now),(6,.pointer (some ⟨p6,0,none⟩))]∧(∀i,ZJ S ⟨s.name,s.typ⟩ now=some i→¬r<i.rank)∧zF S' (K5 p6 s (.slice va s.rrs.length vc)::Kt cb sb tc nc::H::S0)) ?_ fun E S' ⟨hE2,hnr,hJ⟩=>?_
   ·refine Ws (fun E S'=>∃p11 w b HR,Has E [(0,.pointer (some ⟨cb,0,none⟩)),(2,.int .i64 r),(3,.int .i64 (WK tc nc s.kind left)),(4,.int .i64 now),(6,.pointer (some ⟨p6,0,none⟩)),(11,.pointer (some ⟨p11,0,none⟩)),(12,.bool b)]∧Gx S ⟨s.name,s.typ⟩ w b HR∧zF S' (HR::[(p11,.cells w 136)]::K5 p6 s (.slice va s.rrs.length vc)::Kt cb sb tc nc::H::S0)) ?_ fun E S' ⟨p11,w,b,HR,hE,hP,hJ⟩=>?_
    ·refine Wq (R:=[Kt cb sb tc nc,K5 p6 s (.slice va s.rrs.length vc)]) (by simp) (zi (pP rfl) (zi (zM rfl) (zi (zn rfl) (Z9 rfl rfl (zi (zn rfl) (Vu (l:=[sv s.name,.int .i64 s.typ]) rfl rfl rfl ?_))))));refine zN (zk (UE hS ⟨s.name,s.typ⟩ (by show s.name.length<_; omega)) rfl rfl fun r' S' h=>?_) (Zj (Z8 fun p11=>⟨by simp,?_⟩) zO)
     ·obtain⟨w,b,HR,rfl,hP,rfl⟩:=h;refine zi (pU rfl) (zi (pExt rfl rfl) (zi (pExt rfl rfl) ?_));refine Zj (Z8 fun p11=>⟨(by first | exact fun _ h=>List.mem_cons_of_mem _ h | simp),?_⟩) zO;refine zN (wm rfl rfl hP.pl.1 rfl hP.pl.2 ?_) zO;refine zi (pB rfl) (zK (za ?_));exact⟨p11,w,b,HR,⟨rfl,rfl,rfl,rfl,rfl,rfl,rfl,trivial⟩,hP,.of⟩
     ·refine zN (zk (UE hS ⟨s.name,s.typ⟩ (by show s.name.length<_; omega)) rfl rfl fun r' S' h=>?_) zO;obtain⟨w,b,HR,rfl,hP,rfl⟩:=h;refine zi (pU rfl) (zi (pExt rfl rfl) (zi (pExt rfl rfl) ?_));refine zN (wm rfl rfl hP.pl.1 rfl hP.pl.2 ?_) zO;refine zi (pB rfl) (zK (za ?_));exact⟨p11,w,b,HR,⟨rfl,rfl,rfl,rfl,rfl,rfl,rfl,trivial⟩,hP,.of⟩
    obtain⟨E0,e0⟩:=zu hE; subst e0; clear hE;refine zo hJ ?_;rcases hP with⟨rfl,hb,rfl,rfl⟩ | ⟨i,v,rfl,hb,rfl,hR⟩
    ·refine ze (z8 (yp (pB rfl) (yp (pB rfl) (zS rfl (zS rfl (zS rfl (zS rfl (zS rfl (yp (zQ rfl rfl) (yp (pB rfl) (zS rfl (zS rfl (zS rfl (zS rfl (zS rfl (yp (zQ rfl rfl) (zf (za (zA rfl (zq (za ?_)))))))))))))))))))));exact⟨⟨rfl,rfl,rfl,rfl,rfl,trivial⟩,(fun i hi=>by rw[XI hb] at hi; cases hi),.of⟩
    ·have hxi:=hx.i64 hb;obtain⟨a,c,rfl⟩:=hR.isSlice;refine ze (z8 (yp (pB rfl) (yp (pB rfl) (zW rfl (Z6 (zn rfl) (zW rfl ?_))))));refine(zC rfl rfl ?_);refine zW rfl (Z6 (pI rfl) (zW rfl ?_));refine zk (dA i.exp now hxi hn) rfl rfl fun r' S' h=>?_
     obtain⟨rfl,rfl⟩:=h;by_cases hle:i.exp≤now
     ·rw[decide_eq_true hle];refine zW rfl (Z6 (Ze rfl) (yp (zD rfl rfl) (yp (pB rfl) (zS rfl (zS rfl (zS rfl (zS rfl (zS rfl (yp (zQ rfl rfl) (zf (za (zA rfl (zq (za ?_))))))))))))));exact⟨⟨rfl,rfl,rfl,rfl,rfl,trivial⟩,(fun i' hi=>by rw[Vf hb,if_neg (by omega)] at hi; cases hi),.of⟩
     ·rw[decide_eq_false hle];have ht:ZJ S ⟨s.name,s.typ⟩ now=some i:=by rw[Vf hb,if_pos (by omega)]
      refine zW rfl (Z6 (Ze rfl) (yp (zD rfl rfl) (yp (pB rfl) (zW rfl (Z6 (pI rfl) (zW rfl (Z6 (zn rfl) (zW rfl ?_))))))));refine(zC rfl rfl ?_);refine zW rfl ?_;refine zk (dX r i.rank) rfl rfl fun r' S' h=>?_
      obtain⟨rfl,rfl⟩:=h;by_cases hr:i.rank≤r
      ·rw[decide_eq_true hr];refine zW rfl (Z6 (Ze rfl) (yp (zD rfl rfl) (zf (za (zA rfl (zq (za ?_)))))));exact⟨⟨rfl,rfl,rfl,rfl,rfl,trivial⟩,(fun i' hi=>by rw[ht] at hi; cases hi; omega),.of⟩
      ·rw[decide_eq_false hr];have e:VI N tc nc s r left now S=(S,5):=by unfold VI; rw[if_neg (by simpa using h1),if_neg h2,ht]; exact if_pos (by omega)
       rw[e];refine zW rfl (Z6 (Ze rfl) (yp (zD rfl rfl) (zf (za (zG rfl (ze (z8 (yp pC (zf (za (zJ (zX ?_))))))))))));exact zH (rI rfl) ⟨_,.of,rfl,_,hS,rfl⟩
   rw[hend hnr];obtain⟨E0,e0⟩:=zu hE2; subst e0; clear hE2;refine zo hJ ?_
   skip
   refine ze (Wq (R:=[K5 p6 s (.slice va s.rrs.length vc),Kt cb sb tc nc]) (by simp) (zi (pP rfl) (zi (zM rfl) (zi (zn rfl) (Z9 rfl rfl (vC rfl rfl (zi (pI rfl) (zi (pI rfl) (zi (pI rfl) (zi (pI rfl) ?_))))))))));refine Zj (zk (dD now (WK tc nc s.kind left) ⟨hn.1,hl9⟩) rfl rfl fun r' S' h=>?_) zO;obtain⟨rfl,rfl⟩:=h;refine⟨by simp,?_⟩;refine zN (zk (D7 (S0:=S0) hS hs hv hV r now (UZ now (WK tc nc s.kind left))) rfl rfl fun r' S' h=>?_) zO;obtain⟨rfl,H',hS',rfl⟩:=h;refine zi (pI rfl) (zK (za (zJ ?_)));exact zH (rI rfl) ⟨_,.of,rfl,_,hS',rfl⟩
 ·have e1:(!(decide (s.typ=255)==decide (s.kind=2)))=true:=by simpa using h1
  rw[e1];have e:VI N tc nc s r left now S=(S,1):=by unfold VI; rw[if_pos (by simpa using h1)]
  rw[e];refine zG rfl (ze (z8 (yp pC (zf (za (zJ (zX ?_)))))));exact zH (rI rfl) ⟨_,.of,rfl,_,hS,rfl⟩
end Go.Proofs.YtekgciopamkjlaaGreat