/- Caches (chapter 13): Use, Find, Put, Tick. -/
import Derived.Test.YtekgciopamkjlaaGreatCaD
namespace Go.Proofs.YtekgciopamkjlaaGreat
open Go.Xs
open Enc (enc)
theorem IQ:isAgg? Tryz.prog 70=some true:=by kernel_rfl
theorem Et:sizeOf? Tryz.prog 70=some 7:=by kernel_rfl
theorem pQ(now:Int):Tri Tryz.prog 38 #[.pointer none,.int .i64 now] [] (fun r S'=>r= .int .i64 0∧S'=[]):=by
 refine Tri.forget (zn Tryz.Ni (Nat.le_of_ble_eq_true rfl) ?_);unfold Tryz.x38;refine ze (z8 (yp pC (zf (za (ze (z8 (yp (pP rfl) ?_)))))));refine zh (zk yT rfl rfl fun r S' h=>?_);obtain⟨rfl,rfl⟩:=h;refine yp (pI rfl) ?_;refine zh (zk (eY now) rfl rfl fun r S' h=>?_);obtain⟨rfl,rfl⟩:=h;refine yp (pI rfl) (zf (za (zL ?_)));exact zK (rI rfl) ⟨_,.of,rfl,rfl⟩
/-- what is found, as it is told -/
abbrev NA(i:It)(v:Value)(l:Int):Array Value:= #[sv (Zj i.s).name,.int .i64 (Zj i.s).typ,v,.int .i64 (Zj i.s).kind,sv (Zj i.s).zone,.int .i64 l,.int .i64 i.rank]
abbrev Cc:Array Value:= #[.string ⟨#[]⟩,.int .i64 0,.slice none 0 0,.int .i64 0,.string ⟨#[]⟩,.int .i64 0,.int .i64 0]
def IW(o:Option It)(now:Int)(w:Array Value)(b:Bool)(HR:List Chunk):Prop:=
 (b=false∧o=none∧w=Cc∧HR=[])∨∃i v,b=true∧o=some i∧w=NA i v (YM i.exp now)∧Zf 89 v (Zj i.s).rrs HR
theorem qQ{cb sb N:Nat}{tc nc:Int}{S:Ss}{H:List Chunk}(hS:Sr sb N S H)(k:Ky)(hkl:k.n.length<2 ^ 62)(now:Int)(hx:cZ S)(hn:CG now):
 Tri Tryz.prog 35 #[.pointer (some ⟨cb,0,none⟩),.agg (WS k),.int .i64 now] [Yi cb sb tc nc,H] (fun r S'=>∃w b HR,r= .tuple #[.agg w,.bool b]∧IW (Ul S k now) now w b HR∧S'=[HR,Yi cb sb tc nc,H]):=by
 refine Tri.forget (zn Tryz.Nk (Nat.le_of_ble_eq_true rfl) ?_);unfold Tryz.Ol;refine ze (z8 ?_);refine zh (Zv rfl fun p4=>?_);refine zh (Z8 fun p6=>?_);refine yp pC (zf (za (ze (z8 (yp (pP rfl) ?_)))));refine zh (wC rfl rfl ?_);refine yp (pI rfl) ?_;refine zh (zk (KP (cb:=cb) (tc:=tc) (nc:=nc) hS k hkl now hx hn) rfl rfl fun r S' h=>?_);obtain⟨w,b,HR,rfl,hP,rfl⟩:=h;refine yp (pU rfl) (yp (pExt rfl rfl) (yp (pExt rfl rfl) ?_));refine zh (Z8 fun p8=>?_);refine zh (wz rfl rfl hP.pl.1 rfl hP.pl.2 ?_);refine yp (pB rfl) (zf (za ?_));refine w9 (fun E S'=>∃w b HR,Has E [(2,.int .i64 now),(6,.pointer (some ⟨p6,0,none⟩)),(8,.pointer (some ⟨p8,0,none⟩)),(9,.bool b)]∧((b=false∧Ul S k now=none)∨∃i v,b=true∧Ul S k now=some i∧CG i.exp∧w=mU i v∧Zf 89 v (Zj i.s).rrs HR)∧zG S' [HR,[(p8,.cells w 136)],[(p6,.cells Cc 70)],Yi cb sb tc nc,H]) ?_ fun E S' ⟨w,b,HR,hE,hP,hJ⟩=>?_
 ·rcases hP with⟨rfl,hb,rfl,rfl⟩ | ⟨i,v,rfl,ht,hb,hlt,rfl,hR⟩
  ·refine ze (z8 (yp (pB rfl) (yp (Ze rfl) (yp (pB rfl) (Z0 rfl (Zc (zx rfl) (Z0 rfl ?_)))))));refine(zF rfl rfl ?_);refine Z0 rfl (Zc (UF rfl rfl) (yp (zP rfl rfl) (zf (za ?_))));by_cases ck:k.t=255
   ·rw[ck,decide_eq_true rfl];refine zw rfl (zq (za ?_));exact⟨Yf,_,[],⟨rfl,rfl,rfl,rfl,trivial⟩,.inl ⟨rfl,by unfold Ul; rw[hb]; exact if_pos ck⟩,.of⟩
   ·rw[decide_eq_false ck];refine zI rfl (z8 (yp (pP rfl) (yp (zx rfl) ?_)));refine zh (zF rfl rfl ?_);refine yp (vE (fE rfl) (uM rfl)) (yp (pI rfl) ?_);refine zh (zk (KP (cb:=cb) (tc:=tc) (nc:=nc) hS ⟨k.n,255⟩ hkl now hx hn) rfl rfl fun r S' h=>?_);obtain⟨w,b,HR,rfl,hP,rfl⟩:=h;have hf:Ul S k now=ZP S ⟨k.n,255⟩ now:=by unfold Ul; rw[hb]; exact if_neg ck
    refine yp (pU rfl) (yp (pExt rfl rfl) (yp (pExt rfl rfl) ?_));refine zh (wz rfl rfl hP.pl.1 rfl hP.pl.2 ?_);refine yp (pB rfl) (zf (za ?_));refine⟨w,_,HR,⟨rfl,rfl,rfl,rfl,trivial⟩,?_,.of⟩;rw[hf];rcases hP with⟨h1,h2,_,_⟩ | ⟨i,v,h1,h2,h3,_,h5,h6⟩
    ·exact .inl ⟨h1,h2⟩
    ·exact .inr ⟨i,v,h1,h2,hx.i64 h3,h5,h6⟩
  ·refine ze (z8 (yp (pB rfl) (yp (Ze rfl) (yp (pB rfl) (Z5 rfl (Z5 rfl (Z5 rfl (yp (zU rfl rfl) (zf (za (zw rfl (zq (za ?_)))))))))))));exact⟨_,_,HR,⟨rfl,rfl,rfl,rfl,trivial⟩,.inr ⟨i,v,rfl,by unfold Ul; rw[ht],hx.i64 hb,rfl,hR⟩,.of⟩
 obtain⟨E0,e0⟩:=zl hE; subst e0; clear hE;refine zm hJ ?_;rcases hP with⟨rfl,ho⟩ | ⟨i,v,rfl,ho,hxi,rfl,hR⟩
 ·rw[ho];refine ze (ze (z8 (yp (pB rfl) (yp (Ze rfl) (zf (za (zI rfl (ze (z8 (yp vF ?_))))))))));refine zh (wz rfl rfl rfl rfl rfl ?_);refine yp pC (zf (za (zL (zX ?_))));exact zK (vW (JO (b:=p6) IQ Et rfl rfl) (jg rfl)) ⟨_,.of,_,_,[],rfl,.inl ⟨rfl,rfl,rfl,rfl⟩,rfl⟩
 ·rw[ho];obtain⟨a,c,rfl⟩:=hR.isSlice;refine ze (ze (z8 (yp (pB rfl) (yp (Ze rfl) (zf (za (zw rfl (zq (za ?_)))))))))
  skip
  refine ze (Wn (R:=[[(p8,.cells (mU i (.slice a (Zj i.s).rrs.length c)) 136)]]) (by simp) (zi (zx rfl) (VA (l:=[sv (Zj i.s).name,.int .i64 (Zj i.s).typ,.slice a (Zj i.s).rrs.length c,.int .i64 (Zj i.s).kind,sv (Zj i.s).zone]) rfl rfl rfl (zi (zx rfl) (Zd rfl rfl (zi (pI rfl) (zi (zx rfl) (Zd rfl rfl ?_))))))));refine Zm (zk (eF i.exp now hxi hn) rfl rfl fun r S' h=>?_) zM;obtain⟨rfl,rfl⟩:=h;refine⟨by simp,?_⟩;refine zi (v:= .agg (NA i (.slice a (Zj i.s).rrs.length c) (YM i.exp now))) rfl ?_;refine zH (wz rfl rfl rfl rfl rfl ?_) zM;refine zi pC (zD (za (zL ?_)));exact zK (vW (JO (b:=p6) IQ Et rfl rfl) (jg rfl)) ⟨_,.of,_,_,HR,rfl,.inr ⟨i,_,rfl,rfl,rfl,hR⟩,rfl⟩
theorem aB{cb sb N:Nat}{tc nc:Int}{S:Ss}{H:List Chunk}{S0:zB}{s:St}{v:Value}(hS:Sr sb N S H)(hs:kK s)(hv:Src S0 v s.rrs)(hV:S.V.length+S.I.length<2 ^ 30)(hx:cZ S)(hc:tc≤2147483648∧nc≤2147483648)(r left now:Int)(hn:CG now):
 Tri Tryz.prog 33 #[.pointer (some ⟨cb,0,none⟩),.agg (Jw s v),.int .i64 r,.int .i64 left,.int .i64 now] (Yi cb sb tc nc::H::S0) (fun x S'=>x= .int .i64 (Ud N tc nc s r left now S).2∧∃H',Sr sb N (Ud N tc nc s r left now S).1 H'∧S'=Yi cb sb tc nc::H'::S0):=by
 have hsn:=hs.name;have hl9:Vm tc nc s.kind left≤9223372036854775807:=by unfold Vm Cr; split<;>omega
 refine Tri.forget (zn Tryz.Nl (Nat.le_of_ble_eq_true rfl) ?_);unfold Tryz.Om;obtain⟨va,vc,rfl⟩:=hv.isSlice;refine ze (z8 ?_);refine zh (Zv rfl fun p6=>?_);refine yp pC (zf (za (ze (ze (z8 (yp (pP rfl) (yp (wJ rfl rfl) (zf (za (zw rfl (zq (za (ze (ze (z8 (yp (zx rfl) (yp (zx rfl) ?_)))))))))))))))));refine zh (zF rfl rfl ?_);refine yp (WB rfl rfl) (yp (zx rfl) ?_);refine zh (zF rfl rfl ?_);refine yp (WB rfl rfl) (yp (EP rfl rfl) (zf (za ?_)));by_cases h1:decide (s.typ=255)=decide (s.kind=2)
 ·have e1:(!(decide (s.typ=255)==decide (s.kind=2)))=false:=by rw[h1]; simp
  rw[e1];refine zw rfl (zq (za (ze (ze (z8 (yp (pP rfl) (yp (zx rfl) ?_)))))));refine zh (zF rfl rfl ?_);refine yp (pI rfl) ?_;refine zh (zk (qR (sb:=sb) (tc:=tc) (nc:=nc) s.kind left) rfl rfl fun r' S' h=>?_);obtain⟨rfl,rfl⟩:=h;refine yp (pI rfl) (zf (za (ze (z8 (yp (pI rfl) (yp (WB rfl rfl) (zf (za ?_))))))));by_cases h2:Vm tc nc s.kind left=0
  ·rw[decide_eq_true h2];have e:Ud N tc nc s r left now S=(S,1):=by unfold Ud; rw[if_neg (by simpa using h1),if_pos h2]
   rw[e];refine zI rfl (ze (z8 (yp pC (zf (za (zL (zX ?_)))))));exact zK (rI rfl) ⟨_,.of,rfl,_,hS,rfl⟩
  ·rw[decide_eq_false h2];refine zw rfl (zq (za ?_));have hend:(∀i,ZP S ⟨s.name,s.typ⟩ now=some i→¬r<i.rank)→Ud N tc nc s r left now S=Uv N s r now (xA now (Vm tc nc s.kind left)) S:=fun hb=>by
    unfold Ud;rw[if_neg (by simpa using h1),if_neg h2];cases hi:ZP S ⟨s.name,s.typ⟩ now with
    | none=>rfl
    | some i=>exact if_neg (hb i hi)
   refine UH (fun E S'=>Has E [(0,.pointer (some ⟨cb,0,none⟩)),(2,.int .i64 r),(3,.int .i64 (Vm tc nc s.kind left)),(4,.int .i64 now),(6,.pointer (some ⟨p6,0,none⟩))]∧(∀i,ZP S ⟨s.name,s.typ⟩ now=some i→¬r<i.rank)∧zG S' (Kr p6 s (.slice va s.rrs.length vc)::Yi cb sb tc nc::H::S0)) ?_ fun E S' ⟨hE2,hnr,hJ⟩=>?_
   ·refine w9 (fun E S'=>∃p11 w b HR,Has E [(0,.pointer (some ⟨cb,0,none⟩)),(2,.int .i64 r),(3,.int .i64 (Vm tc nc s.kind left)),(4,.int .i64 now),(6,.pointer (some ⟨p6,0,none⟩)),(11,.pointer (some ⟨p11,0,none⟩)),(12,.bool b)]∧IU S ⟨s.name,s.typ⟩ w b HR∧zG S' (HR::[(p11,.cells w 136)]::Kr p6 s (.slice va s.rrs.length vc)::Yi cb sb tc nc::H::S0)) ?_ fun E S' ⟨p11,w,b,HR,hE,hP,hJ⟩=>?_
    ·refine Wn (R:=[Yi cb sb tc nc,Kr p6 s (.slice va s.rrs.length vc)]) (by simp) (zi (pP rfl) (zi (zS rfl) (zi (zx rfl) (Zd rfl rfl (zi (zx rfl) (VA (l:=[sv s.name,.int .i64 s.typ]) rfl rfl rfl ?_))))));refine zH (zk (UM hS ⟨s.name,s.typ⟩ (by show s.name.length<_; omega)) rfl rfl fun r' S' h=>?_) (Zm (Z8 fun p11=>⟨by simp,?_⟩) zM)
     ·obtain⟨w,b,HR,rfl,hP,rfl⟩:=h;refine zi (pU rfl) (zi (pExt rfl rfl) (zi (pExt rfl rfl) ?_));refine Zm (Z8 fun p11=>⟨(by first | exact fun _ h=>List.mem_cons_of_mem _ h | simp),?_⟩) zM;refine zH (wz rfl rfl hP.pl.1 rfl hP.pl.2 ?_) zM;refine zi (pB rfl) (zD (za ?_));exact⟨p11,w,b,HR,⟨rfl,rfl,rfl,rfl,rfl,rfl,rfl,trivial⟩,hP,.of⟩
     ·refine zH (zk (UM hS ⟨s.name,s.typ⟩ (by show s.name.length<_; omega)) rfl rfl fun r' S' h=>?_) zM;obtain⟨w,b,HR,rfl,hP,rfl⟩:=h;refine zi (pU rfl) (zi (pExt rfl rfl) (zi (pExt rfl rfl) ?_));refine zH (wz rfl rfl hP.pl.1 rfl hP.pl.2 ?_) zM;refine zi (pB rfl) (zD (za ?_));exact⟨p11,w,b,HR,⟨rfl,rfl,rfl,rfl,rfl,rfl,rfl,trivial⟩,hP,.of⟩
    obtain⟨E0,e0⟩:=zl hE; subst e0; clear hE;refine zm hJ ?_;rcases hP with⟨rfl,hb,rfl,rfl⟩ | ⟨i,v,rfl,hb,rfl,hR⟩
    ·refine ze (z8 (yp (pB rfl) (yp (pB rfl) (Z5 rfl (Z5 rfl (Z5 rfl (Z5 rfl (Z5 rfl (yp (zU rfl rfl) (yp (pB rfl) (Z5 rfl (Z5 rfl (Z5 rfl (Z5 rfl (Z5 rfl (yp (zU rfl rfl) (zf (za (zw rfl (zq (za ?_)))))))))))))))))))));exact⟨⟨rfl,rfl,rfl,rfl,rfl,trivial⟩,(fun i hi=>by rw[Uo hb] at hi; cases hi),.of⟩
    ·have hxi:=hx.i64 hb;obtain⟨a,c,rfl⟩:=hR.isSlice;refine ze (z8 (yp (pB rfl) (yp (pB rfl) (Z0 rfl (Zc (zx rfl) (Z0 rfl ?_))))));refine(zF rfl rfl ?_);refine Z0 rfl (Zc (pI rfl) (Z0 rfl ?_));refine zk (eD i.exp now hxi hn) rfl rfl fun r' S' h=>?_
     obtain⟨rfl,rfl⟩:=h;by_cases hle:i.exp≤now
     ·rw[decide_eq_true hle];refine Z0 rfl (Zc (Ze rfl) (yp (zP rfl rfl) (yp (pB rfl) (Z5 rfl (Z5 rfl (Z5 rfl (Z5 rfl (Z5 rfl (yp (zU rfl rfl) (zf (za (zw rfl (zq (za ?_))))))))))))));exact⟨⟨rfl,rfl,rfl,rfl,rfl,trivial⟩,(fun i' hi=>by rw[Vf hb,if_neg (by omega)] at hi; cases hi),.of⟩
     ·rw[decide_eq_false hle];have ht:ZP S ⟨s.name,s.typ⟩ now=some i:=by rw[Vf hb,if_pos (by omega)]
      refine Z0 rfl (Zc (Ze rfl) (yp (zP rfl rfl) (yp (pB rfl) (Z0 rfl (Zc (pI rfl) (Z0 rfl (Zc (zx rfl) (Z0 rfl ?_))))))));refine(zF rfl rfl ?_);refine Z0 rfl ?_;refine zk (fJ r i.rank) rfl rfl fun r' S' h=>?_
      obtain⟨rfl,rfl⟩:=h;by_cases hr:i.rank≤r
      ·rw[decide_eq_true hr];refine Z0 rfl (Zc (Ze rfl) (yp (zP rfl rfl) (zf (za (zw rfl (zq (za ?_)))))));exact⟨⟨rfl,rfl,rfl,rfl,rfl,trivial⟩,(fun i' hi=>by rw[ht] at hi; cases hi; omega),.of⟩
      ·rw[decide_eq_false hr];have e:Ud N tc nc s r left now S=(S,5):=by unfold Ud; rw[if_neg (by simpa using h1),if_neg h2,ht]; exact if_pos (by omega)
       rw[e];refine Z0 rfl (Zc (Ze rfl) (yp (zP rfl rfl) (zf (za (zI rfl (ze (z8 (yp pC (zf (za (zL (zX ?_))))))))))));exact zK (rI rfl) ⟨_,.of,rfl,_,hS,rfl⟩
   rw[hend hnr];obtain⟨E0,e0⟩:=zl hE2; subst e0; clear hE2;refine zm hJ ?_
   skip
   refine ze (Wn (R:=[Kr p6 s (.slice va s.rrs.length vc),Yi cb sb tc nc]) (by simp) (zi (pP rfl) (zi (zS rfl) (zi (zx rfl) (Zd rfl rfl (vH rfl rfl (zi (pI rfl) (zi (pI rfl) (zi (pI rfl) (zi (pI rfl) ?_))))))))));refine Zm (zk (eG now (Vm tc nc s.kind left) ⟨hn.1,hl9⟩) rfl rfl fun r' S' h=>?_) zM;obtain⟨rfl,rfl⟩:=h;refine⟨by simp,?_⟩;refine zH (zk (Eu (S0:=S0) hS hs hv hV r now (xA now (Vm tc nc s.kind left))) rfl rfl fun r' S' h=>?_) zM;obtain⟨rfl,H',hS',rfl⟩:=h;refine zi (pI rfl) (zD (za (zL ?_)));exact zK (rI rfl) ⟨_,.of,rfl,_,hS',rfl⟩
 ·have e1:(!(decide (s.typ=255)==decide (s.kind=2)))=true:=by simpa using h1
  rw[e1];have e:Ud N tc nc s r left now S=(S,1):=by unfold Ud; rw[if_pos (by simpa using h1)]
  rw[e];refine zI rfl (ze (z8 (yp pC (zf (za (zL (zX ?_)))))));exact zK (rI rfl) ⟨_,.of,rfl,_,hS,rfl⟩
end Go.Proofs.YtekgciopamkjlaaGreat