/- Caches (chapter 13): Use, Find, Put, Tick. -/
import Derived.Test.YtekgciopamkjlaaGreatCaD
namespace Go.Proofs.YtekgciopamkjlaaGreat
open Go.Xs
open Enc (enc)
theorem Hy:isAgg? Tryz.prog 70=some true:=by kernel_rfl
theorem DC:sizeOf? Tryz.prog 70=some 7:=by kernel_rfl
theorem lq{cb sb N:Nat}{tc nc:Int}{S:Ss}{H:List Chunk}(hS:Sr sb N S H)(now:Int)(hV:S.V.length+S.I.length<2 ^ 30):
 zP Tryz.prog 38 #[.pointer (some ⟨cb,0,none⟩),.int .i64 now] [yV cb sb tc nc,H] (fun r S'=>r= .int .i64 ((jr now S).2:Nat)∧∃H',Sr sb N (jr now S).1 H'∧S'=[yV cb sb tc nc,H']):=by
 refine zP.forget (zl Tryz.EL (Nat.le_of_ble_eq_true rfl) ?_);unfold Tryz.x38;refine ze (z8 (yp pC (zf (za (ze (z8 (yp (pP rfl) ?_)))))));refine zh (zk (uI (sb:=sb) (tc:=tc) (nc:=nc)) rfl rfl fun r S' h=>?_);obtain⟨rfl,rfl⟩:=h;refine yp (pI rfl) ?_;refine zh (zk (mX hS now hV) rfl rfl fun r S' h=>?_);obtain⟨rfl,H',hS',rfl⟩:=h;refine yp (pI rfl) (zf (za (zH ?_)));exact zG (rI rfl) ⟨_,.of,rfl,_,hS',rfl⟩
theorem oP(now:Int):zP Tryz.prog 38 #[.pointer none,.int .i64 now] [] (fun r S'=>r= .int .i64 0∧S'=[]):=by
 refine zP.forget (zl Tryz.EL (Nat.le_of_ble_eq_true rfl) ?_);unfold Tryz.x38;refine ze (z8 (yp pC (zf (za (ze (z8 (yp (pP rfl) ?_)))))));refine zh (zk yX rfl rfl fun r S' h=>?_);obtain⟨rfl,rfl⟩:=h;refine yp (pI rfl) ?_;refine zh (zk (eZ now) rfl rfl fun r S' h=>?_);obtain⟨rfl,rfl⟩:=h;refine yp (pI rfl) (zf (za (zH ?_)));exact zG (rI rfl) ⟨_,.of,rfl,rfl⟩
/-- what is found, as it is told -/
abbrev I8(i:It)(v:Value)(l:Int):Array Value:= #[sv (Zh i.s).name,.int .i64 (Zh i.s).typ,v,.int .i64 (Zh i.s).kind,sv (Zh i.s).zone,.int .i64 l,.int .i64 i.rank]
abbrev Bh:Array Value:= #[.string ⟨#[]⟩,.int .i64 0,.slice none 0 0,.int .i64 0,.string ⟨#[]⟩,.int .i64 0,.int .i64 0]
def I4(o:Option It)(now:Int)(w:Array Value)(b:Bool)(HR:List Chunk):Prop:=
 (b=false∧o=none∧w=Bh∧HR=[])∨∃i v,b=true∧o=some i∧w=I8 i v (Uo i.exp now)∧Zc 89 v (Zh i.s).rrs HR
theorem yY{cb sb N:Nat}{tc nc:Int}{S:Ss}{H:List Chunk}(hS:Sr sb N S H)(k:Ky)(hkl:k.n.length<2 ^ 62)(now:Int)(hx:dx S)(hn:BI now):
 zP Tryz.prog 35 #[.pointer (some ⟨cb,0,none⟩),.agg (WB k),.int .i64 now] [yV cb sb tc nc,H] (fun r S'=>∃w b HR,r= .tuple #[.agg w,.bool b]∧I4 (uP S k now) now w b HR∧S'=[HR,yV cb sb tc nc,H]):=by
 refine zP.forget (zl Tryz.Mc (Nat.le_of_ble_eq_true rfl) ?_);unfold Tryz.Nj;refine ze (z8 ?_);refine zh (Zp rfl fun p4=>?_);refine zh (Z6 fun p6=>?_);refine yp pC (zf (za (ze (z8 (yp (pP rfl) ?_)))));refine zh (ZK rfl rfl ?_);refine yp (pI rfl) ?_;refine zh (zk (KP (cb:=cb) (tc:=tc) (nc:=nc) hS k hkl now hx hn) rfl rfl fun r S' h=>?_);obtain⟨w,b,HR,rfl,hP,rfl⟩:=h;refine yp (pU rfl) (yp (pExt rfl rfl) (yp (pExt rfl rfl) ?_));refine zh (Z6 fun p8=>?_);refine zh (ZX rfl rfl hP.pl.1 rfl hP.pl.2 ?_);refine yp (pB rfl) (zf (za ?_));refine Wj (fun E S'=>∃w b HR,Has E [(2,.int .i64 now),(6,.pointer (some ⟨p6,0,none⟩)),(8,.pointer (some ⟨p8,0,none⟩)),(9,.bool b)]∧((b=false∧uP S k now=none)∨∃i v,b=true∧uP S k now=some i∧BI i.exp∧w=mD i v∧Zc 89 v (Zh i.s).rrs HR)∧zD S' [HR,[(p8,.cells w 136)],[(p6,.cells Bh 70)],yV cb sb tc nc,H]) ?_ fun E S' ⟨w,b,HR,hE,hP,hJ⟩=>?_
 ·rcases hP with⟨rfl,hb,rfl,rfl⟩ | ⟨i,v,rfl,ht,hb,hlt,rfl,hR⟩
  ·refine ze (z8 (yp (pB rfl) (yp (Zd rfl) (yp (pB rfl) (zY rfl (Z7 (zn rfl) (zY rfl ?_)))))));refine(zB rfl rfl ?_);refine zY rfl (Z7 (uO rfl rfl) (yp (zK rfl rfl) (zf (za ?_))));by_cases ck:k.t=255
   ·rw[ck,decide_eq_true rfl];refine zx rfl (zq (za ?_));exact⟨Yl,_,[],⟨rfl,rfl,rfl,rfl,trivial⟩,.inl ⟨rfl,by unfold uP; rw[hb]; exact if_pos ck⟩,.of⟩
   ·rw[decide_eq_false ck];refine zF rfl (z8 (yp (pP rfl) (yp (zn rfl) ?_)));refine zh (zB rfl rfl ?_);refine yp (WG (dA rfl) (u7 rfl)) (yp (pI rfl) ?_);refine zh (zk (KP (cb:=cb) (tc:=tc) (nc:=nc) hS ⟨k.n,255⟩ hkl now hx hn) rfl rfl fun r S' h=>?_);obtain⟨w,b,HR,rfl,hP,rfl⟩:=h;have hf:uP S k now=ZL S ⟨k.n,255⟩ now:=by unfold uP; rw[hb]; exact if_neg ck
    refine yp (pU rfl) (yp (pExt rfl rfl) (yp (pExt rfl rfl) ?_));refine zh (ZX rfl rfl hP.pl.1 rfl hP.pl.2 ?_);refine yp (pB rfl) (zf (za ?_));refine⟨w,_,HR,⟨rfl,rfl,rfl,rfl,trivial⟩,?_,.of⟩;rw[hf];rcases hP with⟨h1,h2,_,_⟩ | ⟨i,v,h1,h2,h3,_,h5,h6⟩
    ·exact .inl ⟨h1,h2⟩
    ·exact .inr ⟨i,v,h1,h2,hx.i64 h3,h5,h6⟩
  ·refine ze (z8 (yp (pB rfl) (yp (Zd rfl) (yp (pB rfl) (zW rfl (zW rfl (zW rfl (yp (zQ rfl rfl) (zf (za (zx rfl (zq (za ?_)))))))))))));exact⟨_,_,HR,⟨rfl,rfl,rfl,rfl,trivial⟩,.inr ⟨i,v,rfl,by unfold uP; rw[ht],hx.i64 hb,rfl,hR⟩,.of⟩
 obtain⟨E0,e0⟩:=zu hE; subst e0; clear hE;refine zo hJ ?_;rcases hP with⟨rfl,ho⟩ | ⟨i,v,rfl,ho,hxi,rfl,hR⟩
 ·rw[ho];refine ze (ze (z8 (yp (pB rfl) (yp (Zd rfl) (zf (za (zF rfl (ze (z8 (yp vB ?_))))))))));refine zh (ZX rfl rfl rfl rfl rfl ?_);refine yp pC (zf (za (zH (zX ?_))));exact zG (vU (JY (b:=p6) Hy DC rfl rfl) (j6 rfl)) ⟨_,.of,_,_,[],rfl,.inl ⟨rfl,rfl,rfl,rfl⟩,rfl⟩
 ·rw[ho];obtain⟨a,c,rfl⟩:=hR.isSlice;refine ze (ze (z8 (yp (pB rfl) (yp (Zd rfl) (zf (za (zx rfl (zq (za ?_)))))))))
  skip
  refine ze (wU (R:=[[(p8,.cells (mD i (.slice a (Zh i.s).rrs.length c)) 136)]]) (by simp) (zi (zn rfl) (VA (l:=[sv (Zh i.s).name,.int .i64 (Zh i.s).typ,.slice a (Zh i.s).rrs.length c,.int .i64 (Zh i.s).kind,sv (Zh i.s).zone]) rfl rfl rfl (zi (zn rfl) (Z9 rfl rfl (zi (pI rfl) (zi (zn rfl) (Z9 rfl rfl ?_))))))));refine Zf (zk (eF i.exp now hxi hn) rfl rfl fun r S' h=>?_) zO;obtain⟨rfl,rfl⟩:=h;refine⟨by simp,?_⟩;refine zi (v:= .agg (I8 i (.slice a (Zh i.s).rrs.length c) (Uo i.exp now))) rfl ?_;refine zN (ZX rfl rfl rfl rfl rfl ?_) zO;refine zi pC (zJ (za (zH ?_)));exact zG (vU (JY (b:=p6) Hy DC rfl rfl) (j6 rfl)) ⟨_,.of,_,_,HR,rfl,.inr ⟨i,_,rfl,rfl,rfl,hR⟩,rfl⟩
theorem kH{cb sb N:Nat}{tc nc:Int}{S:Ss}{H:List Chunk}{S0:zw}{s:St}{v:Value}(hS:Sr sb N S H)(hs:kM s)(hv:Src S0 v s.rrs)(hV:S.V.length+S.I.length<2 ^ 30)(hx:dx S)(hc:tc≤2147483648∧nc≤2147483648)(r left now:Int)(hn:BI now):
 zP Tryz.prog 33 #[.pointer (some ⟨cb,0,none⟩),.agg (JU s v),.int .i64 r,.int .i64 left,.int .i64 now] (yV cb sb tc nc::H::S0) (fun x S'=>x= .int .i64 (uW N tc nc s r left now S).2∧∃H',Sr sb N (uW N tc nc s r left now S).1 H'∧S'=yV cb sb tc nc::H'::S0):=by
 have hsn:=hs.name;have hl9:vM tc nc s.kind left≤9223372036854775807:=by unfold vM oO; split<;>omega
 refine zP.forget (zl Tryz.Md (Nat.le_of_ble_eq_true rfl) ?_);unfold Tryz.Nk;obtain⟨va,vc,rfl⟩:=hv.isSlice;refine ze (z8 ?_);refine zh (Zp rfl fun p6=>?_);refine yp pC (zf (za (ze (ze (z8 (yp (pP rfl) (yp (wz rfl rfl) (zf (za (zx rfl (zq (za (ze (ze (z8 (yp (zn rfl) (yp (zn rfl) ?_)))))))))))))))));refine zh (zB rfl rfl ?_);refine yp (WT rfl rfl) (yp (zn rfl) ?_);refine zh (zB rfl rfl ?_);refine yp (WT rfl rfl) (yp (Az rfl rfl) (zf (za ?_)));by_cases h1:decide (s.typ=255)=decide (s.kind=2)
 ·have e1:(!(decide (s.typ=255)==decide (s.kind=2)))=false:=by rw[h1]; simp
  rw[e1];refine zx rfl (zq (za (ze (ze (z8 (yp (pP rfl) (yp (zn rfl) ?_)))))));refine zh (zB rfl rfl ?_);refine yp (pI rfl) ?_;refine zh (zk (qR (sb:=sb) (tc:=tc) (nc:=nc) s.kind left) rfl rfl fun r' S' h=>?_);obtain⟨rfl,rfl⟩:=h;refine yp (pI rfl) (zf (za (ze (z8 (yp (pI rfl) (yp (WT rfl rfl) (zf (za ?_))))))));by_cases h2:vM tc nc s.kind left=0
  ·rw[decide_eq_true h2];have e:uW N tc nc s r left now S=(S,1):=by unfold uW; rw[if_neg (by simpa using h1),if_pos h2]
   rw[e];refine zF rfl (ze (z8 (yp pC (zf (za (zH (zX ?_)))))));exact zG (rI rfl) ⟨_,.of,rfl,_,hS,rfl⟩
  ·rw[decide_eq_false h2];refine zx rfl (zq (za ?_));have hend:(∀i,ZL S ⟨s.name,s.typ⟩ now=some i→¬r<i.rank)→uW N tc nc s r left now S=VN N s r now (xI now (vM tc nc s.kind left)) S:=fun hb=>by
    unfold uW;rw[if_neg (by simpa using h1),if_neg h2];cases hi:ZL S ⟨s.name,s.typ⟩ now with
    | none=>rfl
    | some i=>exact if_neg (hb i hi)
   refine Xi (fun E S'=>Has E [(0,.pointer (some ⟨cb,0,none⟩)),(2,.int .i64 r),(3,.int .i64 (vM tc nc s.kind left)),(4,.int .i64 now),(6,.pointer (some ⟨p6,0,none⟩))]∧(∀i,ZL S ⟨s.name,s.typ⟩ now=some i→¬r<i.rank)∧zD S' (Ko p6 s (.slice va s.rrs.length vc)::yV cb sb tc nc::H::S0)) ?_ fun E S' ⟨hE2,hnr,hJ⟩=>?_
   ·refine Wj (fun E S'=>∃p11 w b HR,Has E [(0,.pointer (some ⟨cb,0,none⟩)),(2,.int .i64 r),(3,.int .i64 (vM tc nc s.kind left)),(4,.int .i64 now),(6,.pointer (some ⟨p6,0,none⟩)),(11,.pointer (some ⟨p11,0,none⟩)),(12,.bool b)]∧HY S ⟨s.name,s.typ⟩ w b HR∧zD S' (HR::[(p11,.cells w 136)]::Ko p6 s (.slice va s.rrs.length vc)::yV cb sb tc nc::H::S0)) ?_ fun E S' ⟨p11,w,b,HR,hE,hP,hJ⟩=>?_
    ·refine wU (R:=[yV cb sb tc nc,Ko p6 s (.slice va s.rrs.length vc)]) (by simp) (zi (pP rfl) (zi (zM rfl) (zi (zn rfl) (Z9 rfl rfl (zi (zn rfl) (VA (l:=[sv s.name,.int .i64 s.typ]) rfl rfl rfl ?_))))));refine zN (zk (UW hS ⟨s.name,s.typ⟩ (by show s.name.length<_; omega)) rfl rfl fun r' S' h=>?_) (Zf (Z6 fun p11=>⟨by simp,?_⟩) zO)
     ·obtain⟨w,b,HR,rfl,hP,rfl⟩:=h;refine zi (pU rfl) (zi (pExt rfl rfl) (zi (pExt rfl rfl) ?_));refine Zf (Z6 fun p11=>⟨(by first | exact fun _ h=>List.mem_cons_of_mem _ h | simp),?_⟩) zO;refine zN (ZX rfl rfl hP.pl.1 rfl hP.pl.2 ?_) zO;refine zi (pB rfl) (zJ (za ?_));exact⟨p11,w,b,HR,⟨rfl,rfl,rfl,rfl,rfl,rfl,rfl,trivial⟩,hP,.of⟩
     ·refine zN (zk (UW hS ⟨s.name,s.typ⟩ (by show s.name.length<_; omega)) rfl rfl fun r' S' h=>?_) zO;obtain⟨w,b,HR,rfl,hP,rfl⟩:=h;refine zi (pU rfl) (zi (pExt rfl rfl) (zi (pExt rfl rfl) ?_));refine zN (ZX rfl rfl hP.pl.1 rfl hP.pl.2 ?_) zO;refine zi (pB rfl) (zJ (za ?_));exact⟨p11,w,b,HR,⟨rfl,rfl,rfl,rfl,rfl,rfl,rfl,trivial⟩,hP,.of⟩
    obtain⟨E0,e0⟩:=zu hE; subst e0; clear hE;refine zo hJ ?_;rcases hP with⟨rfl,hb,rfl,rfl⟩ | ⟨i,v,rfl,hb,rfl,hR⟩
    ·refine ze (z8 (yp (pB rfl) (yp (pB rfl) (zW rfl (zW rfl (zW rfl (zW rfl (zW rfl (yp (zQ rfl rfl) (yp (pB rfl) (zW rfl (zW rfl (zW rfl (zW rfl (zW rfl (yp (zQ rfl rfl) (zf (za (zx rfl (zq (za ?_)))))))))))))))))))));exact⟨⟨rfl,rfl,rfl,rfl,rfl,trivial⟩,(fun i hi=>by rw[Us hb] at hi; cases hi),.of⟩
    ·have hxi:=hx.i64 hb;obtain⟨a,c,rfl⟩:=hR.isSlice;refine ze (z8 (yp (pB rfl) (yp (pB rfl) (zY rfl (Z7 (zn rfl) (zY rfl ?_))))));refine(zB rfl rfl ?_);refine zY rfl (Z7 (pI rfl) (zY rfl ?_));refine zk (eD i.exp now hxi hn) rfl rfl fun r' S' h=>?_
     obtain⟨rfl,rfl⟩:=h;by_cases hle:i.exp≤now
     ·rw[decide_eq_true hle];refine zY rfl (Z7 (Zd rfl) (yp (zK rfl rfl) (yp (pB rfl) (zW rfl (zW rfl (zW rfl (zW rfl (zW rfl (yp (zQ rfl rfl) (zf (za (zx rfl (zq (za ?_))))))))))))));exact⟨⟨rfl,rfl,rfl,rfl,rfl,trivial⟩,(fun i' hi=>by rw[Vg hb,if_neg (by omega)] at hi; cases hi),.of⟩
     ·rw[decide_eq_false hle];have ht:ZL S ⟨s.name,s.typ⟩ now=some i:=by rw[Vg hb,if_pos (by omega)]
      refine zY rfl (Z7 (Zd rfl) (yp (zK rfl rfl) (yp (pB rfl) (zY rfl (Z7 (pI rfl) (zY rfl (Z7 (zn rfl) (zY rfl ?_))))))));refine(zB rfl rfl ?_);refine zY rfl ?_;refine zk (fH r i.rank) rfl rfl fun r' S' h=>?_
      obtain⟨rfl,rfl⟩:=h;by_cases hr:i.rank≤r
      ·rw[decide_eq_true hr];refine zY rfl (Z7 (Zd rfl) (yp (zK rfl rfl) (zf (za (zx rfl (zq (za ?_)))))));exact⟨⟨rfl,rfl,rfl,rfl,rfl,trivial⟩,(fun i' hi=>by rw[ht] at hi; cases hi; omega),.of⟩
      ·rw[decide_eq_false hr];have e:uW N tc nc s r left now S=(S,5):=by unfold uW; rw[if_neg (by simpa using h1),if_neg h2,ht]; exact if_pos (by omega)
       rw[e];refine zY rfl (Z7 (Zd rfl) (yp (zK rfl rfl) (zf (za (zF rfl (ze (z8 (yp pC (zf (za (zH (zX ?_))))))))))));exact zG (rI rfl) ⟨_,.of,rfl,_,hS,rfl⟩
   rw[hend hnr];obtain⟨E0,e0⟩:=zu hE2; subst e0; clear hE2;refine zo hJ ?_
   skip
   refine ze (wU (R:=[Ko p6 s (.slice va s.rrs.length vc),yV cb sb tc nc]) (by simp) (zi (pP rfl) (zi (zM rfl) (zi (zn rfl) (Z9 rfl rfl (Wz rfl rfl (zi (pI rfl) (zi (pI rfl) (zi (pI rfl) (zi (pI rfl) ?_))))))))));refine Zf (zk (eG now (vM tc nc s.kind left) ⟨hn.1,hl9⟩) rfl rfl fun r' S' h=>?_) zO;obtain⟨rfl,rfl⟩:=h;refine⟨by simp,?_⟩;refine zN (zk (DF (S0:=S0) hS hs hv hV r now (xI now (vM tc nc s.kind left))) rfl rfl fun r' S' h=>?_) zO;obtain⟨rfl,H',hS',rfl⟩:=h;refine zi (pI rfl) (zJ (za (zH ?_)));exact zG (rI rfl) ⟨_,.of,rfl,_,hS',rfl⟩
 ·have e1:(!(decide (s.typ=255)==decide (s.kind=2)))=true:=by simpa using h1
  rw[e1];have e:uW N tc nc s r left now S=(S,1):=by unfold uW; rw[if_pos (by simpa using h1)]
  rw[e];refine zF rfl (ze (z8 (yp pC (zf (za (zH (zX ?_)))))));exact zG (rI rfl) ⟨_,.of,rfl,_,hS,rfl⟩
end Go.Proofs.YtekgciopamkjlaaGreat