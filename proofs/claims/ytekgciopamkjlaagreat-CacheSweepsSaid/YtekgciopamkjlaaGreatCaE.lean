/- Caches (chapter 13): Use, Find, Put, Tick. -/
import Derived.Test.YtekgciopamkjlaaGreatCaD
namespace Go.Proofs.YtekgciopamkjlaaGreat
open Go.Xs
open Enc (enc)
theorem Aq:isAgg? Tryz.prog 70=some true:=by kernel_rfl
theorem nN:sizeOf? Tryz.prog 70=some 7:=by kernel_rfl
def X4(N:Nat)(S:Ss)(k:Ky)(now:Int):Ss:=match Zi S k now with
 | some _=>⟨S.I,Xr ((N/512:Nat):Int) (fk k) S.P S.Q,Xq ((N/512:Nat):Int) (fk k) S.P S.Q,S.V⟩
 | none=>S
theorem aQ{sb N:Nat}{S:Ss}{H:List Chunk}(hS:Sr sb N S H)(k:Ky)(hkl:k.n.length<2 ^ 62)(now:Int):
 Tri Tryz.prog 91 #[.pointer (some ⟨sb,0,none⟩),.agg (vC k),.int .i64 now] [H] (fun r S'=>∃w HR H',r= .tuple #[.agg w,.bool (Zi S k now).isSome]∧w.toList.length=9∧w.toList.all V9=true∧Sr sb N (X4 N S k now) H'∧S'=[HR,H']):=
 Tri.forget ((Lm hS k hkl now).mono fun r S' h=>by
  rcases h with⟨h1,rfl,rfl⟩ | ⟨i,v,HR,H',h1,h2,rfl,hR,hS',rfl⟩
  ·have ht:Zi S k now=none:=by
    unfold Zi;cases hb:wG S.I (fk k) with
    | none=>rfl
    | some i=>exact if_neg (by have:=h1 i hb; omega)
   refine⟨[[],H],⟨[],by simp⟩,yD,[],H,by rw[ht]; rfl,rfl,rfl,?_,rfl⟩;unfold X4;rw[ht];exact hS
  ·have ht:Zi S k now=some i:=by rw[wK h1,if_pos h2]
   refine⟨[HR,H'],.self,_,HR,H',?_,(JO hR).1,(JO hR).2,?_,rfl⟩
   ·rw[ht]; rfl
   ·unfold X4;rw[ht];exact hS')
theorem Eh{cb sb N:Nat}{tc nc:Int}{S:Ss}{H:List Chunk}(hS:Sr sb N S H)(k:Ky)(hkl:k.n.length<2 ^ 62)(now:Int):
 Tri Tryz.prog 44 #[.pointer (some ⟨cb,0,none⟩),.agg (vC k),.int .i64 now] [Uo cb sb tc nc,H] (fun r S'=>r= .bool (Zi S k now).isSome∧∃H',Sr sb N (X4 N S k now) H'∧S'=[Uo cb sb tc nc,H']):=by
 refine Tri.forget (zq Tryz.SL (Nat.le_of_ble_eq_true rfl) ?_);unfold Tryz.x44;refine ze (z8 ?_);refine zh (ZC rfl fun p4=>?_);refine yp pC (zf (za ?_));generalize hb:(Zi S k now).isSome=b;refine wz (fun E S'=>∃H',Has E [(8,.bool b)]∧Sr sb N (X4 N S k now) H'∧zG S' [Uo cb sb tc nc,H']) ?_ fun E S' ⟨H',hE,hS',hJ⟩=>?_
 ·refine wU (R:=[bN p4 k]) (by simp) (zi (pP rfl) (vO rfl rfl (zi (pI rfl) ?_)));refine Zd (zk (VO (sb:=sb) (tc:=tc) (nc:=nc)) rfl rfl fun r S' h=>?_) (Zd (Z5 fun p8=>⟨by simp,?_⟩) zN)
  ·obtain⟨rfl,rfl⟩:=h;refine⟨by simp,?_⟩;refine zO (zk (aQ hS k hkl now) rfl rfl fun r S' h=>?_) (Zd (Z5 fun p8=>⟨by simp,?_⟩) zN)
   ·obtain⟨w,HR,H',rfl,h1,h2,hS',rfl⟩:=h;rw[hb];refine zi (pU rfl) (zi (pExt rfl rfl) (zi (pExt rfl rfl) ?_));refine Zd (Z5 fun p7=>⟨(by first | exact fun _ h=>List.mem_cons_of_mem _ h | simp),?_⟩) zN;refine zO (Zv rfl rfl h1 rfl h2 ?_) zN;refine zi (pB rfl) (zH (za ?_));exact⟨H',⟨rfl,trivial⟩,hS',.of⟩
   ·refine zO (zk (aQ hS k hkl now) rfl rfl fun r S' h=>?_) zN;obtain⟨w,HR,H',rfl,h1,h2,hS',rfl⟩:=h;rw[hb];refine zi (pU rfl) (zi (pExt rfl rfl) (zi (pExt rfl rfl) ?_));refine zO (Zv rfl rfl h1 rfl h2 ?_) zN;refine zi (pB rfl) (zH (za ?_));exact⟨H',⟨rfl,trivial⟩,hS',.of⟩
  ·refine Zd (zk (VO (sb:=sb) (tc:=tc) (nc:=nc)) rfl rfl fun r S' h=>?_) zN;obtain⟨rfl,rfl⟩:=h;refine⟨by simp,?_⟩;refine zO (zk (aQ hS k hkl now) rfl rfl fun r S' h=>?_) zN;obtain⟨w,HR,H',rfl,h1,h2,hS',rfl⟩:=h;rw[hb];refine zi (pU rfl) (zi (pExt rfl rfl) (zi (pExt rfl rfl) ?_));refine zO (Zv rfl rfl h1 rfl h2 ?_) zN;refine zi (pB rfl) (zH (za ?_));exact⟨H',⟨rfl,trivial⟩,hS',.of⟩
 obtain⟨E0,e0⟩:=zm hE; subst e0; clear hE;refine zn hJ (ze (z8 (yp (pB rfl) (yp (pB rfl) (zf (za (zJ ?_)))))));exact zI (rB rfl) ⟨_,.of,rfl,_,hS',rfl⟩
theorem tQ{cb sb N:Nat}{tc nc:Int}{S:Ss}{H:List Chunk}(hS:Sr sb N S H)(now:Int)(hV:S.V.length+S.I.length<2 ^ 30):
 Tri Tryz.prog 38 #[.pointer (some ⟨cb,0,none⟩),.int .i64 now] [Uo cb sb tc nc,H] (fun r S'=>r= .int .i64 ((VY now S).2:Nat)∧∃H',Sr sb N (VY now S).1 H'∧S'=[Uo cb sb tc nc,H']):=by
 refine Tri.forget (zq Tryz.MC (Nat.le_of_ble_eq_true rfl) ?_);unfold Tryz.x38;refine ze (z8 (yp pC (zf (za (ze (z8 (yp (pP rfl) ?_)))))));refine zh (zk (VO (sb:=sb) (tc:=tc) (nc:=nc)) rfl rfl fun r S' h=>?_);obtain⟨rfl,rfl⟩:=h;refine yp (pI rfl) ?_;refine zh (zk (Bh hS now hV) rfl rfl fun r S' h=>?_);obtain⟨rfl,H',hS',rfl⟩:=h;refine yp (pI rfl) (zf (za (zJ ?_)));exact zI (rI rfl) ⟨_,.of,rfl,_,hS',rfl⟩
theorem CO(now:Int):Tri Tryz.prog 38 #[.pointer none,.int .i64 now] [] (fun r S'=>r= .int .i64 0∧S'=[]):=by
 refine Tri.forget (zq Tryz.MC (Nat.le_of_ble_eq_true rfl) ?_);unfold Tryz.x38;refine ze (z8 (yp pC (zf (za (ze (z8 (yp (pP rfl) ?_)))))));refine zh (zk Kc rfl rfl fun r S' h=>?_);obtain⟨rfl,rfl⟩:=h;refine yp (pI rfl) ?_;refine zh (zk (nS now) rfl rfl fun r S' h=>?_);obtain⟨rfl,rfl⟩:=h;refine yp (pI rfl) (zf (za (zJ ?_)));exact zI (rI rfl) ⟨_,.of,rfl,rfl⟩
/-- what is found, as it is told -/
abbrev Pe(i:It)(v:Value)(l:Int):Array Value:= #[sv (Zh i.s).name,.int .i64 (Zh i.s).typ,v,.int .i64 (Zh i.s).kind,sv (Zh i.s).zone,.int .i64 l,.int .i64 i.rank]
abbrev sP:Array Value:= #[.string ⟨#[]⟩,.int .i64 0,.slice none 0 0,.int .i64 0,.string ⟨#[]⟩,.int .i64 0,.int .i64 0]
def GR(o:Option It)(now:Int)(w:Array Value)(b:Bool)(HR:List Chunk):Prop:=
 (b=false∧o=none∧w=sP∧HR=[])∨∃i v,b=true∧o=some i∧w=Pe i v (Uz i.exp now)∧Zg 89 v (Zh i.s).rrs HR
theorem WT{cb sb N:Nat}{tc nc:Int}{S:Ss}{H:List Chunk}(hS:Sr sb N S H)(k:Ky)(hkl:k.n.length<2 ^ 62)(now:Int)(hx:jO S)(hn:Ep now):
 Tri Tryz.prog 35 #[.pointer (some ⟨cb,0,none⟩),.agg (vC k),.int .i64 now] [Uo cb sb tc nc,H] (fun r S'=>∃w b HR,r= .tuple #[.agg w,.bool b]∧GR (WG S k now) now w b HR∧S'=[HR,Uo cb sb tc nc,H]):=by
 refine Tri.forget (zq Tryz.SX (Nat.le_of_ble_eq_true rfl) ?_);unfold Tryz.x35;refine ze (z8 ?_);refine zh (ZC rfl fun p4=>?_);refine zh (Z5 fun p6=>?_);refine yp pC (zf (za (ze (z8 (yp (pP rfl) ?_)))));refine zh (ZP rfl rfl ?_);refine yp (pI rfl) ?_;refine zh (zk (YB (cb:=cb) (tc:=tc) (nc:=nc) hS k hkl now hx hn) rfl rfl fun r S' h=>?_);obtain⟨w,b,HR,rfl,hP,rfl⟩:=h;refine yp (pU rfl) (yp (pExt rfl rfl) (yp (pExt rfl rfl) ?_));refine zh (Z5 fun p8=>?_);refine zh (Zv rfl rfl hP.pl.1 rfl hP.pl.2 ?_);refine yp (pB rfl) (zf (za ?_));refine wz (fun E S'=>∃w b HR,Has E [(2,.int .i64 now),(6,.pointer (some ⟨p6,0,none⟩)),(8,.pointer (some ⟨p8,0,none⟩)),(9,.bool b)]∧((b=false∧WG S k now=none)∨∃i v,b=true∧WG S k now=some i∧Ep i.exp∧w=mq i v∧Zg 89 v (Zh i.s).rrs HR)∧zG S' [HR,[(p8,.cells w 136)],[(p6,.cells sP 70)],Uo cb sb tc nc,H]) ?_ fun E S' ⟨w,b,HR,hE,hP,hJ⟩=>?_
 ·rcases hP with⟨rfl,hb,rfl,rfl⟩ | ⟨i,v,rfl,ht,hb,hlt,rfl,hR⟩
  ·refine ze (z8 (yp (pB rfl) (yp (Za rfl) (yp (pB rfl) (zK rfl (zQ (zx rfl) (zK rfl ?_)))))));refine(zy rfl rfl ?_);refine zK rfl (zQ (WU rfl rfl) (yp (zw rfl rfl) (zf (za ?_))));by_cases ck:k.t=255
   ·rw[ck,decide_eq_true rfl];refine zo rfl (zl (za ?_));exact⟨yD,_,[],⟨rfl,rfl,rfl,rfl,trivial⟩,.inl ⟨rfl,by unfold WG; rw[hb]; exact if_pos ck⟩,.of⟩
   ·rw[decide_eq_false ck];refine zC rfl (z8 (yp (pP rfl) (yp (zx rfl) ?_)));refine zh (zy rfl rfl ?_);refine yp (Zr (xW rfl) (vH rfl)) (yp (pI rfl) ?_);refine zh (zk (YB (cb:=cb) (tc:=tc) (nc:=nc) hS ⟨k.n,255⟩ hkl now hx hn) rfl rfl fun r S' h=>?_);obtain⟨w,b,HR,rfl,hP,rfl⟩:=h;have hf:WG S k now=Zi S ⟨k.n,255⟩ now:=by unfold WG; rw[hb]; exact if_neg ck
    refine yp (pU rfl) (yp (pExt rfl rfl) (yp (pExt rfl rfl) ?_));refine zh (Zv rfl rfl hP.pl.1 rfl hP.pl.2 ?_);refine yp (pB rfl) (zf (za ?_));refine⟨w,_,HR,⟨rfl,rfl,rfl,rfl,trivial⟩,?_,.of⟩;rw[hf];rcases hP with⟨h1,h2,_,_⟩ | ⟨i,v,h1,h2,h3,_,h5,h6⟩
    ·exact .inl ⟨h1,h2⟩
    ·exact .inr ⟨i,v,h1,h2,hx.i64 h3,h5,h6⟩
  ·refine ze (z8 (yp (pB rfl) (yp (Za rfl) (yp (pB rfl) (zP rfl (zP rfl (zP rfl (yp (zD rfl rfl) (zf (za (zo rfl (zl (za ?_)))))))))))));exact⟨_,_,HR,⟨rfl,rfl,rfl,rfl,trivial⟩,.inr ⟨i,v,rfl,by unfold WG; rw[ht],hx.i64 hb,rfl,hR⟩,.of⟩
 obtain⟨E0,e0⟩:=zm hE; subst e0; clear hE;refine zn hJ ?_;rcases hP with⟨rfl,ho⟩ | ⟨i,v,rfl,ho,hxi,rfl,hR⟩
 ·rw[ho];refine ze (ze (z8 (yp (pB rfl) (yp (Za rfl) (zf (za (zC rfl (ze (z8 (yp Ww ?_))))))))));refine zh (Zv rfl rfl rfl rfl rfl ?_);refine yp pC (zf (za (zJ (zV ?_))));exact zI (WR (KF (b:=p6) Aq nN rfl rfl) (Yl rfl)) ⟨_,.of,_,_,[],rfl,.inl ⟨rfl,rfl,rfl,rfl⟩,rfl⟩
 ·rw[ho];obtain⟨a,c,rfl⟩:=hR.isSlice;refine ze (ze (z8 (yp (pB rfl) (yp (Za rfl) (zf (za (zo rfl (zl (za ?_)))))))))
  skip
  refine ze (wU (R:=[[(p8,.cells (mq i (.slice a (Zh i.s).rrs.length c)) 136)]]) (by simp) (zi (zx rfl) (Vm (l:=[sv (Zh i.s).name,.int .i64 (Zh i.s).typ,.slice a (Zh i.s).rrs.length c,.int .i64 (Zh i.s).kind,sv (Zh i.s).zone]) rfl rfl rfl (zi (zx rfl) (Zb rfl rfl (zi (pI rfl) (zi (zx rfl) (Zb rfl rfl ?_))))))));refine Zd (zk (aO i.exp now hxi hn) rfl rfl fun r S' h=>?_) zN;obtain⟨rfl,rfl⟩:=h;refine⟨by simp,?_⟩;refine zi (v:= .agg (Pe i (.slice a (Zh i.s).rrs.length c) (Uz i.exp now))) rfl ?_;refine zO (Zv rfl rfl rfl rfl rfl ?_) zN;refine zi pC (zH (za (zJ ?_)));exact zI (WR (KF (b:=p6) Aq nN rfl rfl) (Yl rfl)) ⟨_,.of,_,_,HR,rfl,.inr ⟨i,_,rfl,rfl,rfl,hR⟩,rfl⟩
theorem uo{cb sb N:Nat}{tc nc:Int}{S:Ss}{H:List Chunk}{S0:zL}{s:St}{v:Value}(hS:Sr sb N S H)(hs:YF s)(hv:Src S0 v s.rrs)(hV:S.V.length+S.I.length<2 ^ 30)(hx:jO S)(hc:tc≤2147483648∧nc≤2147483648)(r left now:Int)(hn:Ep now):
 Tri Tryz.prog 33 #[.pointer (some ⟨cb,0,none⟩),.agg (X7 s v),.int .i64 r,.int .i64 left,.int .i64 now] (Uo cb sb tc nc::H::S0) (fun x S'=>x= .int .i64 (Vo N tc nc s r left now S).2∧∃H',Sr sb N (Vo N tc nc s r left now S).1 H'∧S'=Uo cb sb tc nc::H'::S0):=by
 have hsn:=hs.name;have hl9:WJ tc nc s.kind left≤9223372036854775807:=by unfold WJ CK; split<;>omega
 refine Tri.forget (zq Tryz.T9 (Nat.le_of_ble_eq_true rfl) ?_);unfold Tryz.x33;obtain⟨va,vc,rfl⟩:=hv.isSlice;refine ze (z8 ?_);refine zh (ZC rfl fun p6=>?_);refine yp pC (zf (za (ze (ze (z8 (yp (pP rfl) (yp (wh rfl rfl) (zf (za (zo rfl (zl (za (ze (ze (z8 (yp (zx rfl) (yp (zx rfl) ?_)))))))))))))))));refine zh (zy rfl rfl ?_);refine yp (wB rfl rfl) (yp (zx rfl) ?_);refine zh (zy rfl rfl ?_);refine yp (wB rfl rfl) (yp (Y6 rfl rfl) (zf (za ?_)));by_cases h1:decide (s.typ=255)=decide (s.kind=2)
 ·have e1:(!(decide (s.typ=255)==decide (s.kind=2)))=false:=by rw[h1]; simp
  rw[e1];refine zo rfl (zl (za (ze (ze (z8 (yp (pP rfl) (yp (zx rfl) ?_)))))));refine zh (zy rfl rfl ?_);refine yp (pI rfl) ?_;refine zh (zk (cu (sb:=sb) (tc:=tc) (nc:=nc) s.kind left) rfl rfl fun r' S' h=>?_);obtain⟨rfl,rfl⟩:=h;refine yp (pI rfl) (zf (za (ze (z8 (yp (pI rfl) (yp (wB rfl rfl) (zf (za ?_))))))));by_cases h2:WJ tc nc s.kind left=0
  ·rw[decide_eq_true h2];have e:Vo N tc nc s r left now S=(S,1):=by unfold Vo; rw[if_neg (by simpa using h1),if_pos h2]
   rw[e];refine zC rfl (ze (z8 (yp pC (zf (za (zJ (zV ?_)))))));exact zI (rI rfl) ⟨_,.of,rfl,_,hS,rfl⟩
  ·rw[decide_eq_false h2];refine zo rfl (zl (za ?_));have hend:(∀i,Zi S ⟨s.name,s.typ⟩ now=some i→¬r<i.rank)→Vo N tc nc s r left now S=VF N s r now (XM now (WJ tc nc s.kind left)) S:=fun hb=>by
    unfold Vo;rw[if_neg (by simpa using h1),if_neg h2];cases hi:Zi S ⟨s.name,s.typ⟩ now with
    | none=>rfl
    | some i=>exact if_neg (hb i hi)
   refine uy (fun E S'=>Has E [(0,.pointer (some ⟨cb,0,none⟩)),(2,.int .i64 r),(3,.int .i64 (WJ tc nc s.kind left)),(4,.int .i64 now),(6,.pointer (some ⟨p6,0,none⟩))]∧(∀i,Zi S ⟨s.name,s.typ⟩ now=some i→¬r<i.rank)∧zG S' (Ju p6 s (.slice va s.rrs.length vc)::Uo cb sb tc nc::H::S0)) ?_ fun E S' ⟨hE2,hnr,hJ⟩=>?_
   ·refine wz (fun E S'=>∃p11 w b HR,Has E [(0,.pointer (some ⟨cb,0,none⟩)),(2,.int .i64 r),(3,.int .i64 (WJ tc nc s.kind left)),(4,.int .i64 now),(6,.pointer (some ⟨p6,0,none⟩)),(11,.pointer (some ⟨p11,0,none⟩)),(12,.bool b)]∧P6 S ⟨s.name,s.typ⟩ w b HR∧zG S' (HR::[(p11,.cells w 136)]::Ju p6 s (.slice va s.rrs.length vc)::Uo cb sb tc nc::H::S0)) ?_ fun E S' ⟨p11,w,b,HR,hE,hP,hJ⟩=>?_
    ·refine wU (R:=[Uo cb sb tc nc,Ju p6 s (.slice va s.rrs.length vc)]) (by simp) (zi (pP rfl) (zi (zX rfl) (zi (zx rfl) (Zb rfl rfl (zi (zx rfl) (Vm (l:=[sv s.name,.int .i64 s.typ]) rfl rfl rfl ?_))))));refine zO (zk (Xv hS ⟨s.name,s.typ⟩ (by show s.name.length<_; omega)) rfl rfl fun r' S' h=>?_) (Zd (Z5 fun p11=>⟨by simp,?_⟩) zN)
     ·obtain⟨w,b,HR,rfl,hP,rfl⟩:=h;refine zi (pU rfl) (zi (pExt rfl rfl) (zi (pExt rfl rfl) ?_));refine Zd (Z5 fun p11=>⟨(by first | exact fun _ h=>List.mem_cons_of_mem _ h | simp),?_⟩) zN;refine zO (Zv rfl rfl hP.pl.1 rfl hP.pl.2 ?_) zN;refine zi (pB rfl) (zH (za ?_));exact⟨p11,w,b,HR,⟨rfl,rfl,rfl,rfl,rfl,rfl,rfl,trivial⟩,hP,.of⟩
     ·refine zO (zk (Xv hS ⟨s.name,s.typ⟩ (by show s.name.length<_; omega)) rfl rfl fun r' S' h=>?_) zN;obtain⟨w,b,HR,rfl,hP,rfl⟩:=h;refine zi (pU rfl) (zi (pExt rfl rfl) (zi (pExt rfl rfl) ?_));refine zO (Zv rfl rfl hP.pl.1 rfl hP.pl.2 ?_) zN;refine zi (pB rfl) (zH (za ?_));exact⟨p11,w,b,HR,⟨rfl,rfl,rfl,rfl,rfl,rfl,rfl,trivial⟩,hP,.of⟩
    obtain⟨E0,e0⟩:=zm hE; subst e0; clear hE;refine zn hJ ?_;rcases hP with⟨rfl,hb,rfl,rfl⟩ | ⟨i,v,rfl,hb,rfl,hR⟩
    ·refine ze (z8 (yp (pB rfl) (yp (pB rfl) (zP rfl (zP rfl (zP rfl (zP rfl (zP rfl (yp (zD rfl rfl) (yp (pB rfl) (zP rfl (zP rfl (zP rfl (zP rfl (zP rfl (yp (zD rfl rfl) (zf (za (zo rfl (zl (za ?_)))))))))))))))))))));exact⟨⟨rfl,rfl,rfl,rfl,rfl,trivial⟩,(fun i hi=>by rw[wL hb] at hi; cases hi),.of⟩
    ·have hxi:=hx.i64 hb;obtain⟨a,c,rfl⟩:=hR.isSlice;refine ze (z8 (yp (pB rfl) (yp (pB rfl) (zK rfl (zQ (zx rfl) (zK rfl ?_))))));refine(zy rfl rfl ?_);refine zK rfl (zQ (pI rfl) (zK rfl ?_));refine zk (nH i.exp now hxi hn) rfl rfl fun r' S' h=>?_
     obtain⟨rfl,rfl⟩:=h;by_cases hle:i.exp≤now
     ·rw[decide_eq_true hle];refine zK rfl (zQ (Za rfl) (yp (zw rfl rfl) (yp (pB rfl) (zP rfl (zP rfl (zP rfl (zP rfl (zP rfl (yp (zD rfl rfl) (zf (za (zo rfl (zl (za ?_))))))))))))));exact⟨⟨rfl,rfl,rfl,rfl,rfl,trivial⟩,(fun i' hi=>by rw[wK hb,if_neg (by omega)] at hi; cases hi),.of⟩
     ·rw[decide_eq_false hle];have ht:Zi S ⟨s.name,s.typ⟩ now=some i:=by rw[wK hb,if_pos (by omega)]
      refine zK rfl (zQ (Za rfl) (yp (zw rfl rfl) (yp (pB rfl) (zK rfl (zQ (pI rfl) (zK rfl (zQ (zx rfl) (zK rfl ?_))))))));refine(zy rfl rfl ?_);refine zK rfl ?_;refine zk (oo r i.rank) rfl rfl fun r' S' h=>?_
      obtain⟨rfl,rfl⟩:=h;by_cases hr:i.rank≤r
      ·rw[decide_eq_true hr];refine zK rfl (zQ (Za rfl) (yp (zw rfl rfl) (zf (za (zo rfl (zl (za ?_)))))));exact⟨⟨rfl,rfl,rfl,rfl,rfl,trivial⟩,(fun i' hi=>by rw[ht] at hi; cases hi; omega),.of⟩
      ·rw[decide_eq_false hr];have e:Vo N tc nc s r left now S=(S,5):=by unfold Vo; rw[if_neg (by simpa using h1),if_neg h2,ht]; exact if_pos (by omega)
       rw[e];refine zK rfl (zQ (Za rfl) (yp (zw rfl rfl) (zf (za (zC rfl (ze (z8 (yp pC (zf (za (zJ (zV ?_))))))))))));exact zI (rI rfl) ⟨_,.of,rfl,_,hS,rfl⟩
   rw[hend hnr];obtain⟨E0,e0⟩:=zm hE2; subst e0; clear hE2;refine zn hJ ?_
   skip
   refine ze (wU (R:=[Ju p6 s (.slice va s.rrs.length vc),Uo cb sb tc nc]) (by simp) (zi (pP rfl) (zi (zX rfl) (zi (zx rfl) (Zb rfl rfl (vO rfl rfl (zi (pI rfl) (zi (pI rfl) (zi (pI rfl) (zi (pI rfl) ?_))))))))));refine Zd (zk (nI now (WJ tc nc s.kind left) ⟨hn.1,hl9⟩) rfl rfl fun r' S' h=>?_) zN;obtain⟨rfl,rfl⟩:=h;refine⟨by simp,?_⟩;refine zO (zk (Ll (S0:=S0) hS hs hv hV r now (XM now (WJ tc nc s.kind left))) rfl rfl fun r' S' h=>?_) zN;obtain⟨rfl,H',hS',rfl⟩:=h;refine zi (pI rfl) (zH (za (zJ ?_)));exact zI (rI rfl) ⟨_,.of,rfl,_,hS',rfl⟩
 ·have e1:(!(decide (s.typ=255)==decide (s.kind=2)))=true:=by simpa using h1
  rw[e1];have e:Vo N tc nc s r left now S=(S,1):=by unfold Vo; rw[if_pos (by simpa using h1)]
  rw[e];refine zC rfl (ze (z8 (yp pC (zf (za (zJ (zV ?_)))))));exact zI (rI rfl) ⟨_,.of,rfl,_,hS,rfl⟩
end Go.Proofs.YtekgciopamkjlaaGreat