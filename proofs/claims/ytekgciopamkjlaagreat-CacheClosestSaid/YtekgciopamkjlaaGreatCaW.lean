/- The laws of chapter 13: what the document fixes. -/
import Derived.Test.YtekgciopamkjlaaGreatCaH
import Derived.Test.YtekgciopamkjlaaGreatCaQ
import Derived.Test.YtekgciopamkjlaaGreatFLawC
namespace Go.Proofs.YtekgciopamkjlaaGreat
open Go.Xs
open Enc (enc)
theorem GR.some{i:It}{now:Int}{w:Array Value}{b:Bool}{HR:List Chunk}(h:GR (some i) now w b HR):∃v,b=true∧w=Pe i v (Uz i.exp now)∧Zg 89 v (Zh i.s).rrs HR:=by
 rcases h with⟨_,h,_⟩ | ⟨j,v,h1,h2,h3,h4⟩
 ·cases h
 ·cases h2;exact⟨v,h1,h3,h4⟩
theorem GR.none{now:Int}{w:Array Value}{b:Bool}{HR:List Chunk}(h:GR none now w b HR):b=false∧w=sP∧HR=[]:=by
 rcases h with⟨h1,_,h2,h3⟩ | ⟨j,v,h1,h2,h3,h4⟩
 ·exact⟨h1,h2,h3⟩
 ·cases h2
theorem jQ.one{L:List RR}{M:List Int}{x:Int}(h:jQ L M)(e:Uv L=[x]):M=[x]:=by
 obtain⟨L1,hp,_,rfl⟩:=h;rw[e] at hp;rw[List.perm_singleton.1 hp]; rfl
theorem AF.get{S:Ss}{n:Bs}{now:Int}{M:List Int}{i:It}(h:AF S n now M)(ht:Zi S ⟨n,1⟩ now=some i)(hk:i.s.kind=0):jQ (Zh i.s).rrs M:=by
 unfold AF at h;rw[ht] at h;simpa only[hk,if_true] using h
theorem dJ{S:Ss}{s:St}{r now exp:Int}(h:jO S)(he:0≤exp∧exp≤1099511627776):jO (VP s r now exp S):=fun i hi=>by
 rcases List.mem_append.1 hi with hi | hi
 ·exact h i hi
 ·rw[List.mem_singleton.1 hi]; exact he
theorem Yf:jO Ui:=fun i hi=>by cases hi
theorem xk{s:St}{p r c x:Int}{P Q:List Ky}(he:0≤x∧x≤1099511627776):jO (one s p r c x P Q):=fun i hi=>by
 rw[List.mem_singleton.1 hi]; exact he
abbrev GX:St:=ZG [1,97,0] (Vw 7)
abbrev Ei:Ss:=one GX 0 4 0 100 [Zq GX] []
abbrev Pf:Ss:=VP (ZK [1,98,0] 255 2) 3 0 50 Ei
theorem CU:Vo 4096 100 50 GX 4 500 0 Ui=(Ei,0):=by kernel_rfl
theorem CS:Vo 4096 100 50 (ZG [1,97,0] (Vw 8)) 2 500 40 Ei=(Ei,5):=by kernel_rfl
theorem CQ:Vo 4096 100 50 (ZK [1,98,0] 255 2) 3 500 0 Ei=(Pf,0):=by kernel_rfl
theorem Ae:WG Ei ⟨[1,97,0],1⟩ 40=some (AO GX 0 4 0 100):=by kernel_rfl
theorem Ac:WG Ei ⟨[1,97,0],1⟩ 100=none:=by kernel_rfl
theorem Ab:WG Pf ⟨[1,98,0],15⟩ 10=some (Vp (ZK [1,98,0] 255 2) 3 0 50):=by kernel_rfl
theorem QU:Zi Pf ⟨[1,97,0],1⟩ 5=some (AO GX 0 4 0 100):=by kernel_rfl
theorem CV:Uv (Zh GX).rrs=[7]:=by kernel_rfl
set_option maxRecDepth 10000 in
set_option maxHeartbeats 4000000 in
theorem ZM:Tri Tryz.prog 30 #[] [] (fun r S=>r= .bool true∧S=[]):=by
 refine Tri.forget (zq Tryz.Tc (Nat.le_of_ble_eq_true rfl) ?_);unfold Tryz.x30;refine ze (z8 (yp pC (zf (za (ze (z8 ?_))))));refine zh (zk (Ke (N:=4096) (by decide) rfl (by decide)) rfl rfl fun r S' h=>?_);obtain⟨cb,sb,H0,rfl,hS0,rfl⟩:=h;refine yp (pU rfl) (yp (pExt rfl rfl) (yp (pExt rfl rfl) (yp (pP rfl) (yp (pI rfl) (zf (za (ze (z8 ?_))))))));refine zh (zk (GI (N:=4096) (by decide) rfl (by decide)) rfl rfl fun r S' h=>?_);obtain⟨rfl,rfl⟩:=h;refine yp (pU rfl) (yp (pExt rfl rfl) (yp (pExt rfl rfl) (yp (pP rfl) (yp (pI rfl) (zf (za (ze (ze (z8 (yp (pI rfl) (yp (WU rfl rfl) (yp (pB rfl) (zK rfl (zQ (pP rfl) (zK rfl (zQ (wh rfl rfl) (yp (zD rfl rfl) (yp (pB rfl) (zK rfl (zQ (pI rfl) (zK rfl (zQ (WU rfl rfl) (yp (zD rfl rfl) (zf (za (zo rfl (zl (za (ze (z8 (yp (Zr (xW rfl) (vH rfl)) ?_)))))))))))))))))))))))))))))));refine zh (Z5 fun p5=>?_);refine zh (Zv rfl rfl rfl rfl rfl ?_);refine zf (za (ze (z8 (yp (pP rfl) ?_))));refine zh (zk (y5 [1,97,0] 7) rfl rfl fun r S' h=>?_);obtain⟨v,HS,rfl,hR,rfl⟩:=h
 skip
 refine zh (zk (uo (tc:=100) (nc:=50) (S0:=[HS]) (cb:=cb) hS0 (DU rfl).q.ok (hR.src (by simp)) (by decide) Yf (by decide) 4 500 0 (by decide)) rfl rfl fun r S' h=>?_);rw[CU] at h;obtain⟨rfl,H1,hS1,rfl⟩:=h;have hx1:jO Ei:=xk (by decide);refine yp (pI rfl) (zf (za (ze (z8 (yp (pP rfl) ?_)))));refine zh (ZP rfl rfl ?_);refine zh (zk (WT (tc:=100) (nc:=50) (cb:=cb) hS1 ⟨[1,97,0],1⟩ (by decide) 40 hx1 (by decide)) rfl rfl fun r S' h=>?_);obtain⟨w,b,HR,rfl,hF,rfl⟩:=h;rw[Ae] at hF;obtain⟨v1,rfl,rfl,hR1⟩:=hF.some;obtain⟨va,vc,rfl⟩:=hR1.isSlice;refine yp (pU rfl) (yp (pExt rfl rfl) (yp (pExt rfl rfl) ?_));refine zh (Z5 fun p7=>?_);refine zh (Zv rfl rfl rfl rfl rfl ?_);refine yp (pB rfl) (zf (za (ze (z8 (yp (pP rfl) ?_)))));refine zh (ZP rfl rfl ?_);refine zh (zk (WT (tc:=100) (nc:=50) (cb:=cb) hS1 ⟨[1,97,0],1⟩ (by decide) 100 hx1 (by decide)) rfl rfl fun r S' h=>?_);obtain⟨w,b,HR2,rfl,hF2,rfl⟩:=h;rw[Ac] at hF2;obtain⟨rfl,rfl,rfl⟩:=hF2.none;refine yp (pU rfl) (yp (pExt rfl rfl) (yp (pExt rfl rfl) ?_));refine zh (Z5 fun p9=>?_);refine zh (Zv rfl rfl rfl rfl rfl ?_);refine yp (pB rfl) (zf (za (ze (z8 (yp (pP rfl) ?_)))));refine zh (zk (y5 [1,97,0] 8) rfl rfl fun r S' h=>?_);obtain⟨v2,HS2,rfl,hR2,rfl⟩:=h
 skip
 refine zh (zk (uo (tc:=100) (nc:=50) (S0:=[HS2]) (cb:=cb) hS1 (DU rfl).q.ok (hR2.src (by simp)) (by decide) hx1 (by decide) 2 500 40 (by decide)) rfl rfl fun r S' h=>?_);rw[CS] at h;obtain⟨rfl,H2,hS2,rfl⟩:=h;refine yp (pI rfl) (zf (za (ze (z8 (yp (pP rfl) (yp (Zr (xW rfl) (vH rfl)) (yp (v:= .agg (X7 (ZK [1,98,0] 255 2) (.slice none 0 0))) rfl ?_)))))));refine zh (zk (uo (tc:=100) (nc:=50) (S0:=[]) (s:=ZK [1,98,0] 255 2) (cb:=cb) hS2 (Wv (by decide+kernel) (by decide) (by decide)).2.1 .nil (by decide) hx1 (by decide) 3 500 0 (by decide)) rfl rfl fun r S' h=>?_);rw[CQ] at h;obtain⟨rfl,H3,hS3,rfl⟩:=h;have hx3:jO Pf:=dJ hx1 (by decide);refine yp (pI rfl) (zf (za (ze (z8 (yp (pP rfl) (yp (Zr (xW rfl) (vH rfl)) ?_))))));refine zh (zk (WT (tc:=100) (nc:=50) (cb:=cb) hS3 ⟨[1,98,0],15⟩ (by decide) 10 hx3 (by decide)) rfl rfl fun r S' h=>?_);obtain⟨w,b,HR3,rfl,hF3,rfl⟩:=h;rw[Ab] at hF3;obtain⟨v3,rfl,rfl,hR3⟩:=hF3.some;obtain⟨va3,vc3,rfl⟩:=hR3.isSlice;refine yp (pU rfl) (yp (pExt rfl rfl) (yp (pExt rfl rfl) ?_));refine zh (Z5 fun p13=>?_);refine zh (Zv rfl rfl rfl rfl rfl ?_);refine yp (pB rfl) (zf (za (ze (z8 (yp pC (zf (za (ze (z8 (yp (pI rfl) (yp (wB rfl rfl) (yp (pB rfl) (zK rfl (zQ (pB rfl) (yp (zw rfl rfl) (yp (pB rfl) (zK rfl (zQ (zx rfl) (zK rfl ?_)))))))))))))))))));refine(zy rfl rfl ?_);refine zK rfl (zQ (wB rfl rfl) (yp (zw rfl rfl) (yp (pB rfl) (zK rfl (zQ (zx rfl) (zK rfl ?_))))));refine(zy rfl rfl ?_);refine zK rfl (zQ (wB rfl rfl) (yp (zw rfl rfl) (yp (pB rfl) (zK rfl (zQ (pB rfl) (zK rfl (zQ (Za rfl) (yp (zw rfl rfl) (yp (pB rfl) (zK rfl (zQ (pI rfl) (zK rfl (zQ (wB rfl rfl) (yp (zw rfl rfl) (yp (pB rfl) (zK rfl (zQ (pI rfl) (zK rfl (zQ (wB rfl rfl) (yp (zw rfl rfl) (yp (pB rfl) (zK rfl (zQ (pB rfl) (yp (zw rfl rfl) (yp (pB rfl) (zK rfl (zQ (zx rfl) (zK rfl (zQ (zx rfl) (zK rfl ?_))))))))))))))))))))))))))))));refine(zy rfl rfl ?_);refine zK rfl (zQ (wB rfl rfl) (yp (zw rfl rfl) (yp (pB rfl) (zK rfl (zQ (zx rfl) (zK rfl ?_))))));refine(zy rfl rfl ?_);refine zK rfl (zQ (wB rfl rfl) (yp (zw rfl rfl) (yp (pB rfl) (zK rfl (zQ (pP rfl) (zK rfl ?_))))));refine zk (Vl (tc:=100) (nc:=50) (cb:=cb) xA Un (by decide) hS3 [1,97,0] (by decide) 5 hx3 (by decide) (fun i hi _=>by rw[QU] at hi; cases hi; exact⟨by decide,fun r hr=>by rw[List.mem_singleton.1 hr]; decide⟩)) rfl rfl fun r S' h=>?_
 obtain⟨M,HM,hM,hMs,rfl⟩:=h;have hM7:M=[7]:=by
  exact(hM.get QU rfl).one CV
 subst hM7;obtain⟨ma,mc,rfl⟩:=hMs.isSlice;refine zK rfl ?_;refine wJ (7:Int) rfl rfl (by decide) (by decide) rfl fun p107=>?_
 refine zK rfl ?_;refine zk (gP (A:=[7]) (B:=[7]) (S:=[HM,[(p107,.cells (cells [(7:Int)]).toArray 3)]]) (hMs.src (by simp)) (.lit (by repeat (first | exact List.mem_cons_self | apply List.mem_cons_of_mem)) rfl) (by decide)) rfl rfl fun r S' h=>?_
 obtain⟨rfl,h⟩:=h;have h:=h.symm;subst h;refine yp (zw rfl rfl) (yp (pB rfl) (zK rfl (zQ (pP rfl) (zK rfl ?_))));refine zk (cu (sb:=sb) (tc:=100) (nc:=50) 0 500) rfl rfl fun r S' h=>?_
 obtain⟨rfl,rfl⟩:=h;refine zK rfl (zQ (wB rfl rfl) (yp (zw rfl rfl) (yp (pB rfl) (zK rfl (zQ (pP rfl) (zK rfl ?_))))));refine zk (cu (sb:=sb) (tc:=100) (nc:=50) 1 500) rfl rfl fun r S' h=>?_
 obtain⟨rfl,rfl⟩:=h;refine zK rfl (zQ (wB rfl rfl) (yp (zw rfl rfl) (yp (pB rfl) (zK rfl (zQ (pP rfl) (zK rfl ?_))))));refine zk (VO (sb:=sb) (tc:=100) (nc:=50)) rfl rfl fun r S' h=>?_
 obtain⟨rfl,rfl⟩:=h;refine zK rfl (zQ (kD rfl rfl) (yp (zw rfl rfl) (yp (pB rfl) (zK rfl (zQ (pP rfl) (zK rfl ?_))))));refine zk (CO 1) rfl rfl fun r S' h=>?_
 obtain⟨rfl,rfl⟩:=h;refine zK rfl (zQ (wB rfl rfl) (yp (zw rfl rfl) (yp (pB rfl) (zK rfl (zQ (pP rfl) (zK rfl ?_))))));refine zk (tV [0] 0) rfl rfl fun r S' h=>?_
 obtain⟨rfl,rfl⟩:=h;refine zK rfl (zQ (Zp rfl) (zK rfl (zQ (wB rfl rfl) (yp (zw rfl rfl) (yp (pB rfl) (zf (za (zJ ?_))))))));exact zI (rB rfl) ⟨[],.of,rfl,rfl⟩
end Go.Proofs.YtekgciopamkjlaaGreat