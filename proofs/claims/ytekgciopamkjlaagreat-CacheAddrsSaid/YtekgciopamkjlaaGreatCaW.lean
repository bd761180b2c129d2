/- The laws of chapter 13: what the document fixes. -/
import Derived.Test.YtekgciopamkjlaaGreatCaH
import Derived.Test.YtekgciopamkjlaaGreatCaQ
import Derived.Test.YtekgciopamkjlaaGreatFLawC
namespace Go.Proofs.YtekgciopamkjlaaGreat
open Go.Xs
open Enc (enc)
theorem IW.some{i:It}{now:Int}{w:Array Value}{b:Bool}{HR:List Chunk}(h:IW (some i) now w b HR):∃v,b=true∧w=NA i v (YM i.exp now)∧Zf 89 v (Zj i.s).rrs HR:=by
 rcases h with⟨_,h,_⟩ | ⟨j,v,h1,h2,h3,h4⟩
 ·cases h
 ·cases h2;exact⟨v,h1,h3,h4⟩
theorem IW.none{now:Int}{w:Array Value}{b:Bool}{HR:List Chunk}(h:IW none now w b HR):b=false∧w=Cc∧HR=[]:=by
 rcases h with⟨h1,_,h2,h3⟩ | ⟨j,v,h1,h2,h3,h4⟩
 ·exact⟨h1,h2,h3⟩
 ·cases h2
theorem kM.one{L:List RR}{M:List Int}{x:Int}(h:kM L M)(e:Uh L=[x]):M=[x]:=by
 obtain⟨L1,hp,_,rfl⟩:=h;rw[e] at hp;rw[List.perm_singleton.1 hp]; rfl
theorem rE.get{S:Ss}{n:Bs}{now:Int}{M:List Int}{i:It}(h:rE S n now M)(ht:ZP S ⟨n,1⟩ now=some i)(hk:i.s.kind=0):kM (Zj i.s).rrs M:=by
 unfold rE at h;rw[ht] at h;simpa only[hk,if_true] using h
theorem ni{S:Ss}{s:St}{r now exp:Int}(h:cZ S)(he:0≤exp∧exp≤1099511627776):cZ (CB s r now exp S):=fun i hi=>by
 rcases List.mem_append.1 hi with hi | hi
 ·exact h i hi
 ·rw[List.mem_singleton.1 hi]; exact he
theorem Qe:cZ qd:=fun i hi=>by cases hi
theorem Qd{s:St}{p r c x:Int}{P Q:List Ky}(he:0≤x∧x≤1099511627776):cZ (one s p r c x P Q):=fun i hi=>by
 rw[List.mem_singleton.1 hi]; exact he
abbrev CP:St:=uo [1,97,0] (Yj 7)
abbrev tQ:Ss:=one CP 0 4 0 100 [ZA CP] []
abbrev L9:Ss:=CB (Us [1,98,0] 255 2) 3 0 50 tQ
theorem pY:Ud 4096 100 50 CP 4 500 0 qd=(tQ,0):=by kernel_rfl
theorem pX:Ud 4096 100 50 (uo [1,97,0] (Yj 8)) 2 500 40 tQ=(tQ,5):=by kernel_rfl
theorem pW:Ud 4096 100 50 (Us [1,98,0] 255 2) 3 500 0 tQ=(L9,0):=by kernel_rfl
theorem lV:Ul tQ ⟨[1,97,0],1⟩ 40=some (sS CP 0 4 0 100):=by kernel_rfl
theorem lU:Ul tQ ⟨[1,97,0],1⟩ 100=none:=by kernel_rfl
theorem lT:Ul L9 ⟨[1,98,0],15⟩ 10=some (BO (Us [1,98,0] 255 2) 3 0 50):=by kernel_rfl
theorem Jk:ZP L9 ⟨[1,97,0],1⟩ 5=some (sS CP 0 4 0 100):=by kernel_rfl
theorem r9:Uh (Zj CP).rrs=[7]:=by kernel_rfl
set_option maxRecDepth 10000 in
set_option maxHeartbeats 4000000 in
theorem KV:Tri Tryz.prog 30 #[] [] (fun r S=>r= .bool true∧S=[]):=by
 refine Tri.forget (zn Tryz.Np (Nat.le_of_ble_eq_true rfl) ?_);unfold Tryz.Oo;refine ze (z8 (yp pC (zf (za (ze (z8 ?_))))));refine zh (zk (tO (N:=4096) (by decide) rfl (by decide)) rfl rfl fun r S' h=>?_);obtain⟨cb,sb,H0,rfl,hS0,rfl⟩:=h;refine yp (pU rfl) (yp (pExt rfl rfl) (yp (pExt rfl rfl) (yp (pP rfl) (yp (pI rfl) (zf (za (ze (z8 ?_))))))));refine zh (zk (Ct (N:=4096) (by decide) rfl (by decide)) rfl rfl fun r S' h=>?_);obtain⟨rfl,rfl⟩:=h;refine yp (pU rfl) (yp (pExt rfl rfl) (yp (pExt rfl rfl) (yp (pP rfl) (yp (pI rfl) (zf (za (ze (ze (z8 (yp (pI rfl) (yp (UF rfl rfl) (yp (pB rfl) (Z0 rfl (Zc (pP rfl) (Z0 rfl (Zc (wJ rfl rfl) (yp (zU rfl rfl) (yp (pB rfl) (Z0 rfl (Zc (pI rfl) (Z0 rfl (Zc (UF rfl rfl) (yp (zU rfl rfl) (zf (za (zw rfl (zq (za (ze (z8 (yp (vE (fE rfl) (uM rfl)) ?_)))))))))))))))))))))))))))))));refine zh (Z8 fun p5=>?_);refine zh (wz rfl rfl rfl rfl rfl ?_);refine zf (za (ze (z8 (yp (pP rfl) ?_))));refine zh (zk (aI [1,97,0] 7) rfl rfl fun r S' h=>?_);obtain⟨v,HS,rfl,hR,rfl⟩:=h
 skip
 refine zh (zk (aB (tc:=100) (nc:=50) (S0:=[HS]) (cb:=cb) hS0 (sU rfl).q.ok (hR.src (by simp)) (by decide) Qe (by decide) 4 500 0 (by decide)) rfl rfl fun r S' h=>?_);rw[pY] at h;obtain⟨rfl,H1,hS1,rfl⟩:=h;have hx1:cZ tQ:=Qd (by decide);refine yp (pI rfl) (zf (za (ze (z8 (yp (pP rfl) ?_)))));refine zh (wC rfl rfl ?_);refine zh (zk (qQ (tc:=100) (nc:=50) (cb:=cb) hS1 ⟨[1,97,0],1⟩ (by decide) 40 hx1 (by decide)) rfl rfl fun r S' h=>?_);obtain⟨w,b,HR,rfl,hF,rfl⟩:=h;rw[lV] at hF;obtain⟨v1,rfl,rfl,hR1⟩:=hF.some;obtain⟨va,vc,rfl⟩:=hR1.isSlice;refine yp (pU rfl) (yp (pExt rfl rfl) (yp (pExt rfl rfl) ?_));refine zh (Z8 fun p7=>?_);refine zh (wz rfl rfl rfl rfl rfl ?_);refine yp (pB rfl) (zf (za (ze (z8 (yp (pP rfl) ?_)))));refine zh (wC rfl rfl ?_);refine zh (zk (qQ (tc:=100) (nc:=50) (cb:=cb) hS1 ⟨[1,97,0],1⟩ (by decide) 100 hx1 (by decide)) rfl rfl fun r S' h=>?_);obtain⟨w,b,HR2,rfl,hF2,rfl⟩:=h;rw[lU] at hF2;obtain⟨rfl,rfl,rfl⟩:=hF2.none;refine yp (pU rfl) (yp (pExt rfl rfl) (yp (pExt rfl rfl) ?_));refine zh (Z8 fun p9=>?_);refine zh (wz rfl rfl rfl rfl rfl ?_);refine yp (pB rfl) (zf (za (ze (z8 (yp (pP rfl) ?_)))));refine zh (zk (aI [1,97,0] 8) rfl rfl fun r S' h=>?_);obtain⟨v2,HS2,rfl,hR2,rfl⟩:=h
 skip
 refine zh (zk (aB (tc:=100) (nc:=50) (S0:=[HS2]) (cb:=cb) hS1 (sU rfl).q.ok (hR2.src (by simp)) (by decide) hx1 (by decide) 2 500 40 (by decide)) rfl rfl fun r S' h=>?_);rw[pX] at h;obtain⟨rfl,H2,hS2,rfl⟩:=h;refine yp (pI rfl) (zf (za (ze (z8 (yp (pP rfl) (yp (vE (fE rfl) (uM rfl)) (yp (v:= .agg (Jw (Us [1,98,0] 255 2) (.slice none 0 0))) rfl ?_)))))));refine zh (zk (aB (tc:=100) (nc:=50) (S0:=[]) (s:=Us [1,98,0] 255 2) (cb:=cb) hS2 (nQ (by decide+kernel) (by decide) (by decide)).2.1 .nil (by decide) hx1 (by decide) 3 500 0 (by decide)) rfl rfl fun r S' h=>?_);rw[pW] at h;obtain⟨rfl,H3,hS3,rfl⟩:=h;have hx3:cZ L9:=ni hx1 (by decide);refine yp (pI rfl) (zf (za (ze (z8 (yp (pP rfl) (yp (vE (fE rfl) (uM rfl)) ?_))))));refine zh (zk (qQ (tc:=100) (nc:=50) (cb:=cb) hS3 ⟨[1,98,0],15⟩ (by decide) 10 hx3 (by decide)) rfl rfl fun r S' h=>?_);obtain⟨w,b,HR3,rfl,hF3,rfl⟩:=h;rw[lT] at hF3;obtain⟨v3,rfl,rfl,hR3⟩:=hF3.some;obtain⟨va3,vc3,rfl⟩:=hR3.isSlice;refine yp (pU rfl) (yp (pExt rfl rfl) (yp (pExt rfl rfl) ?_));refine zh (Z8 fun p13=>?_);refine zh (wz rfl rfl rfl rfl rfl ?_);refine yp (pB rfl) (zf (za (ze (z8 (yp pC (zf (za (ze (z8 (yp (pI rfl) (yp (WB rfl rfl) (yp (pB rfl) (Z0 rfl (Zc (pB rfl) (yp (zP rfl rfl) (yp (pB rfl) (Z0 rfl (Zc (zx rfl) (Z0 rfl ?_)))))))))))))))))));refine(zF rfl rfl ?_);refine Z0 rfl (Zc (WB rfl rfl) (yp (zP rfl rfl) (yp (pB rfl) (Z0 rfl (Zc (zx rfl) (Z0 rfl ?_))))));refine(zF rfl rfl ?_);refine Z0 rfl (Zc (WB rfl rfl) (yp (zP rfl rfl) (yp (pB rfl) (Z0 rfl (Zc (pB rfl) (Z0 rfl (Zc (Ze rfl) (yp (zP rfl rfl) (yp (pB rfl) (Z0 rfl (Zc (pI rfl) (Z0 rfl (Zc (WB rfl rfl) (yp (zP rfl rfl) (yp (pB rfl) (Z0 rfl (Zc (pI rfl) (Z0 rfl (Zc (WB rfl rfl) (yp (zP rfl rfl) (yp (pB rfl) (Z0 rfl (Zc (pB rfl) (yp (zP rfl rfl) (yp (pB rfl) (Z0 rfl (Zc (zx rfl) (Z0 rfl (Zc (zx rfl) (Z0 rfl ?_))))))))))))))))))))))))))))));refine(zF rfl rfl ?_);refine Z0 rfl (Zc (WB rfl rfl) (yp (zP rfl rfl) (yp (pB rfl) (Z0 rfl (Zc (zx rfl) (Z0 rfl ?_))))));refine(zF rfl rfl ?_);refine Z0 rfl (Zc (WB rfl rfl) (yp (zP rfl rfl) (yp (pB rfl) (Z0 rfl (Zc (pP rfl) (Z0 rfl ?_))))));refine zk (xG (tc:=100) (nc:=50) (cb:=cb) nK ay (by decide) hS3 [1,97,0] (by decide) 5 hx3 (by decide) (fun i hi _=>by rw[Jk] at hi; cases hi; exact⟨by decide,fun r hr=>by rw[List.mem_singleton.1 hr]; decide⟩)) rfl rfl fun r S' h=>?_
 obtain⟨M,HM,hM,hMs,rfl⟩:=h;have hM7:M=[7]:=by
  exact(hM.get Jk rfl).one r9
 subst hM7;obtain⟨ma,mc,rfl⟩:=hMs.isSlice;refine Z0 rfl ?_;refine Ve (7:Int) rfl rfl (by decide) (by decide) rfl fun p107=>?_
 refine Z0 rfl ?_;refine zk (lJ (A:=[7]) (B:=[7]) (S:=[HM,[(p107,.cells (cells [(7:Int)]).toArray 3)]]) (hMs.src (by simp)) (.lit (by repeat (first | exact List.mem_cons_self | apply List.mem_cons_of_mem)) rfl) (by decide)) rfl rfl fun r S' h=>?_
 obtain⟨rfl,h⟩:=h;have h:=h.symm;subst h;refine yp (zP rfl rfl) (yp (pB rfl) (Z0 rfl (Zc (pP rfl) (Z0 rfl ?_))));refine zk (qR (sb:=sb) (tc:=100) (nc:=50) 0 500) rfl rfl fun r S' h=>?_
 obtain⟨rfl,rfl⟩:=h;refine Z0 rfl (Zc (WB rfl rfl) (yp (zP rfl rfl) (yp (pB rfl) (Z0 rfl (Zc (pP rfl) (Z0 rfl ?_))))));refine zk (qR (sb:=sb) (tc:=100) (nc:=50) 1 500) rfl rfl fun r S' h=>?_
 obtain⟨rfl,rfl⟩:=h;refine Z0 rfl (Zc (WB rfl rfl) (yp (zP rfl rfl) (yp (pB rfl) (Z0 rfl (Zc (pP rfl) (Z0 rfl ?_))))));refine zk (KQ (sb:=sb) (tc:=100) (nc:=50)) rfl rfl fun r S' h=>?_
 obtain⟨rfl,rfl⟩:=h;refine Z0 rfl (Zc (yt rfl rfl) (yp (zP rfl rfl) (yp (pB rfl) (Z0 rfl (Zc (pP rfl) (Z0 rfl ?_))))));refine zk (pQ 1) rfl rfl fun r S' h=>?_
 obtain⟨rfl,rfl⟩:=h;refine Z0 rfl (Zc (WB rfl rfl) (yp (zP rfl rfl) (yp (pB rfl) (Z0 rfl (Zc (pP rfl) (Z0 rfl ?_))))));refine zk (lI [0] 0) rfl rfl fun r S' h=>?_
 obtain⟨rfl,rfl⟩:=h;refine Z0 rfl (Zc (Zz rfl) (Z0 rfl (Zc (WB rfl rfl) (yp (zP rfl rfl) (yp (pB rfl) (zf (za (zL ?_))))))));exact zK (rB rfl) ⟨[],.of,rfl,rfl⟩
end Go.Proofs.YtekgciopamkjlaaGreat