/- The laws of chapter 13: what the document fixes. -/
import Derived.Test.YtekgciopamkjlaaGreatCaH
import Derived.Test.YtekgciopamkjlaaGreatCaQ
import Derived.Test.YtekgciopamkjlaaGreatFLawC
namespace Go.Proofs.YtekgciopamkjlaaGreat
open Go.Xs
open Enc (enc)
theorem Gz.some{i:It}{now:Int}{w:Array Value}{b:Bool}{HR:List Chunk}(h:Gz (some i) now w b HR):∃v,b=true∧w=LK i v (Yz i.exp now)∧Zc 89 v (Zf i.s).rrs HR:=by
 rcases h with⟨_,h,_⟩ | ⟨j,v,h1,h2,h3,h4⟩
 ·cases h
 ·cases h2;exact⟨v,h1,h3,h4⟩
theorem Gz.none{now:Int}{w:Array Value}{b:Bool}{HR:List Chunk}(h:Gz none now w b HR):b=false∧w=Aq∧HR=[]:=by
 rcases h with⟨h1,_,h2,h3⟩ | ⟨j,v,h1,h2,h3,h4⟩
 ·exact⟨h1,h2,h3⟩
 ·cases h2
theorem Jc.one{L:List RR}{M:List Int}{x:Int}(h:Jc L M)(e:U0 L=[x]):M=[x]:=by
 obtain⟨L1,hp,_,rfl⟩:=h;rw[e] at hp;rw[List.perm_singleton.1 hp]; rfl
theorem Ba.get{S:Ss}{n:Bs}{now:Int}{M:List Int}{i:It}(h:Ba S n now M)(ht:ZJ S ⟨n,1⟩ now=some i)(hk:i.s.kind=0):Jc (Zf i.s).rrs M:=by
 unfold Ba at h;rw[ht] at h;simpa only[hk,if_true] using h
theorem lQ{S:Ss}{s:St}{r now exp:Int}(h:bK S)(he:0≤exp∧exp≤1099511627776):bK (AX s r now exp S):=fun i hi=>by
 rcases List.mem_append.1 hi with hi | hi
 ·exact h i hi
 ·rw[List.mem_singleton.1 hi]; exact he
theorem qO:bK jD:=fun i hi=>by cases hi
theorem kC{s:St}{p r c x:Int}{P Q:List Ky}(he:0≤x∧x≤1099511627776):bK (one s p r c x P Q):=fun i hi=>by
 rw[List.mem_singleton.1 hi]; exact he
abbrev Bf:St:=vY [1,97,0] (Y3 7)
abbrev pY:Ss:=one Bf 0 4 0 100 [Zk Bf] []
abbrev GK:Ss:=AX (XP [1,98,0] 255 2) 3 0 50 pY
theorem nT:VI 4096 100 50 Bf 4 500 0 jD=(pY,0):=by kernel_rfl
theorem nS:VI 4096 100 50 (vY [1,97,0] (Y3 8)) 2 500 40 pY=(pY,5):=by kernel_rfl
theorem nR:VI 4096 100 50 (XP [1,98,0] 255 2) 3 500 0 pY=(GK,0):=by kernel_rfl
theorem iP:Ui pY ⟨[1,97,0],1⟩ 40=some (bM Bf 0 4 0 100):=by kernel_rfl
theorem iO:Ui pY ⟨[1,97,0],1⟩ 100=none:=by kernel_rfl
theorem iN:Ui GK ⟨[1,98,0],15⟩ 10=some (Ae (XP [1,98,0] 255 2) 3 0 50):=by kernel_rfl
theorem J4:ZJ GK ⟨[1,97,0],1⟩ 5=some (bM Bf 0 4 0 100):=by kernel_rfl
theorem nU:U0 (Zf Bf).rrs=[7]:=by kernel_rfl
set_option maxRecDepth 10000 in
set_option maxHeartbeats 4000000 in
theorem KD:zP Tryz.prog 30 #[] [] (fun r S=>r= .bool true∧S=[]):=by
 refine zP.forget (zm Tryz.Lu (Nat.le_of_ble_eq_true rfl) ?_);unfold Tryz.MF;refine ze (z8 (yp pC (zf (za (ze (z8 ?_))))));refine zh (zk (pX (N:=4096) (by decide) rfl (by decide)) rfl rfl fun r S' h=>?_);obtain⟨cb,sb,H0,rfl,hS0,rfl⟩:=h;refine yp (pU rfl) (yp (pExt rfl rfl) (yp (pExt rfl rfl) (yp (pP rfl) (yp (pI rfl) (zf (za (ze (z8 ?_))))))));refine zh (zk (AO (N:=4096) (by decide) rfl (by decide)) rfl rfl fun r S' h=>?_);obtain⟨rfl,rfl⟩:=h;refine yp (pU rfl) (yp (pExt rfl rfl) (yp (pExt rfl rfl) (yp (pP rfl) (yp (pI rfl) (zf (za (ze (ze (z8 (yp (pI rfl) (yp (UL rfl rfl) (yp (pB rfl) (zW rfl (Z6 (pP rfl) (zW rfl (Z6 (wG rfl rfl) (yp (zQ rfl rfl) (yp (pB rfl) (zW rfl (Z6 (pI rfl) (zW rfl (Z6 (UL rfl rfl) (yp (zQ rfl rfl) (zf (za (zA rfl (zq (za (ze (z8 (yp (vg (dU rfl) (uO rfl)) ?_)))))))))))))))))))))))))))))));refine zh (Z8 fun p5=>?_);refine zh (wm rfl rfl rfl rfl rfl ?_);refine zf (za (ze (z8 (yp (pP rfl) ?_))));refine zh (zk (QO [1,97,0] 7) rfl rfl fun r S' h=>?_);obtain⟨v,HS,rfl,hR,rfl⟩:=h
 skip
 refine zh (zk (jX (tc:=100) (nc:=50) (S0:=[HS]) (cb:=cb) hS0 (gF rfl).q.ok (hR.src (by simp)) (by decide) qO (by decide) 4 500 0 (by decide)) rfl rfl fun r S' h=>?_);rw[nT] at h;obtain⟨rfl,H1,hS1,rfl⟩:=h;have hx1:bK pY:=kC (by decide);refine yp (pI rfl) (zf (za (ze (z8 (yp (pP rfl) ?_)))));refine zh (wC rfl rfl ?_);refine zh (zk (qd (tc:=100) (nc:=50) (cb:=cb) hS1 ⟨[1,97,0],1⟩ (by decide) 40 hx1 (by decide)) rfl rfl fun r S' h=>?_);obtain⟨w,b,HR,rfl,hF,rfl⟩:=h;rw[iP] at hF;obtain⟨v1,rfl,rfl,hR1⟩:=hF.some;obtain⟨va,vc,rfl⟩:=hR1.isSlice;refine yp (pU rfl) (yp (pExt rfl rfl) (yp (pExt rfl rfl) ?_));refine zh (Z8 fun p7=>?_);refine zh (wm rfl rfl rfl rfl rfl ?_);refine yp (pB rfl) (zf (za (ze (z8 (yp (pP rfl) ?_)))));refine zh (wC rfl rfl ?_);refine zh (zk (qd (tc:=100) (nc:=50) (cb:=cb) hS1 ⟨[1,97,0],1⟩ (by decide) 100 hx1 (by decide)) rfl rfl fun r S' h=>?_);obtain⟨w,b,HR2,rfl,hF2,rfl⟩:=h;rw[iO] at hF2;obtain⟨rfl,rfl,rfl⟩:=hF2.none;refine yp (pU rfl) (yp (pExt rfl rfl) (yp (pExt rfl rfl) ?_));refine zh (Z8 fun p9=>?_);refine zh (wm rfl rfl rfl rfl rfl ?_);refine yp (pB rfl) (zf (za (ze (z8 (yp (pP rfl) ?_)))));refine zh (zk (QO [1,97,0] 8) rfl rfl fun r S' h=>?_);obtain⟨v2,HS2,rfl,hR2,rfl⟩:=h
 skip
 refine zh (zk (jX (tc:=100) (nc:=50) (S0:=[HS2]) (cb:=cb) hS1 (gF rfl).q.ok (hR2.src (by simp)) (by decide) hx1 (by decide) 2 500 40 (by decide)) rfl rfl fun r S' h=>?_);rw[nS] at h;obtain⟨rfl,H2,hS2,rfl⟩:=h;refine yp (pI rfl) (zf (za (ze (z8 (yp (pP rfl) (yp (vg (dU rfl) (uO rfl)) (yp (v:= .agg (Jt (XP [1,98,0] 255 2) (.slice none 0 0))) rfl ?_)))))));refine zh (zk (jX (tc:=100) (nc:=50) (S0:=[]) (s:=XP [1,98,0] 255 2) (cb:=cb) hS2 (mF (by decide+kernel) (by decide) (by decide)).2.1 .nil (by decide) hx1 (by decide) 3 500 0 (by decide)) rfl rfl fun r S' h=>?_);rw[nR] at h;obtain⟨rfl,H3,hS3,rfl⟩:=h;have hx3:bK GK:=lQ hx1 (by decide);refine yp (pI rfl) (zf (za (ze (z8 (yp (pP rfl) (yp (vg (dU rfl) (uO rfl)) ?_))))));refine zh (zk (qd (tc:=100) (nc:=50) (cb:=cb) hS3 ⟨[1,98,0],15⟩ (by decide) 10 hx3 (by decide)) rfl rfl fun r S' h=>?_);obtain⟨w,b,HR3,rfl,hF3,rfl⟩:=h;rw[iN] at hF3;obtain⟨v3,rfl,rfl,hR3⟩:=hF3.some;obtain⟨va3,vc3,rfl⟩:=hR3.isSlice;refine yp (pU rfl) (yp (pExt rfl rfl) (yp (pExt rfl rfl) ?_));refine zh (Z8 fun p13=>?_);refine zh (wm rfl rfl rfl rfl rfl ?_);refine yp (pB rfl) (zf (za (ze (z8 (yp pC (zf (za (ze (z8 (yp (pI rfl) (yp (WZ rfl rfl) (yp (pB rfl) (zW rfl (Z6 (pB rfl) (yp (zD rfl rfl) (yp (pB rfl) (zW rfl (Z6 (zn rfl) (zW rfl ?_)))))))))))))))))));refine(zC rfl rfl ?_);refine zW rfl (Z6 (WZ rfl rfl) (yp (zD rfl rfl) (yp (pB rfl) (zW rfl (Z6 (zn rfl) (zW rfl ?_))))));refine(zC rfl rfl ?_);refine zW rfl (Z6 (WZ rfl rfl) (yp (zD rfl rfl) (yp (pB rfl) (zW rfl (Z6 (pB rfl) (zW rfl (Z6 (Ze rfl) (yp (zD rfl rfl) (yp (pB rfl) (zW rfl (Z6 (pI rfl) (zW rfl (Z6 (WZ rfl rfl) (yp (zD rfl rfl) (yp (pB rfl) (zW rfl (Z6 (pI rfl) (zW rfl (Z6 (WZ rfl rfl) (yp (zD rfl rfl) (yp (pB rfl) (zW rfl (Z6 (pB rfl) (yp (zD rfl rfl) (yp (pB rfl) (zW rfl (Z6 (zn rfl) (zW rfl (Z6 (zn rfl) (zW rfl ?_))))))))))))))))))))))))))))));refine(zC rfl rfl ?_);refine zW rfl (Z6 (WZ rfl rfl) (yp (zD rfl rfl) (yp (pB rfl) (zW rfl (Z6 (zn rfl) (zW rfl ?_))))));refine(zC rfl rfl ?_);refine zW rfl (Z6 (WZ rfl rfl) (yp (zD rfl rfl) (yp (pB rfl) (zW rfl (Z6 (pP rfl) (zW rfl ?_))))));refine zk (Kw (tc:=100) (nc:=50) (cb:=cb) kP Kr (by decide) hS3 [1,97,0] (by decide) 5 hx3 (by decide) (fun i hi _=>by rw[J4] at hi; cases hi; exact⟨by decide,fun r hr=>by rw[List.mem_singleton.1 hr]; decide⟩)) rfl rfl fun r S' h=>?_
 obtain⟨M,HM,hM,hMs,rfl⟩:=h;have hM7:M=[7]:=by
  exact(hM.get J4 rfl).one nU
 subst hM7;obtain⟨ma,mc,rfl⟩:=hMs.isSlice;refine zW rfl ?_;refine vU (7:Int) rfl rfl (by decide) (by decide) rfl fun p107=>?_
 refine zW rfl ?_;refine zk (iJ (A:=[7]) (B:=[7]) (S:=[HM,[(p107,.cells (cells [(7:Int)]).toArray 3)]]) (hMs.src (by simp)) (.lit (by repeat (first | exact List.mem_cons_self | apply List.mem_cons_of_mem)) rfl) (by decide)) rfl rfl fun r S' h=>?_
 obtain⟨rfl,h⟩:=h;have h:=h.symm;subst h;refine yp (zD rfl rfl) (yp (pB rfl) (zW rfl (Z6 (pP rfl) (zW rfl ?_))));refine zk (qg (sb:=sb) (tc:=100) (nc:=50) 0 500) rfl rfl fun r S' h=>?_
 obtain⟨rfl,rfl⟩:=h;refine zW rfl (Z6 (WZ rfl rfl) (yp (zD rfl rfl) (yp (pB rfl) (zW rfl (Z6 (pP rfl) (zW rfl ?_))))));refine zk (qg (sb:=sb) (tc:=100) (nc:=50) 1 500) rfl rfl fun r S' h=>?_
 obtain⟨rfl,rfl⟩:=h;refine zW rfl (Z6 (WZ rfl rfl) (yp (zD rfl rfl) (yp (pB rfl) (zW rfl (Z6 (pP rfl) (zW rfl ?_))))));refine zk (Kv (sb:=sb) (tc:=100) (nc:=50)) rfl rfl fun r S' h=>?_
 obtain⟨rfl,rfl⟩:=h;refine zW rfl (Z6 (XY rfl rfl) (yp (zD rfl rfl) (yp (pB rfl) (zW rfl (Z6 (pP rfl) (zW rfl ?_))))));refine zk (nO 1) rfl rfl fun r S' h=>?_
 obtain⟨rfl,rfl⟩:=h;refine zW rfl (Z6 (WZ rfl rfl) (yp (zD rfl rfl) (yp (pB rfl) (zW rfl (Z6 (pP rfl) (zW rfl ?_))))));refine zk (iI [0] 0) rfl rfl fun r S' h=>?_
 obtain⟨rfl,rfl⟩:=h;refine zW rfl (Z6 (ZK rfl) (zW rfl (Z6 (WZ rfl rfl) (yp (zD rfl rfl) (yp (pB rfl) (zf (za (zJ ?_))))))));exact zH (rB rfl) ⟨[],.of,rfl,rfl⟩
end Go.Proofs.YtekgciopamkjlaaGreat