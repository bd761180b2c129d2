/- The laws of chapter 13: what the document fixes. -/
import Derived.Test.YtekgciopamkjlaaGreatCaH
import Derived.Test.YtekgciopamkjlaaGreatCaQ
import Derived.Test.YtekgciopamkjlaaGreatFLawC
namespace Go.Proofs.YtekgciopamkjlaaGreat
open Go.Xs
open Enc (enc)
theorem I4.some{i:It}{now:Int}{w:Array Value}{b:Bool}{HR:List Chunk}(h:I4 (some i) now w b HR):∃v,b=true∧w=I8 i v (Uo i.exp now)∧Zc 89 v (Zh i.s).rrs HR:=by
 rcases h with⟨_,h,_⟩ | ⟨j,v,h1,h2,h3,h4⟩
 ·cases h
 ·cases h2;exact⟨v,h1,h3,h4⟩
theorem I4.none{now:Int}{w:Array Value}{b:Bool}{HR:List Chunk}(h:I4 none now w b HR):b=false∧w=Bh∧HR=[]:=by
 rcases h with⟨h1,_,h2,h3⟩ | ⟨j,v,h1,h2,h3,h4⟩
 ·exact⟨h1,h2,h3⟩
 ·cases h2
theorem Jz.one{L:List RR}{M:List Int}{x:Int}(h:Jz L M)(e:U5 L=[x]):M=[x]:=by
 obtain⟨L1,hp,_,rfl⟩:=h;rw[e] at hp;rw[List.perm_singleton.1 hp]; rfl
theorem BJ.get{S:Ss}{n:Bs}{now:Int}{M:List Int}{i:It}(h:BJ S n now M)(ht:ZL S ⟨n,1⟩ now=some i)(hk:i.s.kind=0):Jz (Zh i.s).rrs M:=by
 unfold BJ at h;rw[ht] at h;simpa only[hk,if_true] using h
theorem mM{S:Ss}{s:St}{r now exp:Int}(h:dx S)(he:0≤exp∧exp≤1099511627776):dx (BG s r now exp S):=fun i hi=>by
 rcases List.mem_append.1 hi with hi | hi
 ·exact h i hi
 ·rw[List.mem_singleton.1 hi]; exact he
theorem Qh:dx jV:=fun i hi=>by cases hi
theorem UK{s:St}{p r c x:Int}{P Q:List Ky}(he:0≤x∧x≤1099511627776):dx (one s p r c x P Q):=fun i hi=>by
 rw[List.mem_singleton.1 hi]; exact he
abbrev BM:St:=Vi [1,97,0] (Yn 7)
abbrev sG:Ss:=one BM 0 4 0 100 [Zg BM] []
abbrev I9:Ss:=BG (Uv [1,98,0] 255 2) 3 0 50 sG
theorem pz:uW 4096 100 50 BM 4 500 0 jV=(sG,0):=by kernel_rfl
theorem oW:uW 4096 100 50 (Vi [1,97,0] (Yn 8)) 2 500 40 sG=(sG,5):=by kernel_rfl
theorem oV:uW 4096 100 50 (Uv [1,98,0] 255 2) 3 500 0 sG=(I9,0):=by kernel_rfl
theorem lJ:uP sG ⟨[1,97,0],1⟩ 40=some (JC BM 0 4 0 100):=by kernel_rfl
theorem lI:uP sG ⟨[1,97,0],1⟩ 100=none:=by kernel_rfl
theorem lH:uP I9 ⟨[1,98,0],15⟩ 10=some (AX (Uv [1,98,0] 255 2) 3 0 50):=by kernel_rfl
theorem Jp:ZL I9 ⟨[1,97,0],1⟩ 5=some (JC BM 0 4 0 100):=by kernel_rfl
theorem pE:U5 (Zh BM).rrs=[7]:=by kernel_rfl
set_option maxRecDepth 10000 in
set_option maxHeartbeats 4000000 in
theorem aM:zP Tryz.prog 30 #[] [] (fun r S=>r= .bool true∧S=[]):=by
 refine zP.forget (zl Tryz.Mf (Nat.le_of_ble_eq_true rfl) ?_);unfold Tryz.Nl;refine ze (z8 (yp pC (zf (za (ze (z8 ?_))))));refine zh (zk (sD (N:=4096) (by decide) rfl (by decide)) rfl rfl fun r S' h=>?_);obtain⟨cb,sb,H0,rfl,hS0,rfl⟩:=h;refine yp (pU rfl) (yp (pExt rfl rfl) (yp (pExt rfl rfl) (yp (pP rfl) (yp (pI rfl) (zf (za (ze (z8 ?_))))))));refine zh (zk (Bw (N:=4096) (by decide) rfl (by decide)) rfl rfl fun r S' h=>?_);obtain⟨rfl,rfl⟩:=h;refine yp (pU rfl) (yp (pExt rfl rfl) (yp (pExt rfl rfl) (yp (pP rfl) (yp (pI rfl) (zf (za (ze (ze (z8 (yp (pI rfl) (yp (uO rfl rfl) (yp (pB rfl) (zY rfl (Z7 (pP rfl) (zY rfl (Z7 (wz rfl rfl) (yp (zQ rfl rfl) (yp (pB rfl) (zY rfl (Z7 (pI rfl) (zY rfl (Z7 (uO rfl rfl) (yp (zQ rfl rfl) (zf (za (zx rfl (zq (za (ze (z8 (yp (WG (dA rfl) (u7 rfl)) ?_)))))))))))))))))))))))))))))));refine zh (Z6 fun p5=>?_);refine zh (ZX rfl rfl rfl rfl rfl ?_);refine zf (za (ze (z8 (yp (pP rfl) ?_))));refine zh (zk (Jw [1,97,0] 7) rfl rfl fun r S' h=>?_);obtain⟨v,HS,rfl,hR,rfl⟩:=h
 skip
 refine zh (zk (kH (tc:=100) (nc:=50) (S0:=[HS]) (cb:=cb) hS0 (iC rfl).q.ok (hR.src (by simp)) (by decide) Qh (by decide) 4 500 0 (by decide)) rfl rfl fun r S' h=>?_);rw[pz] at h;obtain⟨rfl,H1,hS1,rfl⟩:=h;have hx1:dx sG:=UK (by decide);refine yp (pI rfl) (zf (za (ze (z8 (yp (pP rfl) ?_)))));refine zh (ZK rfl rfl ?_);refine zh (zk (yY (tc:=100) (nc:=50) (cb:=cb) hS1 ⟨[1,97,0],1⟩ (by decide) 40 hx1 (by decide)) rfl rfl fun r S' h=>?_);obtain⟨w,b,HR,rfl,hF,rfl⟩:=h;rw[lJ] at hF;obtain⟨v1,rfl,rfl,hR1⟩:=hF.some;obtain⟨va,vc,rfl⟩:=hR1.isSlice;refine yp (pU rfl) (yp (pExt rfl rfl) (yp (pExt rfl rfl) ?_));refine zh (Z6 fun p7=>?_);refine zh (ZX rfl rfl rfl rfl rfl ?_);refine yp (pB rfl) (zf (za (ze (z8 (yp (pP rfl) ?_)))));refine zh (ZK rfl rfl ?_);refine zh (zk (yY (tc:=100) (nc:=50) (cb:=cb) hS1 ⟨[1,97,0],1⟩ (by decide) 100 hx1 (by decide)) rfl rfl fun r S' h=>?_);obtain⟨w,b,HR2,rfl,hF2,rfl⟩:=h;rw[lI] at hF2;obtain⟨rfl,rfl,rfl⟩:=hF2.none;refine yp (pU rfl) (yp (pExt rfl rfl) (yp (pExt rfl rfl) ?_));refine zh (Z6 fun p9=>?_);refine zh (ZX rfl rfl rfl rfl rfl ?_);refine yp (pB rfl) (zf (za (ze (z8 (yp (pP rfl) ?_)))));refine zh (zk (Jw [1,97,0] 8) rfl rfl fun r S' h=>?_);obtain⟨v2,HS2,rfl,hR2,rfl⟩:=h
 skip
 refine zh (zk (kH (tc:=100) (nc:=50) (S0:=[HS2]) (cb:=cb) hS1 (iC rfl).q.ok (hR2.src (by simp)) (by decide) hx1 (by decide) 2 500 40 (by decide)) rfl rfl fun r S' h=>?_);rw[oW] at h;obtain⟨rfl,H2,hS2,rfl⟩:=h;refine yp (pI rfl) (zf (za (ze (z8 (yp (pP rfl) (yp (WG (dA rfl) (u7 rfl)) (yp (v:= .agg (JU (Uv [1,98,0] 255 2) (.slice none 0 0))) rfl ?_)))))));refine zh (zk (kH (tc:=100) (nc:=50) (S0:=[]) (s:=Uv [1,98,0] 255 2) (cb:=cb) hS2 (nD (by decide+kernel) (by decide) (by decide)).2.1 .nil (by decide) hx1 (by decide) 3 500 0 (by decide)) rfl rfl fun r S' h=>?_);rw[oV] at h;obtain⟨rfl,H3,hS3,rfl⟩:=h;have hx3:dx I9:=mM hx1 (by decide);refine yp (pI rfl) (zf (za (ze (z8 (yp (pP rfl) (yp (WG (dA rfl) (u7 rfl)) ?_))))));refine zh (zk (yY (tc:=100) (nc:=50) (cb:=cb) hS3 ⟨[1,98,0],15⟩ (by decide) 10 hx3 (by decide)) rfl rfl fun r S' h=>?_);obtain⟨w,b,HR3,rfl,hF3,rfl⟩:=h;rw[lH] at hF3;obtain⟨v3,rfl,rfl,hR3⟩:=hF3.some;obtain⟨va3,vc3,rfl⟩:=hR3.isSlice;refine yp (pU rfl) (yp (pExt rfl rfl) (yp (pExt rfl rfl) ?_));refine zh (Z6 fun p13=>?_);refine zh (ZX rfl rfl rfl rfl rfl ?_);refine yp (pB rfl) (zf (za (ze (z8 (yp pC (zf (za (ze (z8 (yp (pI rfl) (yp (WT rfl rfl) (yp (pB rfl) (zY rfl (Z7 (pB rfl) (yp (zK rfl rfl) (yp (pB rfl) (zY rfl (Z7 (zn rfl) (zY rfl ?_)))))))))))))))))));refine(zB rfl rfl ?_);refine zY rfl (Z7 (WT rfl rfl) (yp (zK rfl rfl) (yp (pB rfl) (zY rfl (Z7 (zn rfl) (zY rfl ?_))))));refine(zB rfl rfl ?_);refine zY rfl (Z7 (WT rfl rfl) (yp (zK rfl rfl) (yp (pB rfl) (zY rfl (Z7 (pB rfl) (zY rfl (Z7 (Zd rfl) (yp (zK rfl rfl) (yp (pB rfl) (zY rfl (Z7 (pI rfl) (zY rfl (Z7 (WT rfl rfl) (yp (zK rfl rfl) (yp (pB rfl) (zY rfl (Z7 (pI rfl) (zY rfl (Z7 (WT rfl rfl) (yp (zK rfl rfl) (yp (pB rfl) (zY rfl (Z7 (pB rfl) (yp (zK rfl rfl) (yp (pB rfl) (zY rfl (Z7 (zn rfl) (zY rfl (Z7 (zn rfl) (zY rfl ?_))))))))))))))))))))))))))))));refine(zB rfl rfl ?_);refine zY rfl (Z7 (WT rfl rfl) (yp (zK rfl rfl) (yp (pB rfl) (zY rfl (Z7 (zn rfl) (zY rfl ?_))))));refine(zB rfl rfl ?_);refine zY rfl (Z7 (WT rfl rfl) (yp (zK rfl rfl) (yp (pB rfl) (zY rfl (Z7 (pP rfl) (zY rfl ?_))))));refine zk (aG (tc:=100) (nc:=50) (cb:=cb) Qt aD (by decide) hS3 [1,97,0] (by decide) 5 hx3 (by decide) (fun i hi _=>by rw[Jp] at hi; cases hi; exact⟨by decide,fun r hr=>by rw[List.mem_singleton.1 hr]; decide⟩)) rfl rfl fun r S' h=>?_
 obtain⟨M,HM,hM,hMs,rfl⟩:=h;have hM7:M=[7]:=by
  exact(hM.get Jp rfl).one pE
 subst hM7;obtain⟨ma,mc,rfl⟩:=hMs.isSlice;refine zY rfl ?_;refine Vf (7:Int) rfl rfl (by decide) (by decide) rfl fun p107=>?_
 refine zY rfl ?_;refine zk (sF (A:=[7]) (B:=[7]) (S:=[HM,[(p107,.cells (cells [(7:Int)]).toArray 3)]]) (hMs.src (by simp)) (.lit (by repeat (first | exact List.mem_cons_self | apply List.mem_cons_of_mem)) rfl) (by decide)) rfl rfl fun r S' h=>?_
 obtain⟨rfl,h⟩:=h;have h:=h.symm;subst h;refine yp (zK rfl rfl) (yp (pB rfl) (zY rfl (Z7 (pP rfl) (zY rfl ?_))));refine zk (qR (sb:=sb) (tc:=100) (nc:=50) 0 500) rfl rfl fun r S' h=>?_
 obtain⟨rfl,rfl⟩:=h;refine zY rfl (Z7 (WT rfl rfl) (yp (zK rfl rfl) (yp (pB rfl) (zY rfl (Z7 (pP rfl) (zY rfl ?_))))));refine zk (qR (sb:=sb) (tc:=100) (nc:=50) 1 500) rfl rfl fun r S' h=>?_
 obtain⟨rfl,rfl⟩:=h;refine zY rfl (Z7 (WT rfl rfl) (yp (zK rfl rfl) (yp (pB rfl) (zY rfl (Z7 (pP rfl) (zY rfl ?_))))));refine zk (uI (sb:=sb) (tc:=100) (nc:=50)) rfl rfl fun r S' h=>?_
 obtain⟨rfl,rfl⟩:=h;refine zY rfl (Z7 (yu rfl rfl) (yp (zK rfl rfl) (yp (pB rfl) (zY rfl (Z7 (pP rfl) (zY rfl ?_))))));refine zk (oP 1) rfl rfl fun r S' h=>?_
 obtain⟨rfl,rfl⟩:=h;refine zY rfl (Z7 (WT rfl rfl) (yp (zK rfl rfl) (yp (pB rfl) (zY rfl (Z7 (pP rfl) (zY rfl ?_))))));refine zk (lC [0] 0) rfl rfl fun r S' h=>?_
 obtain⟨rfl,rfl⟩:=h;refine zY rfl (Z7 (ZM rfl) (zY rfl (Z7 (WT rfl rfl) (yp (zK rfl rfl) (yp (pB rfl) (zf (za (zH ?_))))))));exact zG (rB rfl) ⟨[],.of,rfl,rfl⟩
end Go.Proofs.YtekgciopamkjlaaGreat