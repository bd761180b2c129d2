/- CacheGoes: the walk. -/
import Derived.Test.YtekgciopamkjlaaGreatCaS
import Derived.Test.YtekgciopamkjlaaGreatRefP
import Derived.Test.YtekgciopamkjlaaGreatAlk
namespace Go.Proofs.YtekgciopamkjlaaGreat
open Go.Xs
open Enc (enc)
set_option maxRecDepth 10000 in
set_option maxHeartbeats 4000000 in
theorem c4(n0:ByteArray)(left most by_ kind:Int):Tri Tryz.prog 4 #[.string n0,.int .i64 left,.int .i64 most,.int .i64 by_,.int .i64 kind] [] (fun r S'=>r= .bool true∧S'=[]):=by
 obtain⟨n,rfl⟩:∃Y:Bs,n0=⟨Y.toArray⟩:=⟨n0.data.toList,rfl⟩
 refine Tri.forget (zq Tryz.fx4 (Nat.le_of_ble_eq_true rfl) ?_);unfold Tryz.x4;refine ze (z8 (yp pC (zf (za ?_))));refine uy (fun E S'=>Has E [(0,sv n),(1,.int .i64 left),(2,.int .i64 most),(3,.int .i64 by_),(4,.int .i64 kind)]∧(n.length≤100∧(1≤left∧left≤2147483647)∧(1≤most∧most≤2147483648)∧0≤by_∧by_≤8589934592)∧zG S' []) ?_ fun E S' ⟨hE,hb,hJ⟩=>?_
 ·refine wz (fun E S'=>∃c,Has E [(0,sv n),(1,.int .i64 left),(2,.int .i64 most),(3,.int .i64 by_),(4,.int .i64 kind),(45,.bool c)]∧(c=false→n.length≤100∧(1≤left∧left≤2147483647)∧(1≤most∧most≤2147483648)∧0≤by_∧by_≤8589934592)∧zG S' []) ?_ fun E S' ⟨c,hE,hb,hJ⟩=>?_
  ·refine z8 (yp (pT rfl) (yp (Wm rfl) (yp (WS rfl rfl) (yp (pB rfl) ?_))));rw[Xt];by_cases c1:100<(n.length:Int)
   ·rw[decide_eq_true c1];refine zP rfl (zP rfl (yp (zw rfl rfl) (yp (pB rfl) (zP rfl (zP rfl (yp (zw rfl rfl) (yp (pB rfl) (zP rfl (zP rfl (yp (zw rfl rfl) (yp (pB rfl) (zP rfl (zP rfl (yp (zw rfl rfl) (yp (pB rfl) (zP rfl (zP rfl (yp (zw rfl rfl) (yp (pB rfl) (zP rfl (zP rfl (yp (zw rfl rfl) (zf (za ?_))))))))))))))))))))))));exact⟨true,⟨rfl,rfl,rfl,rfl,rfl,rfl,trivial⟩,(fun h=>by cases h),.of⟩
   rw[decide_eq_false c1];refine zK rfl (zQ (pI rfl) (zK rfl (zQ (ZE rfl rfl) (yp (zD rfl rfl) (yp (pB rfl) ?_)))));by_cases c2:left<1
   ·rw[decide_eq_true c2];refine zP rfl (zP rfl (yp (zw rfl rfl) (yp (pB rfl) (zP rfl (zP rfl (yp (zw rfl rfl) (yp (pB rfl) (zP rfl (zP rfl (yp (zw rfl rfl) (yp (pB rfl) (zP rfl (zP rfl (yp (zw rfl rfl) (yp (pB rfl) (zP rfl (zP rfl (yp (zw rfl rfl) (zf (za ?_))))))))))))))))))));exact⟨true,⟨rfl,rfl,rfl,rfl,rfl,rfl,trivial⟩,(fun h=>by cases h),.of⟩
   rw[decide_eq_false c2];refine zK rfl (zQ (pI rfl) (zK rfl (zQ (WS rfl rfl) (yp (zD rfl rfl) (yp (pB rfl) ?_)))));by_cases c3:2147483647<left
   ·rw[decide_eq_true c3];refine zP rfl (zP rfl (yp (zw rfl rfl) (yp (pB rfl) (zP rfl (zP rfl (yp (zw rfl rfl) (yp (pB rfl) (zP rfl (zP rfl (yp (zw rfl rfl) (yp (pB rfl) (zP rfl (zP rfl (yp (zw rfl rfl) (zf (za ?_))))))))))))))));exact⟨true,⟨rfl,rfl,rfl,rfl,rfl,rfl,trivial⟩,(fun h=>by cases h),.of⟩
   rw[decide_eq_false c3];refine zK rfl (zQ (pI rfl) (zK rfl (zQ (ZE rfl rfl) (yp (zD rfl rfl) (yp (pB rfl) ?_)))));by_cases c4:most<1
   ·rw[decide_eq_true c4];refine zP rfl (zP rfl (yp (zw rfl rfl) (yp (pB rfl) (zP rfl (zP rfl (yp (zw rfl rfl) (yp (pB rfl) (zP rfl (zP rfl (yp (zw rfl rfl) (zf (za ?_))))))))))));exact⟨true,⟨rfl,rfl,rfl,rfl,rfl,rfl,trivial⟩,(fun h=>by cases h),.of⟩
   rw[decide_eq_false c4];refine zK rfl (zQ (pI rfl) (zK rfl (zQ (WS rfl rfl) (yp (zD rfl rfl) (yp (pB rfl) ?_)))));by_cases c5:2147483648<most
   ·rw[decide_eq_true c5];refine zP rfl (zP rfl (yp (zw rfl rfl) (yp (pB rfl) (zP rfl (zP rfl (yp (zw rfl rfl) (zf (za ?_))))))));exact⟨true,⟨rfl,rfl,rfl,rfl,rfl,rfl,trivial⟩,(fun h=>by cases h),.of⟩
   rw[decide_eq_false c5];refine zK rfl (zQ (pI rfl) (zK rfl (zQ (ZE rfl rfl) (yp (zD rfl rfl) (yp (pB rfl) ?_)))));by_cases c6:by_<0
   ·rw[decide_eq_true c6];refine zP rfl (zP rfl (yp (zw rfl rfl) (zf (za ?_))));exact⟨true,⟨rfl,rfl,rfl,rfl,rfl,rfl,trivial⟩,(fun h=>by cases h),.of⟩
   rw[decide_eq_false c6];refine zK rfl (zQ (pI rfl) (zK rfl (zQ (WS rfl rfl) (yp (zD rfl rfl) (zf (za ?_))))));by_cases c7:8589934592<by_
   ·rw[decide_eq_true c7]
    skip
    exact⟨true,⟨rfl,rfl,rfl,rfl,rfl,rfl,trivial⟩,(fun h=>by cases h),.of⟩
   rw[decide_eq_false c7]
   skip
   exact⟨false,⟨rfl,rfl,rfl,rfl,rfl,rfl,trivial⟩,fun _=>by omega,.of⟩
  obtain⟨E0,e0⟩:=zm hE; subst e0; clear hE;refine zn hJ ?_;cases c
  ·refine zo rfl (zl (za ?_));exact⟨⟨rfl,rfl,rfl,rfl,rfl,trivial⟩,hb rfl,.of⟩
  ·refine zC rfl (ze (z8 ?_));refine zh (zk ZM rfl rfl fun r S' h=>?_);obtain⟨rfl,rfl⟩:=h;refine yp (pB rfl) (zf (za (zJ (zV ?_))));exact zI (rB rfl) ⟨_,.of,rfl,rfl⟩
 obtain⟨hn,⟨l1,l2⟩,⟨m1,m2⟩,y0,y2⟩:=hb;obtain⟨E0,e0⟩:=zm hE; subst e0; clear hE;refine zn hJ (ze (z8 (yp (pI rfl) ?_)));refine zh (zk (Uq kind 3 (by decide)) rfl rfl fun r S' h=>?_);obtain⟨rfl,rfl⟩:=h;have hk:=Wj kind 3 (by decide);generalize round kind 3=k at hk;refine yp (pI rfl) (zf (za (ze (z8 (yp (pI rfl) (yp (pI rfl) ?_))))));refine zh (zk (Ke (N:=4096) (tc:=most) (nc:=most) (by decide) rfl (by omega)) rfl rfl fun r S' h=>?_);obtain⟨cb,sb,H0,rfl,hS0,rfl⟩:=h;refine yp (pU rfl) (yp (pExt rfl rfl) (yp (pExt rfl rfl) (yp (pP rfl) (yp (pI rfl) (zf (za (ze (ze (z8 (yp (pI rfl) (yp (WU rfl rfl) (yp (pB rfl) (zK rfl (zQ (pP rfl) (zK rfl (zQ (wh rfl rfl) (yp (zD rfl rfl) (zf (za (zo rfl (zl (za (ze (z8 (yp (pT rfl) ?_)))))))))))))))))))))))));refine zh (zk (y5 n 9) rfl rfl fun r S' h=>?_);obtain⟨v,HS,rfl,hR,rfl⟩:=h;obtain⟨ra,rc,rfl⟩:=hR.isSlice;refine zh (Z5 fun p14=>?_);refine zh (Zv rfl rfl rfl rfl rfl ?_);refine zf (za ?_);refine wz (fun E S'=>∃v HS,Has E [(0,sv n),(1,.int .i64 left),(2,.int .i64 most),(3,.int .i64 by_),(11,.int .i64 k),(12,.pointer (some ⟨cb,0,none⟩)),(14,.pointer (some ⟨p14,0,none⟩))]∧Zg 89 v (VJ n k).rrs HS∧zG S' [[(p14,.cells (X7 (VJ n k) v) 46)],HS,Uo cb sb most most,H0]) ?_ fun E S' ⟨v,HS,hE,hR,hJ⟩=>?_
 ·refine ze (z8 (yp (pI rfl) (zf (za (zu (ze (z8 (yp (wB rfl rfl) (yp (pB rfl) (zf (za ?_)))))))))));by_cases k1:k=1
  ·subst k1;refine zC rfl (z8 (yp (zx rfl) ?_));refine zh (wH (l:=[sv n,.int .i64 1]) rfl rfl rfl ?_);refine yp (v:= .agg (X7 (ZK n 1 1) (.slice none 0 0))) rfl ?_;refine zh (Zv (c':=X7 (ZK n 1 1) (.slice none 0 0)) rfl rfl rfl rfl rfl ?_);refine zf (zW (za ?_));rw[g1];exact⟨.slice none 0 0,[],⟨rfl,rfl,rfl,rfl,rfl,rfl,rfl,trivial⟩,.nil,.of⟩
  ·rw[decide_eq_false k1];refine zo rfl (ze (z8 (yp (wB rfl rfl) (yp (pB rfl) (zf (za ?_))))));by_cases k2:k=2
   ·subst k2;refine zC rfl (z8 (yp (pT rfl) (yp (Zr (xW rfl) (vH rfl)) (yp (v:= .agg (X7 (ZK n 255 2) (.slice none 0 0))) rfl ?_))));refine zh (Zv (c':=X7 (ZK n 255 2) (.slice none 0 0)) rfl rfl rfl rfl rfl ?_);refine zf (zW (za ?_));rw[g2];exact⟨.slice none 0 0,[],⟨rfl,rfl,rfl,rfl,rfl,rfl,rfl,trivial⟩,.nil,.of⟩
   ·obtain rfl:k=0:=by omega
    refine zo rfl (zl (zW (za ?_)));rw[g0];exact⟨_,HS,⟨rfl,rfl,rfl,rfl,rfl,rfl,rfl,trivial⟩,hR,.of⟩
 obtain⟨gp0,gp1⟩:=Ms (n:=n) hk hn (left:=left) (most:=most) (by omega) (by omega);have hgs:=Mr (n:=n) hk hn;have hgm:=(DV (n:=n) hk).1;have hgk:=(sF (n:=n) hk).2;obtain⟨ga,gc,rfl⟩:=hR.isSlice;have hfind:=fun t P Q=>Gs (n:=n) (k:=k) (by_:=by_) (t:=t) hk (P:=P) (Q:=Q)
 generalize VJ n k=s at*
 obtain⟨E0,e0⟩:=zm hE; subst e0; clear hE;refine zn hJ (ze (z8 (yp (pP rfl) ?_)));refine zh (ZP rfl rfl ?_);refine yp (pI rfl) ?_;refine zh (zk (uo (tc:=most) (nc:=most) (S0:=[HS]) (cb:=cb) hS0 hgs (hR.src (by simp)) (by decide) Yf (by omega) 4 left 5 (by decide)) rfl rfl fun r S' h=>?_);cases hv:wm n with
 | false=>
  rw[gp0 hv] at h;rw[hv] at hgm;obtain⟨rfl,H1,hS1,rfl⟩:=h;refine yp (pI rfl) (zf (za (ze (ze (z8 ?_)))));refine zh (ZP rfl rfl ?_);refine zh (zk (o9 (S:=[HS]) hgs (hR.src (by simp))) rfl rfl fun r S' h=>?_);obtain⟨rfl,h⟩:=h;have h:=h.symm;subst h;rw[hgm];refine yp (Za rfl) (zf (za (zC rfl (ze (z8 (yp (pI rfl) (yp (wB rfl rfl) (yp (pB rfl) (zK rfl ?_)))))))));refine zk ZM rfl rfl fun r S' h=>?_
  obtain⟨rfl,rfl⟩:=h;refine yp (zw rfl rfl) (yp (pB rfl) (zf (za (zJ (zV ?_)))));exact zI (rB rfl) ⟨[],.of,rfl,rfl⟩
 | true=>
  rw[gp1 hv] at h;rw[hv] at hgm;obtain⟨rfl,H1,hS1,rfl⟩:=h;refine yp (pI rfl) (zf (za (ze (ze (z8 ?_)))));refine zh (ZP rfl rfl ?_);refine zh (zk (o9 (S:=[HS]) hgs (hR.src (by simp))) rfl rfl fun r S' h=>?_);obtain⟨rfl,h⟩:=h;have h:=h.symm;subst h;rw[hgm];refine yp (Za rfl) (zf (za (zo rfl (zl (za (ze (z8 (yp (pI rfl) (yp (pI rfl) (yp (kE rfl rfl) ?_))))))))));have hS1:Sr sb 4096 (one s 0 4 5 (5+min left most) [Zq s] []) H1:=hS1;generalize ht:min left most=t at*
  refine yp (pI rfl) (zf (za (ze (z8 (yp (pP rfl) (yp (pT rfl) (yp (Zr (xW rfl) (vH rfl)) (yp (pI rfl) (yp (vJ rfl rfl (by omega)) ?_)))))))));refine zh (zk (WT (tc:=most) (nc:=most) (cb:=cb) hS1 ⟨n,1⟩ (by show n.length<_; omega) (5+by_) (xk ⟨by omega,by omega⟩) ⟨by omega,by omega⟩) rfl rfl fun r S' h=>?_);obtain⟨w,b,HR,rfl,hF,rfl⟩:=h;rw[hfind] at hF;by_cases hbt:by_<t
  ·rw[if_pos hbt] at hF;obtain⟨v1,rfl,rfl,hR1⟩:=hF.some;obtain⟨va,vc,rfl⟩:=hR1.isSlice;refine yp (pU rfl) (yp (pExt rfl rfl) (yp (pExt rfl rfl) ?_));refine zh (Z5 fun p17=>?_);refine zh (Zv rfl rfl rfl rfl rfl ?_);refine yp (pB rfl) (zf (za (ze (z8 (yp (pI rfl) (yp (wB rfl rfl) (yp (pB rfl) (zK rfl (zQ (pB rfl) (zK rfl (zQ (pI rfl) (zK rfl (zQ (pI rfl) (zK rfl (zQ (ZE rfl rfl) (zK rfl (zQ (LY rfl rfl) (yp (zw rfl rfl) (yp (pB rfl) ?_)))))))))))))))))));rw[decide_eq_true hbt];refine zK rfl (zQ (pB rfl) (zK rfl (zQ (Za rfl) (zK rfl (zQ (pB rfl) (zK rfl (zQ (zx rfl) (zK rfl ?_))))))));refine(zy rfl rfl ?_);refine zK rfl (zQ (pI rfl) (zK rfl (zQ (pI rfl) (zK rfl (zQ (Zy rfl rfl (by omega)) (zK rfl (zQ (wB rfl rfl) (zK rfl (zQ (pB rfl) ?_)))))))));rw[decide_eq_true (show Uz (5+t) (5+by_)=t-by_ from by rw[left_eq ⟨by omega,by omega,by omega⟩]; omega)];refine zK rfl (zQ (zx rfl) (zK rfl (zQ (zx rfl) (zK rfl ?_))));refine(zy rfl rfl ?_);refine zK rfl (zQ (pI rfl) (zK rfl (zQ (wB rfl rfl) (zK rfl (zQ (zw rfl rfl) (zK rfl (zQ (pB rfl) ?_)))))));rw[decide_eq_true (show(Zh s).kind=k from hgk.2)];refine zK rfl (zQ (zx rfl) (zK rfl ?_));refine(zy rfl rfl ?_);refine zK rfl (zQ (wB rfl rfl) (zK rfl (zQ (zw rfl rfl) (zK rfl (zQ (zD rfl rfl) (yp (zw rfl rfl) (yp (pB rfl) (zK rfl ?_))))))));refine zk ZM rfl rfl fun r S' h=>?_
   obtain⟨rfl,rfl⟩:=h;refine yp (zw rfl rfl) (yp (pB rfl) (zf (za (zJ ?_))));exact zI (rB rfl) ⟨[],.of,rfl,rfl⟩
  ·rw[if_neg hbt] at hF;obtain⟨rfl,rfl,rfl⟩:=hF.none;refine yp (pU rfl) (yp (pExt rfl rfl) (yp (pExt rfl rfl) ?_));refine zh (Z5 fun p17=>?_);refine zh (Zv rfl rfl rfl rfl rfl ?_);refine yp (pB rfl) (zf (za (ze (z8 (yp (pI rfl) (yp (wB rfl rfl) (yp (pB rfl) (zK rfl (zQ (pB rfl) (zK rfl (zQ (pI rfl) (zK rfl (zQ (pI rfl) (zK rfl (zQ (ZE rfl rfl) (zK rfl (zQ (LY rfl rfl) (yp (zw rfl rfl) (yp (pB rfl) ?_)))))))))))))))))));rw[decide_eq_false hbt];refine zK rfl (zQ (pB rfl) (zK rfl (zQ (Za rfl) (zK rfl (zQ (pB rfl) (zP rfl (zP rfl (zP rfl (zP rfl (zP rfl (zP rfl (zP rfl (ZT rfl (ZT rfl (ZT rfl (ZT rfl (ZT rfl (zP rfl (zP rfl (ZT rfl (ZT rfl (ZT rfl (zP rfl (zK rfl (zQ (zw rfl rfl) (yp (zw rfl rfl) (yp (pB rfl) (zK rfl ?_))))))))))))))))))))))))))));refine zk ZM rfl rfl fun r S' h=>?_
   obtain⟨rfl,rfl⟩:=h;refine yp (zw rfl rfl) (yp (pB rfl) (zf (za (zJ ?_))));exact zI (rB rfl) ⟨[],.of,rfl,rfl⟩
end Go.Proofs.YtekgciopamkjlaaGreat