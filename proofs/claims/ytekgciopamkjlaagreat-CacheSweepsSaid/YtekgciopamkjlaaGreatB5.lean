/- slices.SortFunc: the choice of a pivot, patterns, and the whole. slices.SortFunc: the choice of a pivot, patterns that are broken, ranges that are nearly in order. slices.SortFunc: the whole. -/
import Derived.Test.YtekgciopamkjlaaGreatB4
namespace Go.Xs
open Enc (enc)
section
variable {P:Program} {r:Option Nat} {n:Nat} {K:Env→zL→Prop} {E:Env} {S R:zL} {d:Option Tmp}
theorem Qg{x y:Operand}{k k':IntKind}{a b:Nat}(h1:ev E x= .int k (a:Int))(h2:ev E y= .int k' (b:Int))(hb:b≤k.bits):zB (ev E) (.bin .shr x y)=some (.int k ((a/2 ^ b:Nat):Int)):=by
 have e:Nat.min b k.bits=b:=Nat.min_eq_left hb;simp only[zB,h1,h2,vE,V7];rw[if_pos (by simp),if_neg (by omega),show((b:Int)).toNat=b from rfl,e];congr 2;rw[Int.fdiv_eq_ediv_of_nonneg _ (by exact_mod_cast Nat.zero_le _)]
 norm_cast
theorem eX{x y:Operand}{k k':IntKind}{a b:Int}(h1:ev E x= .int k a)(h2:ev E y= .int k' b)(hb:0≤b):zB (ev E) (.bin .shl x y)=some (.int k (k.wrap (a*2 ^ (Nat.min b.toNat k.bits)))):=by
 simp[zB,h1,h2,vE,V7,show ¬b<0 from by omega]
theorem LQ{x y:Operand}{k k':IntKind}{a b:Int}(h1:ev E x= .int k a)(h2:ev E y= .int k' b)(hb:0≤b):zB (ev E) (.bin .shr x y)=some (.int k (a.fdiv (2 ^ (Nat.min b.toNat k.bits)))):=by
 simp[zB,h1,h2,vE,V7,show ¬b<0 from by omega]
theorem pE{x y:Operand}{k:IntKind}{a b:Int}(h1:ev E x= .int k a)(h2:ev E y= .int k b):zB (ev E) (.bin .xor x y)=some (.int k (Uw .xor k a b)):=by
 simp[zB,h1,h2,vE,V7]
theorem M5{x y:Operand}{a:Int}{b:Nat}(h1:ev E x= .int .u64 a)(h2:ev E y= .int .u64 (b:Int))(hb:b<18446744073709551616):∃c:Nat,c≤b∧zB (ev E) (.bin .and x y)=some (.int .u64 (c:Int)):=by
 refine⟨(BitVec.ofInt 64 a).toNat &&& b,Nat.and_le_right,?_⟩;simp only[zB,h1,h2,vE,V7,Uw];rw[if_pos (by simp)];congr 2;have hw:∀c:Nat,c<18446744073709551616→IntKind.u64.wrap (c:Int)=c:=fun c hc=>by
  have:IntKind.u64.wrap (c:Int)=(c:Int)%18446744073709551616:=by simp[IntKind.wrap,IntKind.signed,IntKind.bits]
  rw[this]; omega
 have e:(BitVec.ofInt IntKind.u64.bits a &&& BitVec.ofInt IntKind.u64.bits (b:Int)).toNat=(BitVec.ofInt 64 a).toNat &&& b:=by
  show(BitVec.ofInt 64 a &&& BitVec.ofInt 64 (b:Int)).toNat=_;rw[BitVec.toNat_and];congr 1;rw[BitVec.toNat_ofInt];simp;omega
 rw[e];exact hw _ (Nat.lt_of_le_of_lt Nat.and_le_right hb)
theorem Dg{x y:Operand}{a:Int}{b:Nat}(h1:ev E x= .int .u64 a)(h2:ev E y= .int .u64 (b:Int))(hb:b<18446744073709551616)(h:∀c:Nat,c≤b→K (Zm d (.int .u64 (c:Int)) E) S):YO P r n d (.bin .and x y) K E S:=by
 obtain⟨c,hc,hp⟩:=M5 h1 h2 hb;exact zQ hp (h c hc)
theorem Dv{x y:Operand}{a b:Nat}(h1:ev E x= .int .u64 (a:Int))(h2:ev E y= .int .u64 (b:Int))(h:b≤a)(ha:a<18446744073709551616):zB (ev E) (.bin .sub x y)=some (.int .u64 ((a-b:Nat):Int)):=by
 simp only[zB,h1,h2,vE,V7];rw[if_pos (by simp)];congr 2;have:IntKind.u64.wrap ((a:Int)-b)=((a:Int)-b)%18446744073709551616:=by simp[IntKind.wrap,IntKind.signed,IntKind.bits]
 rw[this]; omega
theorem LV{x:Operand}{k':IntKind}{b:Nat}(h2:ev E x= .int k' (b:Int))(hb:b≤60):zB (ev E) (.bin .shl (.const (.int .u64 1)) x)=some (.int .u64 ((2 ^ b:Nat):Int)):=by
 rw[eX (a:=1) rfl h2 (by omega)];congr 2;have e:Nat.min b IntKind.u64.bits=b:=Nat.min_eq_left (by show b≤64; omega);rw[show((b:Int)).toNat=b from rfl,e];have h1:(2:Nat) ^ b≤2 ^ 60:=Nat.pow_le_pow_right (by decide) hb;have:IntKind.u64.wrap (1*2 ^ b:Int)=(1*2 ^ b:Int)%18446744073709551616:=by simp[IntKind.wrap,IntKind.signed,IntKind.bits]
 rw[this,Int.one_mul,show((2:Int) ^ b)=((2 ^ b:Nat):Int) from by norm_cast];clear this;generalize (2:Nat) ^ b=q at h1 ⊢;omega
/-- how many bits a number has -/
structure av(n l:Nat):Prop where
 up:n<2 ^ l
 dn:0<n→1≤l∧2 ^ (l-1)≤n
theorem iV:∀x:Fin 256,∃h:x.val<Uj.size,(Uj[x.val]'h).toNat≤8∧x.val<2 ^ (Uj[x.val]'h).toNat∧(0<x.val→1≤(Uj[x.val]'h).toNat∧2 ^ ((Uj[x.val]'h).toNat-1)≤x.val):=by decide+kernel
theorem av.G9{n s x t:Nat}(hx:x=n/2 ^ s)(hs:0<s→0<x)(h1:x<2 ^ t)(h2:0<x→1≤t∧2 ^ (t-1)≤x):av n (s+t):=by
 refine⟨?_,fun hn=>?_⟩
 ·rw[Nat.pow_add];have:=(Nat.div_lt_iff_lt_mul (Nat.two_pow_pos s)).1 (hx▸h1)
  rwa [Nat.mul_comm]
 ·have h0:0<x:=by
   rcases Nat.eq_zero_or_pos s with rfl | h
   ·simp at hx; omega
   ·exact hs h
  obtain⟨h3,h4⟩:=h2 h0;refine⟨by omega,?_⟩;have:=(Nat.le_div_iff_mul_le (Nat.two_pow_pos s)).1 (hx▸h4);rw[←Nat.pow_add] at this
  rwa [show s+t-1=t-1+s from by omega]
theorem pz{f:Nat}(hf:Z9 P f 25 #[.tmp 2] VE){m:Nat}(hm:m<2 ^ 40):Tri P f #[.int .u64 (m:Int)] [] (fun r S=>∃l:Nat,r= .int .i64 (l:Int)∧l≤60∧av m l∧S=[]):=by
 refine Tri.forget (zq hf (Nat.le_of_ble_eq_true rfl) ?_);unfold VE;refine ze (z8 (yp pC (zf (za ?_))));refine wz (fun E S=>∃x s:Nat,Has E [(0,.int .u64 (x:Int)),(2,.int .i64 (s:Int))]∧x=m/2 ^ s∧(0<s→0<x)∧x<2 ^ 32∧(s=0∨s=32∧x<256)∧zG S []) ?_ fun E S ⟨x,s,hE,hx,hs,hb,hc,hJ⟩=>?_
 ·refine ze (z8 (yp (pI rfl) (yp (Ux rfl rfl) (zf (za ?_)))));refine zR rfl (fun h=>?_) (fun h=>?_)
  ·refine ze (z8 (yp (pI rfl) (yp (Qg (b:=32) rfl rfl (by decide)) (yp (pI rfl) (zf (za (z8 (yp pC (zf (za ?_))))))))));exact⟨m/2 ^ 32,32,⟨rfl,rfl,trivial⟩,rfl,fun _=>by omega,by omega,.inr ⟨rfl,by omega⟩,.of⟩
  ·refine zl (za ?_);exact⟨m,0,⟨rfl,rfl,trivial⟩,by simp,fun h=>by omega,by omega,.inl rfl,.of⟩
 obtain⟨E0,e0⟩:=zm hE; subst e0; clear hE;refine zn hJ ?_;refine wz (fun E S=>∃x s:Nat,Has E [(0,.int .u64 (x:Int)),(2,.int .i64 (s:Int))]∧x=m/2 ^ s∧(0<s→0<x)∧x<2 ^ 16∧s≤32∧(s≤16∨x<256)∧zG S []) ?_ fun E S ⟨x,s,hE,hx,hs,hb,hc,hd,hJ⟩=>?_
 ·refine ze (z8 (yp (pI rfl) (yp (Ux rfl rfl) (zf (za ?_)))));refine zR rfl (fun h=>?_) (fun h=>?_)
  ·have h0:s=0:=by omega
   subst h0;refine ze (z8 (yp (pI rfl) (yp (Qg (b:=16) rfl rfl (by decide)) (yp (pI rfl) (zf (za (z8 (yp (pI rfl) (yp (vJ rfl rfl (by omega)) (yp (pI rfl) (zf (za ?_))))))))))));exact⟨x/2 ^ 16,16,⟨rfl,rfl,trivial⟩,by rw[hx]; simp,fun _=>by omega,by omega,by omega,.inl (by omega),.of⟩
  ·refine zl (za ?_);exact⟨x,s,⟨rfl,rfl,trivial⟩,hx,hs,by omega,by omega,by omega,.of⟩
 obtain⟨E0,e0⟩:=zm hE; subst e0; clear hE;refine zn hJ ?_;refine wz (fun E S=>∃x s:Nat,Has E [(0,.int .u64 (x:Int)),(2,.int .i64 (s:Int))]∧x=m/2 ^ s∧(0<s→0<x)∧x<256∧s≤32∧zG S []) ?_ fun E S ⟨x,s,hE,hx,hs,hb,hc,hJ⟩=>?_
 ·refine ze (z8 (yp (pI rfl) (yp (Ux rfl rfl) (zf (za ?_)))));refine zR rfl (fun h=>?_) (fun h=>?_)
  ·have h0:s≤16:=by omega
   refine ze (z8 (yp (pI rfl) (yp (Qg (b:=8) rfl rfl (by decide)) (yp (pI rfl) (zf (za (z8 (yp (pI rfl) (yp (vJ rfl rfl (by omega)) (yp (pI rfl) (zf (za ?_))))))))))));exact⟨x/2 ^ 8,s+8,⟨rfl,congrArg (Value.int .i64) (by omega),trivial⟩,by rw[hx,Nat.div_div_eq_div_mul, ←Nat.pow_add],fun _=>by omega,by omega,by omega,.of⟩
  ·refine zl (za ?_);exact⟨x,s,⟨rfl,rfl,trivial⟩,hx,hs,by omega,by omega,.of⟩
 obtain⟨E0,e0⟩:=zm hE; subst e0; clear hE;refine zn hJ ?_;obtain⟨hsz,ht8,ht1,ht2⟩:=iV ⟨x,hb⟩;dsimp only at hsz ht8 ht1 ht2;refine ze (z8 (yp (pI rfl) (yp (pI rfl) ?_)));refine yp (v:= .int .u8 (x:Int)) ?_ ?_
 ·show some (Value.int .u8 (IntKind.u8.wrap (x:Int)))=_;have:IntKind.u8.wrap (x:Int)=(x:Int)%256:=by simp[IntKind.wrap,IntKind.signed,IntKind.bits]
  rw[this];congr 2;omega
 refine yp (LW rfl rfl hsz) ?_;refine yp (v:= .int .i64 ((Uj[x].toNat:Nat):Int)) ?_ ?_
 ·show some (Value.int .i64 (IntKind.i64.wrap ((Uj[x].toNat:Nat):Int)))=_;rw[wrap_i64 (by omega)]
 generalize Uj[x].toNat=t at ht8 ht1 ht2;refine yp (Zj rfl rfl (by omega)) (yp (pI rfl) (zf (za (zJ ?_))));exact zI (rI rfl) ⟨_,.of,s+t,rfl,by omega,av.G9 hx hs ht1 ht2,rfl⟩
theorem yA{f fO f2:Nat}(hf:Z9 P f 8 #[.tmp 2] (yQ fO f2))(h2:Z9 P f2 25 #[.tmp 2] VE){m:Nat}(hm:m<2 ^ 40):Tri P f #[.int .u64 (m:Int)] [] (fun r S=>∃l:Nat,r= .int .i64 (l:Int)∧l≤60∧av m l∧S=[]):=by
 refine Tri.forget (zq hf (Nat.le_of_ble_eq_true rfl) ?_);unfold yQ;refine ze (z8 (yp pC (zf (za (ze (zo rfl (zl (za (ze (z8 (yp (pI rfl) ?_)))))))))));refine zh (zk (pz h2 hm) rfl rfl fun r S' h=>?_);obtain⟨l,rfl,hl,hi,rfl⟩:=h;refine yp (pI rfl) (zf (za (zJ ?_)));exact zI (rI rfl) ⟨_,.of,l,rfl,hl,hi,rfl⟩
theorem rU{E:Env}{S:zL}{t:Tmp}{a:Int}(hv:E t= .int .u64 a):Y4 P #[.tmp t] E S (.int .u64 a):=rI hv
theorem oV{f fl fO f2:Nat}(hf:Z9 P f 7 #[.tmp 2] (KQ fl))(h1:Z9 P fl 8 #[.tmp 2] (yQ fO f2))(h2:Z9 P f2 25 #[.tmp 2] VE){m:Nat}(hm:m<2 ^ 40)(h0:0<m):Tri P f #[.int .i64 (m:Int)] [] (fun r S=>∃q:Nat,r= .int .u64 (q:Int)∧1≤q∧q≤2*m∧S=[]):=by
 refine Tri.forget (zq hf (Nat.le_of_ble_eq_true rfl) ?_);unfold KQ;refine ze (z8 (yp pC (zf (za (ze (z8 (yp (pI rfl) (yp (Y7 rfl (by omega)) ?_))))))));refine zh (zk (yA h1 h2 hm) rfl rfl fun r S' h=>?_);obtain⟨l,rfl,hl,hi,rfl⟩:=h;refine yp (LV rfl hl) (yp (pI rfl) (zf (za (zJ ?_))));refine zI (rU rfl) ⟨_,.of,2 ^ l,rfl,Nat.two_pow_pos l,?_,rfl⟩;obtain⟨h3,h4⟩:=hi.dn h0;obtain⟨l',rfl⟩:∃l',l=l'+1:=⟨l-1,by omega⟩
 rw[Nat.pow_succ];simp at h4;omega
theorem oU{f:Nat}(hf:Z9 P f 33 #[.tmp 2] KP){xb tx:Nat}(v:Int):Tri P f #[.pointer (some ⟨xb,0,none⟩)] [[(xb,.cells #[.int .u64 v] tx)]] (fun r S=>∃z,r= .int .u64 z∧S=[[(xb,.cells #[.int .u64 z] tx)]]):=by
 refine Tri.forget (zq hf (Nat.le_of_ble_eq_true rfl) ?_);unfold KP;refine ze (z8 (yp pC (zf (za (ze (Z6 (zi (pP rfl) (zi (zX rfl) (Zb rfl rfl (zi (pP rfl) (zi (zX rfl) (Zb rfl rfl (zi (eX rfl rfl (by omega)) (zi (pE rfl rfl) (zi (zX rfl) ?_)))))))))))))));refine zO (ZU rfl rfl (vH rfl) ?_) zN;generalize Uw .xor .u64 v _=v;refine zH (za (ze (Z6 (zi (pP rfl) (zi (zX rfl) (Zb rfl rfl (zi (pP rfl) (zi (zX rfl) (Zb rfl rfl (zi (LQ rfl rfl (by omega)) (zi (pE rfl rfl) (zi (zX rfl) ?_))))))))))));refine zO (ZU rfl rfl (vH rfl) ?_) zN;generalize Uw .xor .u64 v _=v;refine zH (za (ze (Z6 (zi (pP rfl) (zi (zX rfl) (Zb rfl rfl (zi (pP rfl) (zi (zX rfl) (Zb rfl rfl (zi (eX rfl rfl (by omega)) (zi (pE rfl rfl) (zi (zX rfl) ?_))))))))))));refine zO (ZU rfl rfl (vH rfl) ?_) zN;generalize Uw .xor .u64 v _=v;refine zH (za (ze (z8 (yp (pP rfl) (yp (zX rfl) ?_)))));refine zh (zy rfl rfl ?_);refine yp (pI rfl) (zf (za (zJ ?_)));exact zI (rU rfl) ⟨_,.of,v,rfl,rfl⟩
end
end Go.Xs
namespace Go.Xs
open Enc (enc)
section
variable {P:Program} {α:Type} [Enc α] [Inhabited α] {ld:Operand→WV} {k:Nat} {vl:α→Value} {cf:Nat} {caps:Array Value} {Hc:List Chunk} {p:α→Prop} {lt:α→α→Prop}
 {blk ty ln cp:Nat} {fz:Nat × Nat}
abbrev aA(sb ti z:Nat):List Chunk:=[(sb,.cells #[.int .i64 (z:Int)] ti)]
theorem Jt{f:Nat}(hf:Z9 P f 32 #[.tmp 10,.tmp 11] (y9 ld k))(hl:Ld ld vl)(hk:Enc.k α=k)(hc:Cm P cf caps Hc vl p lt){M:List α}(hM:y7 fz ln p M){a b:Nat}(ha:a<ln)(hb:b<ln){sb ti z:Nat}(hz:z<1000):
 Tri P f #[.slice (some ⟨blk,0,none⟩) ln cp,.int .i64 (a:Int),.int .i64 (b:Int),.pointer (some ⟨sb,0,none⟩),.func (.func cf) #[] caps] [sg blk ty fz M,Hc,aA sb ti z]
  (fun r S=>∃x y z':Nat,r= .tuple #[.int .i64 (x:Int),.int .i64 (y:Int)]∧(x=a∧y=b∨x=b∧y=a)∧z'≤z+1∧S=[sg blk ty fz M,Hc,aA sb ti z']):=by
 refine Tri.forget (zq hf (Nat.le_of_ble_eq_true rfl) ?_);have hlen:=hM.len;have hbig:=hM.big;unfold y9;refine ze (z8 (yp pC (yp pC (zf (za (ze (ze (Z6 (zi (pF rfl) (zi (pS rfl) (zi (pI rfl) (zi (zT rfl rfl (by omega)) (Zf hl rfl (by omega) hk (zi (pS rfl) (zi (pI rfl) (zi (zT rfl rfl (by omega)) (Zf hl rfl (by omega) hk ?_)))))))))))))))));refine zO (zk (hc.call _ _ (hM.all b (Nat.zero_le _) hb) (hM.all a (Nat.zero_le _) ha)) rfl rfl fun r S' h=>?_) zN;obtain⟨⟨w,rfl,hzz⟩,rfl⟩:=h;refine zi (ZE rfl rfl) (zH (za ?_));refine zR rfl (fun h2=>?_) (fun h2=>?_)
 ·refine ze (z8 (yp (pP rfl) (yp (zX rfl) ?_)));refine zh (zy rfl rfl ?_);refine yp (Z8 rfl rfl (by omega)) (yp (zX rfl) ?_);refine zh (ZU rfl rfl (vH rfl) ?_);refine zf (za (ze (z8 (yp (pI rfl) (yp (pI rfl) (yp (pI rfl) (yp (pI rfl) (zf (za (zJ (zV ?_)))))))))));exact zI (Kz rfl rfl) ⟨_,.of,b,a,z+1,rfl,.inr ⟨rfl,rfl⟩,by omega,rfl⟩
 ·refine zl (za (ze (z8 (yp (pI rfl) (yp (pI rfl) (yp (pI rfl) (yp (pI rfl) (zf (za (zJ ?_))))))))));exact zI (Kz rfl rfl) ⟨_,.of,a,b,z,rfl,.inl ⟨rfl,rfl⟩,by omega,rfl⟩
theorem oW{f fo:Nat}(hf:Z9 P f 41 #[.tmp 12] (qK fo))(ho:Z9 P fo 32 #[.tmp 10,.tmp 11] (y9 ld k))(hl:Ld ld vl)(hk:Enc.k α=k)(hc:Cm P cf caps Hc vl p lt){M:List α}(hM:y7 fz ln p M){a b c:Nat}(ha:a<ln)(hb:b<ln)(hcc:c<ln){sb ti z:Nat}(hz:z<900):
 Tri P f #[.slice (some ⟨blk,0,none⟩) ln cp,.int .i64 (a:Int),.int .i64 (b:Int),.int .i64 (c:Int),.pointer (some ⟨sb,0,none⟩),.func (.func cf) #[] caps] [sg blk ty fz M,Hc,aA sb ti z]
  (fun r S=>∃x z':Nat,r= .int .i64 (x:Int)∧(x=a∨x=b∨x=c)∧z'≤z+3∧S=[sg blk ty fz M,Hc,aA sb ti z']):=by
 refine Tri.forget (zq hf (Nat.le_of_ble_eq_true rfl) ?_);unfold qK;refine ze (z8 (yp pC (zf (za (ze (z8 (yp (pS rfl) (yp (pI rfl) (yp (pI rfl) (yp (pP rfl) (yp (pF rfl) ?_)))))))))));refine zh (zk (Jt (blk:=blk) (ty:=ty) (cp:=cp) (sb:=sb) (ti:=ti) (z:=z) ho hl hk hc hM ha hb (by omega)) rfl rfl fun r S' h=>?_);obtain⟨x1,y1,z1,rfl,h1,hz1,rfl⟩:=h;refine yp (pU rfl) (yp (pExt rfl rfl) (yp (pExt rfl rfl) (yp (pI rfl) (yp (pI rfl) (zf (za (ze (z8 (yp (pS rfl) (yp (pI rfl) (yp (pI rfl) (yp (pP rfl) (yp (pF rfl) ?_)))))))))))));refine zh (zk (Jt (blk:=blk) (ty:=ty) (cp:=cp) (sb:=sb) (ti:=ti) (z:=z1) ho hl hk hc hM (a:=y1) (b:=c) (by omega) hcc (by omega)) rfl rfl fun r S' h=>?_);obtain⟨x2,y2,z2,rfl,h2,hz2,rfl⟩:=h;refine yp (pU rfl) (yp (pExt rfl rfl) (yp (pExt rfl rfl) (yp (pI rfl) (yp (pI rfl) (zf (za (ze (z8 (yp (pS rfl) (yp (pI rfl) (yp (pI rfl) (yp (pP rfl) (yp (pF rfl) ?_)))))))))))));refine zh (zk (Jt (blk:=blk) (ty:=ty) (cp:=cp) (sb:=sb) (ti:=ti) (z:=z2) ho hl hk hc hM (a:=x1) (b:=x2) (by omega) (by omega) (by omega)) rfl rfl fun r S' h=>?_);obtain⟨x3,y3,z3,rfl,h3,hz3,rfl⟩:=h;refine yp (pU rfl) (yp (pExt rfl rfl) (yp (pExt rfl rfl) (yp (pI rfl) (yp (pI rfl) (zf (za (ze (z8 (yp (pI rfl) (yp (pI rfl) (zf (za (zJ ?_)))))))))))));exact zI (rI rfl) ⟨_,.of,y3,z3,rfl,by omega,by omega,rfl⟩
theorem bA{f fm fo:Nat}(hf:Z9 P f 18 #[.tmp 8] (dH fm))(hm:Z9 P fm 41 #[.tmp 12] (qK fo))(ho:Z9 P fo 32 #[.tmp 10,.tmp 11] (y9 ld k))(hl:Ld ld vl)(hk:Enc.k α=k)(hc:Cm P cf caps Hc vl p lt){M:List α}(hM:y7 fz ln p M){a:Nat}(ha:1≤a)(ha2:a+1<ln){sb ti z:Nat}(hz:z<900):
 Tri P f #[.slice (some ⟨blk,0,none⟩) ln cp,.int .i64 (a:Int),.pointer (some ⟨sb,0,none⟩),.func (.func cf) #[] caps] [sg blk ty fz M,Hc,aA sb ti z]
  (fun r S=>∃x z':Nat,r= .int .i64 (x:Int)∧a≤x+1∧x≤a+1∧z'≤z+3∧S=[sg blk ty fz M,Hc,aA sb ti z']):=by
 refine Tri.forget (zq hf (Nat.le_of_ble_eq_true rfl) ?_);have hlen:=hM.len;have hbig:=hM.big;unfold dH;refine ze (z8 (yp pC (zf (za (ze (z8 (yp (pS rfl) (yp (pI rfl) (yp (Zz rfl rfl (by omega)) (yp (pI rfl) (yp (pI rfl) (yp (Z8 rfl rfl (by omega)) (yp (pP rfl) (yp (pF rfl) ?_))))))))))))));refine zh (zk (oW (blk:=blk) (ty:=ty) (cp:=cp) (sb:=sb) (ti:=ti) (z:=z) hm ho hl hk hc hM (a:=a-1) (b:=a) (c:=a+1) (by omega) (by omega) (by omega) hz) rfl rfl fun r S' h=>?_);obtain⟨x,z1,rfl,h1,hz1,rfl⟩:=h;refine yp (pI rfl) (zf (za (zJ ?_)));exact zI (rI rfl) ⟨_,.of,x,z1,rfl,by omega,by omega,by omega,rfl⟩
theorem FU{f fa fm fo ti:Nat}(hf:Z9 P f 63 #[.tmp 8,.tmp 9] (mU fa fm ti))(hma:Z9 P fa 18 #[.tmp 8] (dH fm))(hm:Z9 P fm 41 #[.tmp 12] (qK fo))(ho:Z9 P fo 32 #[.tmp 10,.tmp 11] (y9 ld k))(hl:Ld ld vl)(hk:Enc.k α=k)(hc:Cm P cf caps Hc vl p lt){M:List α}(hM:y7 fz ln p M){a b:Nat}(ha:a+8≤b)(hb:b≤ln):
 Tri P f #[.slice (some ⟨blk,0,none⟩) ln cp,.int .i64 (a:Int),.int .i64 (b:Int),.func (.func cf) #[] caps] [sg blk ty fz M,Hc]
  (fun r S=>∃(j:Nat) (h:Int),r= .tuple #[.int .i64 (j:Int),.int .i64 h]∧a≤j∧j<b∧S=[sg blk ty fz M,Hc]):=by
 obtain⟨l,rfl⟩:∃l,b=a+l:=⟨b-a,by omega⟩
 refine Tri.forget (zq hf (Nat.le_of_ble_eq_true rfl) ?_);have hlen:=hM.len;have hbig:=hM.big;unfold mU;refine ze (z8 (yp pC (yp pC (zf (za (ze (z8 (yp (pI rfl) (yp (pI rfl) (yp (Zy rfl rfl (by omega)) (yp (pI rfl) (zf (za (ze (z8 ?_)))))))))))))));refine zh (Z5 fun p11=>?_);refine zf (za (ze (z8 (yp (pI rfl) (yp (pI rfl) ?_)))));rw[show((a+l:Nat):Int)-(a:Int)=(l:Int) from by omega]
 skip
 refine yp (uE (j:=l) (k:=4) rfl rfl (by omega) (by omega)) (yp (VZ (j:=l/4) (k:=1) rfl rfl (by omega)) (yp (Zj rfl rfl (by omega)) (yp (pI rfl) (zf (za (ze (z8 (yp (pI rfl) (yp (pI rfl) (yp (uE (j:=l) (k:=4) rfl rfl (by omega) (by omega)) (yp (VZ (j:=l/4) (k:=2) rfl rfl (by omega)) (yp (Zj rfl rfl (by omega)) (yp (pI rfl) (zf (za (ze (z8 (yp (pI rfl) (yp (pI rfl) (yp (uE (j:=l) (k:=4) rfl rfl (by omega) (by omega)) (yp (VZ (j:=l/4) (k:=3) rfl rfl (by omega)) (yp (Zj rfl rfl (by omega)) (yp (pI rfl) (zf (za ?_)))))))))))))))))))))))));refine wz (fun E S=>∃j z:Nat,Has E [(11,.pointer (some ⟨p11,0,none⟩)),(13,.int .i64 (j:Int))]∧a≤j∧j<a+l∧zG S [sg blk ty fz M,Hc,aA p11 ti z]) ?_ fun E S ⟨j,z,hE,hj,hj2,hJ⟩=>?_
 ·refine ze (z8 (yp (pI rfl) (yp (Ux rfl rfl) (zf (za ?_)))))
  skip
  rw[decide_eq_true (show(8:Int)≤(l:Int) from by omega)];refine zC rfl ?_;refine wz (fun E S=>∃i j q z:Nat,Has E [(0,.slice (some ⟨blk,0,none⟩) ln cp),(3,.func (.func cf) #[] caps),(11,.pointer (some ⟨p11,0,none⟩)),(12,.int .i64 (i:Int)),(13,.int .i64 (j:Int)),(14,.int .i64 (q:Int))]∧(a≤i∧i<a+l)∧(a≤j∧j<a+l)∧(a≤q∧q<a+l)∧z≤9∧zG S [sg blk ty fz M,Hc,aA p11 ti z]) ?_ fun E S ⟨i,j,q,z,hE,hi,hj,hq,hz,hJ⟩=>?_
  ·refine ze (z8 (yp (pI rfl) (yp (Ux rfl rfl) (zf (za ?_)))));refine zR rfl (fun h=>?_) (fun h=>?_)
   ·refine ze (z8 (yp (pS rfl) (yp (pI rfl) (yp (pF rfl) ?_))));refine zh (zk (bA (blk:=blk) (ty:=ty) (cp:=cp) (sb:=p11) (ti:=ti) (z:=0) hma hm ho hl hk hc hM (a:=a+l/4*1) (by omega) (by omega) (by omega)) rfl rfl fun r S' h=>?_);obtain⟨i,z1,rfl,h1,h2,hz1,rfl⟩:=h;refine yp (pI rfl) (zf (za (ze (z8 (yp (pS rfl) (yp (pI rfl) (yp (pF rfl) ?_)))))));refine zh (zk (bA (blk:=blk) (ty:=ty) (cp:=cp) (sb:=p11) (ti:=ti) (z:=z1) hma hm ho hl hk hc hM (a:=a+l/4*2) (by omega) (by omega) (by omega)) rfl rfl fun r S' h=>?_);obtain⟨j,z2,rfl,h3,h4,hz2,rfl⟩:=h;refine yp (pI rfl) (zf (za (z8 (yp (pS rfl) (yp (pI rfl) (yp (pF rfl) ?_))))));refine zh (zk (bA (blk:=blk) (ty:=ty) (cp:=cp) (sb:=p11) (ti:=ti) (z:=z2) hma hm ho hl hk hc hM (a:=a+l/4*3) (by omega) (by omega) (by omega)) rfl rfl fun r S' h=>?_);obtain⟨q,z3,rfl,h5,h6,hz3,rfl⟩:=h;refine yp (pI rfl) (zf (za ?_));exact⟨i,j,q,z3,⟨rfl,rfl,rfl,rfl,rfl,rfl,trivial⟩,by omega,by omega,by omega,by omega,.of⟩
   ·refine zl (za ?_);exact⟨_,_,_,0,⟨rfl,rfl,rfl,rfl,rfl,rfl,trivial⟩,by omega,by omega,by omega,by omega,.of⟩
  obtain⟨E0,e0⟩:=zm hE; subst e0; clear hE;refine zn hJ (z8 (yp (pS rfl) (yp (pI rfl) (yp (pI rfl) (yp (pI rfl) (yp (pF rfl) ?_))))));refine zh (zk (oW (blk:=blk) (ty:=ty) (cp:=cp) (sb:=p11) (ti:=ti) (z:=z) hm ho hl hk hc hM (a:=i) (b:=j) (c:=q) (by omega) (by omega) (by omega) (by omega)) rfl rfl fun r S' h=>?_);obtain⟨x,z1,rfl,h1,hz1,rfl⟩:=h;refine yp (pI rfl) (zf (za ?_));exact⟨x,z1,⟨rfl,rfl,trivial⟩,by omega,by omega,.of⟩
 obtain⟨E0,e0⟩:=zm hE; subst e0; clear hE;refine zn hJ (ze (z8 ?_));refine zh (zy rfl rfl ?_);refine zf (za (zu (ze (z8 (yp (wB rfl rfl) (yp (pB rfl) (zf (za ?_))))))));refine zR rfl (fun h=>?_) (fun h=>?_)
 ·refine ze (z8 (yp (pI rfl) (yp (pI rfl) (yp pC (zf (za (zJ (bret ?_))))))));exact zI (Kz rfl rfl) ⟨_,.of,j,1,rfl,hj,hj2,rfl⟩
 ·refine ze (z8 (yp (wB rfl rfl) (yp (pB rfl) (zf (za ?_)))));refine zR rfl (fun h=>?_) (fun h=>?_)
  ·refine ze (z8 (yp (pI rfl) (yp (pI rfl) (yp pC (zf (za (zJ (bret ?_))))))));exact zI (Kz rfl rfl) ⟨_,.of,j,2,rfl,hj,hj2,rfl⟩
  ·refine ze (z8 (yp (pI rfl) (yp (pI rfl) (yp pC (zf (za (zJ (bret ?_))))))));exact zI (Kz rfl rfl) ⟨_,.of,j,0,rfl,hj,hj2,rfl⟩
theorem FM{f:Nat}(hf:Z9 P f 34 #[] (mM ld k))(hl:Ld ld vl)(hk:Enc.k α=k){cv:Value}{M:List α}(hM:y7 fz ln p M){a b:Nat}(ha:a<b)(hb:b≤ln):
 Tri P f #[.slice (some ⟨blk,0,none⟩) ln cp,.int .i64 (a:Int),.int .i64 (b:Int),cv] [sg blk ty fz M] (fun r S=>∃M',r= .tuple #[]∧Sw a b M M'∧S=[sg blk ty fz M']):=by
 refine Tri.forget (zq hf (Nat.le_of_ble_eq_true rfl) ?_);have hlen:=hM.len;have hbig:=hM.big;unfold mM;refine ze (z8 (yp (pI rfl) (yp (pI rfl) (zf (za (ze (z8 (yp (pI rfl) (yp (Zz rfl rfl (by omega)) (yp (pI rfl) (zf (za (zu ?_)))))))))))));refine Z7 (σ:=Nat) (fun j E S=>∃i:Nat,Has E [(0,.slice (some ⟨blk,0,none⟩) ln cp),(8,.int .i64 (i:Int)),(9,.int .i64 (j:Int))]∧a≤i∧i≤b∧j<b∧∃N,Sw a b M N∧zG S [sg blk ty fz N]) (fun j=>j) (b-1) ⟨a,⟨rfl,rfl,rfl,trivial⟩,by omega,by omega,by omega,M,.refl,.of⟩ fun j E S ⟨i,hE,hi,hib,hj,N,hsw,hJ⟩=>?_
 have hN:=hM.sw hsw hb;have hNl:=hsw.len;have hz:=hN.hz;obtain⟨E0,e0⟩:=zm hE; subst e0; clear hE;refine zn hJ (ze (ze (z8 (yp (pI rfl) (yp (pI rfl) (yp (ZE rfl rfl) (zf (za ?_))))))));refine zR rfl (fun h=>?_) (fun h=>?_)
 ·refine zl (za (zu (ze (Z6 (zi (pS rfl) (zi (pI rfl) (zi (pS rfl) (zi (pI rfl) (zi (pS rfl) (zi (pI rfl) (zi (zT rfl rfl (by omega)) (Zf hl rfl (by omega) hk (zi (pS rfl) (zi (pI rfl) (zi (zT rfl rfl (by omega)) (Zf hl rfl (by omega) hk (zi (zT rfl rfl (by omega)) ?_)))))))))))))))));refine zO (Zc rfl (by omega) hk (hl.cells _) hz ?_) zN;refine zi (zT rfl rfl (by omega)) ?_;refine zO (Zl rfl (by omega) hk (hl.cells _) hz ?_) zN;refine zH (za (ze (z8 (yp (pI rfl) (yp (Z8 rfl rfl (by omega)) (yp (pI rfl) (zf (za (z8 (yp (pI rfl) (yp (Zz rfl rfl (by omega)) (yp (pI rfl) (zf (zW (za ?_)))))))))))))));exact⟨j-1,⟨i+1,⟨rfl,rfl,rfl,trivial⟩,by omega,by omega,by omega,_,hsw.step (i:=i) (j:=j) (by omega) (by omega) (by omega) (by omega) (by omega),.of⟩,by omega⟩
 ·refine zZ (zA (zA (Z0 ?_)));exact ZO ZQ ⟨_,.of,N,rfl,hsw,rfl⟩
theorem FV{f fn fx fl fO f2 tx:Nat}(hf:Z9 P f 67 #[] (mV ld k fn fx tx))(hn:Z9 P fn 7 #[.tmp 2] (KQ fl))(h1:Z9 P fl 8 #[.tmp 2] (yQ fO f2))(h2:Z9 P f2 25 #[.tmp 2] VE)(hx:Z9 P fx 33 #[.tmp 2] KP)
 (hl:Ld ld vl) (hk:Enc.k α=k) {cv:Value} {M:List α} (hM:y7 fz ln p M) {a b:Nat} (ha:a+8≤b) (hb:b≤ln):
 Tri P f #[.slice (some ⟨blk,0,none⟩) ln cp,.int .i64 (a:Int),.int .i64 (b:Int),cv] [sg blk ty fz M] (fun r S=>∃M',r= .tuple #[]∧Sw a b M M'∧S=[sg blk ty fz M']):=by
 obtain⟨l,rfl⟩:∃l,b=a+l:=⟨b-a,by omega⟩
 refine Tri.forget (zq hf (Nat.le_of_ble_eq_true rfl) ?_);have hlen:=hM.len;have hbig:=hM.big;unfold mV;refine ze (z8 (yp (pI rfl) (yp (pI rfl) (yp (Zy rfl rfl (by omega)) (yp (pI rfl) (zf (za (ze (z8 (yp (pI rfl) (yp (Ux rfl rfl) (zf (za ?_)))))))))))));rw[show((a+l:Nat):Int)-(a:Int)=(l:Int) from by omega]
 skip
 rw[decide_eq_true (show(8:Int)≤(l:Int) from by omega)];refine zC rfl (ze (z8 (yp (pI rfl) (yp (Y7 rfl (by omega)) ?_))));refine zh (Z5 fun p9=>?_);refine zh (ZU rfl rfl (vH rfl) ?_);refine zf (za (ze (z8 (yp (pI rfl) ?_))));refine zh (zk (oV hn h1 h2 (m:=l) (by omega) (by omega)) rfl rfl fun r S' h=>?_);obtain⟨q,rfl,hq1,hq2,rfl⟩:=h;refine yp (pI rfl) (zf (za (ze (z8 (yp (pI rfl) (yp (pI rfl) (yp (uE (j:=l) (k:=4) rfl rfl (by omega) (by omega)) (yp (VZ (j:=l/4) (k:=2) rfl rfl (by omega)) (yp (Zj rfl rfl (by omega)) (yp (Zz rfl rfl (by omega)) (yp (pI rfl) (zf (za (zu ?_))))))))))))));refine Z7 (σ:=Nat) (fun i E S=>Has E [(0,.slice (some ⟨blk,0,none⟩) ln cp),(1,.int .i64 (a:Int)),(8,.int .i64 (l:Int)),(9,.pointer (some ⟨p9,0,none⟩)),(10,.int .u64 (q:Int)),(11,.int .i64 (i:Int))]∧a≤i∧i≤a+l/4*2+2∧∃N v,Sw a (a+l) M N∧zG S [sg blk ty fz N,[(p9,.cells #[.int .u64 v] tx)]]) (fun i=>a+l/4*2+2-i) (a+l/4*2-1) ⟨⟨rfl,rfl,rfl,rfl,rfl,rfl,trivial⟩,by omega,by omega,M,(l:Int),.refl,.of⟩ fun i E S ⟨hE,hi,hib,N,v,hsw,hJ⟩=>?_
 have hN:=hM.sw hsw hb;have hNl:=hsw.len;have hz:=hN.hz;obtain⟨E0,e0⟩:=zm hE; subst e0; clear hE;refine zn hJ (ze (ze (z8 (yp (pI rfl) (yp (pI rfl) (yp (pI rfl) (yp (uE (j:=l) (k:=4) rfl rfl (by omega) (by omega)) (yp (VZ (j:=l/4) (k:=2) rfl rfl (by omega)) (yp (Zj rfl rfl (by omega)) (yp (Z8 rfl rfl (by omega)) (yp (XB rfl rfl) (zf (za ?_)))))))))))));refine zR rfl (fun h=>?_) (fun h=>?_)
 ·refine zl (za (ze (zu (ze (z8 ?_)))));refine zh (zk (oU hx (xb:=p9) (tx:=tx) v) rfl rfl fun r S' h=>?_);obtain⟨v1,rfl,rfl⟩:=h;refine yp (pI rfl) (yp (Dv (a:=q) (b:=1) rfl rfl (by omega) (by omega)) ?_);refine zh (Dg rfl rfl (by omega) fun c hc=>?_);refine yp (bB rfl (by omega)) (yp (pI rfl) (zf (za ?_)));refine wz (fun E S=>∃o:Nat,Has E [(0,.slice (some ⟨blk,0,none⟩) ln cp),(1,.int .i64 (a:Int)),(8,.int .i64 (l:Int)),(9,.pointer (some ⟨p9,0,none⟩)),(10,.int .u64 (q:Int)),(11,.int .i64 (i:Int)),(12,.int .i64 (o:Int))]∧o<l∧zG S [sg blk ty fz N,[(p9,.cells #[.int .u64 v1] tx)]]) ?_ fun E S ⟨o,hE,ho,hJ⟩=>?_
  ·refine ze (z8 (yp (pI rfl) (yp (pI rfl) (yp (Ux rfl rfl) (zf (za ?_))))));refine zR rfl (fun h=>?_) (fun h=>?_)
   ·refine z8 (yp (pI rfl) (yp (pI rfl) (yp (Zy rfl rfl (by omega)) (yp (pI rfl) (zf (za ?_))))));exact⟨c-l,⟨rfl,rfl,rfl,rfl,rfl,rfl,congrArg (Value.int .i64) (by omega),trivial⟩,by omega,.of⟩
   ·refine zl (za ?_);exact⟨c,⟨rfl,rfl,rfl,rfl,rfl,rfl,rfl,trivial⟩,by omega,.of⟩
  obtain⟨E0,e0⟩:=zm hE; subst e0; clear hE;refine zn hJ (Z6 (zi (pS rfl) (zi (pI rfl) (zi (pS rfl) (zi (pI rfl) (zi (pI rfl) (zi (Zj rfl rfl (by omega)) (zi (pS rfl) (zi (pI rfl) (zi (pI rfl) (zi (Zj rfl rfl (by omega)) (zi (zT rfl rfl (by omega)) (Zf hl rfl (by omega) hk (zi (pS rfl) (zi (pI rfl) (zi (zT rfl rfl (by omega)) (Zf hl rfl (by omega) hk (zi (zT rfl rfl (by omega)) ?_))))))))))))))))));refine zO (Zc rfl (by omega) hk (hl.cells _) hz ?_) zN;refine zi (zT rfl rfl (by omega)) ?_;refine zO (Zl rfl (by omega) hk (hl.cells _) hz ?_) zN;refine zH (zW (za (z8 (yp (pI rfl) (yp (Z8 rfl rfl (by omega)) (yp (pI rfl) (zf (za ?_))))))));exact⟨i+1,⟨⟨rfl,rfl,rfl,rfl,rfl,rfl,trivial⟩,by omega,by omega,_,v1,hsw.step (i:=i) (j:=a+o) (by omega) (by omega) (by omega) (by omega) (by omega),.of⟩,by omega⟩
 ·refine zZ (zA (zA (Z0 ?_)));exact ZO ZQ ⟨_,.of,N,rfl,hsw,rfl⟩
end
end Go.Xs
namespace Go.Xs
open Enc (enc)
section
variable {P:Program} {α:Type} [Enc α] [Inhabited α] {ld:Operand→WV} {k:Nat} {vl:α→Value} {cf:Nat} {caps:Array Value} {Hc:List Chunk} {p:α→Prop} {lt:α→α→Prop}
 {blk ty ln cp:Nat} {fz:Nat × Nat}
theorem FQ{f:Nat}(hf:Z9 P f 141 #[.tmp 8] (mR ld k))(hl:Ld ld vl)(hk:Enc.k α=k)(hc:Cm P cf caps Hc vl p lt){M:List α}(hM:y7 fz ln p M){a b:Nat}(hab:a<b)(hb:b≤ln)(hpre:0<a→∀i,a≤i→i<b→¬lt (gt M i) (gt M (a-1))):
 Tri P f #[.slice (some ⟨blk,0,none⟩) ln cp,.int .i64 (a:Int),.int .i64 (b:Int),.func (.func cf) #[] caps] [sg blk ty fz M,Hc] (fun r S=>∃bl M',r= .bool bl∧Sw a b M M'∧(bl=true→So lt a b M')∧S=[sg blk ty fz M',Hc]):=by
 refine Tri.forget (zq hf (Nat.le_of_ble_eq_true rfl) ?_);have hlen:=hM.len;have hbig:=hM.big;unfold mR;refine ze (z8 (yp pC (zf (za (ze (z8 (yp (pI rfl) (yp (Z8 rfl rfl (by omega)) (yp (pI rfl) (zf (za (ze (ze (z8 (yp pC (zf (za (zu ?_))))))))))))))))));refine Z7 (σ:=Nat) (fun c E S=>∃(i:Nat) (N:List α),Has E [(0,.slice (some ⟨blk,0,none⟩) ln cp),(1,.int .i64 (a:Int)),(2,.int .i64 (b:Int)),(3,.func (.func cf) #[] caps),(9,.int .i64 (i:Int)),(10,.int .i64 (c:Int))]∧c≤5∧a+1≤i∧i≤b∧Sw a b M N∧So lt a i N∧zG S [sg blk ty fz N,Hc]) (fun c=>5-c) 0 ⟨a+1,M,⟨rfl,rfl,rfl,rfl,rfl,rfl,trivial⟩,by omega,by omega,by omega,.refl,fun x y h1 h2 h3=>by omega,.self⟩ fun c E S ⟨i,N,hE,hc5,hi,hib,hsw,hso,hJ⟩=>?_
 have hNl:=hsw.len;have hN:=hM.sw hsw hb;have hz:=hN.hz;obtain⟨E0,e0⟩:=zm hE; subst e0; clear hE;refine zn hJ (ze (ze (z8 (yp (pI rfl) (yp (ZE rfl rfl) (zf (za ?_)))))));refine zR rfl (fun h5=>?_) (fun h5=>?_)
 ·refine zl (za (ze (zu ?_)));refine wz (fun E S=>∃(i:Nat),Has E [(0,.slice (some ⟨blk,0,none⟩) ln cp),(1,.int .i64 (a:Int)),(2,.int .i64 (b:Int)),(3,.func (.func cf) #[] caps),(9,.int .i64 (i:Int)),(10,.int .i64 (c:Int))]∧a+1≤i∧i≤b∧So lt a i N∧zG S [sg blk ty fz N,Hc]) ?_ fun E S ⟨i,hE,hi,hib,hso,hJ⟩=>?_
  ·refine zu ?_;refine Z7 (σ:=Nat) (fun i E S=>Has E [(0,.slice (some ⟨blk,0,none⟩) ln cp),(1,.int .i64 (a:Int)),(2,.int .i64 (b:Int)),(3,.func (.func cf) #[] caps),(9,.int .i64 (i:Int)),(10,.int .i64 (c:Int))]∧a+1≤i∧i≤b∧So lt a i N∧zG S [sg blk ty fz N,Hc]) (fun i=>b-i) i ⟨⟨rfl,rfl,rfl,rfl,rfl,rfl,trivial⟩,hi,hib,hso,.of⟩ fun i E S ⟨hE,hi,hib,hso,hJ⟩=>?_
   obtain⟨E0,e0⟩:=zm hE; subst e0; clear hE;refine zn hJ (ze (ze (Z6 (zi (pI rfl) (zi (pI rfl) (zi (ZE rfl rfl) (zi (pB rfl) ?_)))))));by_cases h0:i<b
   ·rw[decide_eq_true (show(i:Int)<(b:Int) from by omega)];refine zU rfl (zi (pF rfl) (zU rfl (zi (pS rfl) (zU rfl (zi (pI rfl) (zU rfl (zi (zT rfl rfl (by omega)) (zU rfl (Zf hl rfl (by omega) hk (zU rfl (zi (pS rfl) (zU rfl (zi (pI rfl) (zU rfl (zi (Zz rfl rfl (by omega)) (zU rfl (zi (zT rfl rfl (by omega)) (zU rfl (Zf hl rfl (by omega) hk ?_)))))))))))))))))));refine Zw rfl ?_ zN;refine zO (zk (hc.call _ _ (hN.all i (Nat.zero_le _) (by omega)) (hN.all (i-1) (Nat.zero_le _) (by omega))) rfl rfl fun r S' h=>?_) zN;obtain⟨⟨z,rfl,hzz⟩,rfl⟩:=h;refine zU rfl (zi (ZE rfl rfl) (zU rfl (zi (Za rfl) (zi (zw rfl rfl) (zH (za ?_))))));refine wV rfl (fun h2=>?_) (fun h2=>?_)
    ·refine zl (za (zu (z8 (yp (pI rfl) (yp (Z8 rfl rfl (by omega)) (yp (pI rfl) (zf (zW (za ?_)))))))));exact⟨i+1,⟨⟨rfl,rfl,rfl,rfl,rfl,rfl,trivial⟩,by omega,by omega,hso.snoc hc.wk (by omega) (fun h=>h2 (hzz.2 h)),.of⟩,by omega⟩
    ·refine zZ (zA (zA (Z0 (za ?_))));exact⟨i,⟨rfl,rfl,rfl,rfl,rfl,rfl,trivial⟩,hi,hib,hso,.of⟩
   ·rw[decide_eq_false (show ¬(i:Int)<(b:Int) from by omega)];refine zY rfl (zY rfl (zY rfl (zY rfl (zY rfl (zY rfl (zY rfl (zY rfl (zY rfl (zY rfl ?_)))))))));refine wQ rfl ?_ zN;refine zY rfl (zY rfl (zi (zD rfl rfl) (zH (za (zo rfl (zZ (zA (zA (Z0 (za ?_))))))))));exact⟨i,⟨rfl,rfl,rfl,rfl,rfl,rfl,trivial⟩,hi,hib,hso,.of⟩
  obtain⟨E0,e0⟩:=zm hE; subst e0; clear hE;refine zn hJ (ze (ze (z8 (yp (pI rfl) (yp (pI rfl) (yp (wB rfl rfl) (zf (za ?_))))))));refine zR rfl (fun h6=>?_) (fun h6=>?_)
  ·refine ze (z8 (yp pC (zf (za (zJ (zV (bret (zV (zV (bret (zV ?_)))))))))));have hib':i=b:=by omega
   subst hib';exact zI (rB rfl) ⟨_,.of,true,N,rfl,hsw,fun _=>hso,rfl⟩
  refine zl (za (ze (ze (z8 (yp (pI rfl) (yp (pI rfl) (yp (Zy rfl rfl (by omega)) (yp (ZE rfl rfl) (zf (za ?_))))))))));refine zR rfl (fun h7=>?_) (fun h7=>?_)
  ·refine ze (z8 (yp pC (zf (za (zJ (zV (bret (zV (zV (bret (zV ?_)))))))))));exact zI (rB rfl) ⟨_,.of,false,N,rfl,hsw,Bool.noConfusion,rfl⟩
  refine zl (za (ze (Z6 (zi (pS rfl) (zi (pI rfl) (zi (pS rfl) (zi (pI rfl) (zi (Zz rfl rfl (by omega)) (zi (pS rfl) (zi (pI rfl) (zi (Zz rfl rfl (by omega)) (zi (zT rfl rfl (by omega)) (Zf hl rfl (by omega) hk (zi (pS rfl) (zi (pI rfl) (zi (zT rfl rfl (by omega)) (Zf hl rfl (by omega) hk (zi (zT rfl rfl (by omega)) ?_))))))))))))))))));refine zO (Zc rfl (by omega) hk (hl.cells _) hz ?_) zN;refine zi (zT rfl rfl (by omega)) ?_;refine zO (Zl rfl (by omega) hk (hl.cells _) hz ?_) zN;refine zH (za ?_);have hso1:=hso.swapped (by omega) (by omega);have hsw:=hsw.step (i:=i) (j:=i-1) (by omega) (by omega) (by omega) (by omega) (by omega);obtain⟨N1,hN1⟩:∃N1,N1=swp N i (i-1):=⟨_,rfl⟩
  have eN:(N.set i (gt N (i-1))).set (i-1) (gt N i)=N1:=hN1.symm;rw[←hN1] at hsw hso1;rw[eN];clear eN hN1 hz hN hNl hso;refine wz (fun E S=>∃N,Has E [(0,.slice (some ⟨blk,0,none⟩) ln cp),(1,.int .i64 (a:Int)),(2,.int .i64 (b:Int)),(3,.func (.func cf) #[] caps),(9,.int .i64 (i:Int)),(10,.int .i64 (c:Int))]∧Sw a b M N∧So lt a i N∧zG S [sg blk ty fz N,Hc]) ?_ fun E S ⟨N,hE,hsw,hso,hJ⟩=>?_
  ·refine ze (z8 (yp (pI rfl) (yp (pI rfl) (yp (Zy rfl rfl (by omega)) (yp (Ux rfl rfl) (zf (za ?_)))))));refine zR rfl (fun h8=>?_) (fun h8=>?_)
   ·refine ze (z8 (yp (pI rfl) (yp (Zz rfl rfl (by omega)) (yp (pI rfl) (zf (za (zu ?_)))))));refine Z7 (σ:=Nat) (fun j E S=>∃N,Has E [(0,.slice (some ⟨blk,0,none⟩) ln cp),(1,.int .i64 (a:Int)),(2,.int .i64 (b:Int)),(3,.func (.func cf) #[] caps),(9,.int .i64 (i:Int)),(10,.int .i64 (c:Int)),(11,.int .i64 (j:Int))]∧a≤j∧j<i∧Sw a b M N∧dz lt a i j N∧zG S [sg blk ty fz N,Hc]) (fun j=>j) (i-1) ⟨N1,⟨rfl,rfl,rfl,rfl,rfl,rfl,rfl,trivial⟩,by omega,by omega,hsw,hso1,.of⟩ fun j E S ⟨N,hE,hj,hji,hsw,hso1,hJ⟩=>?_
    have hNl:=hsw.len;have hN:=hM.sw hsw hb;have hz:=hN.hz;obtain⟨E0,e0⟩:=zm hE; subst e0; clear hE;refine zn hJ (ze (ze (z8 (yp (pI rfl) (yp (Ux rfl rfl) (zf (za ?_)))))));refine zR rfl (fun h9=>?_) (fun h9=>?_)
    ·refine zl (za (ze (zu (ze (ze (Z6 (zi (pF rfl) (zi (pS rfl) (zi (pI rfl) (zi (zT rfl rfl (by omega)) (Zf hl rfl (by omega) hk (zi (pS rfl) (zi (pI rfl) (zi (Zz rfl rfl (by omega)) (zi (zT rfl rfl (by omega)) (Zf hl rfl (by omega) hk ?_))))))))))))))));refine zO (zk (hc.call _ _ (hN.all j (Nat.zero_le _) (by omega)) (hN.all (j-1) (Nat.zero_le _) (by omega))) rfl rfl fun r S' h=>?_) zN;obtain⟨⟨z,rfl,hzz⟩,rfl⟩:=h;refine zi (ZE rfl rfl) (zi (Za rfl) (zH (za ?_)));refine wV rfl (fun h2=>?_) (fun h2=>?_)
     ·refine zZ (zA (Vg rfl (zA (zA (Z0 (za ?_))))));exact⟨N,⟨rfl,rfl,rfl,rfl,rfl,rfl,trivial⟩,hsw,hso1.stop hc.wk hj (.inr fun h=>h2 (hzz.2 h)),.of⟩
     ·have hja:a<j:=by
       refine Nat.lt_of_le_of_ne hj fun e=>?_
       subst e;have h3:=hsw.all (p:=fun x=>¬lt x (gt M (a-1))) (hpre (by omega)) a (Nat.le_refl _) hab;rw[←hsw.out (k:=a-1) (by omega)] at h3;exact h3 (hzz.1 h2)
      refine zl (za (Z6 (zi (pS rfl) (zi (pI rfl) (zi (pS rfl) (zi (pI rfl) (zi (Zz rfl rfl (by omega)) (zi (pS rfl) (zi (pI rfl) (zi (Zz rfl rfl (by omega)) (zi (zT rfl rfl (by omega)) (Zf hl rfl (by omega) hk (zi (pS rfl) (zi (pI rfl) (zi (zT rfl rfl (by omega)) (Zf hl rfl (by omega) hk (zi (zT rfl rfl (by omega)) ?_)))))))))))))))));refine zO (Zc rfl (by omega) hk (hl.cells _) hz ?_) zN;refine zi (zT rfl rfl (by omega)) ?_;refine zO (Zl rfl (by omega) hk (hl.cells _) hz ?_) zN;refine zH (zW (za (z8 (yp (pI rfl) (yp (Zz rfl rfl (by omega)) (yp (pI rfl) (zf (za ?_))))))));exact⟨j-1,⟨_,⟨rfl,rfl,rfl,rfl,rfl,rfl,rfl,trivial⟩,by omega,by omega,hsw.step (i:=j) (j:=j-1) (by omega) (by omega) (by omega) (by omega) (by omega),hso1.step hc.wk hja hji (by omega) (hzz.1 h2),.of⟩,by omega⟩
    ·refine zZ (zA (zA (Z0 (za ?_))));exact⟨N,⟨rfl,rfl,rfl,rfl,rfl,rfl,trivial⟩,hsw,hso1.stop hc.wk hj (.inl (by omega)),.of⟩
   ·refine zl (za ?_);exact⟨N1,⟨rfl,rfl,rfl,rfl,rfl,rfl,trivial⟩,hsw,fun x y h1 h2 h3=>by omega,.of⟩
  have hNl:=hsw.len;have hN:=hM.sw hsw hb;obtain⟨E0,e0⟩:=zm hE; subst e0; clear hE;refine zn hJ (ze (z8 (yp (pI rfl) (yp (pI rfl) (yp (Zy rfl rfl (by omega)) (yp (Ux rfl rfl) (zf (za ?_))))))));refine zR rfl (fun h8=>?_) (fun h8=>?_)
  ·refine ze (z8 (yp (pI rfl) (yp (Z8 rfl rfl (by omega)) (yp (pI rfl) (zf (za (zu ?_)))))));refine Z7 (σ:=Nat) (fun j E S=>∃N,Has E [(0,.slice (some ⟨blk,0,none⟩) ln cp),(1,.int .i64 (a:Int)),(2,.int .i64 (b:Int)),(3,.func (.func cf) #[] caps),(9,.int .i64 (i:Int)),(10,.int .i64 (c:Int)),(12,.int .i64 (j:Int))]∧i+1≤j∧j≤b∧Sw a b M N∧So lt a i N∧zG S [sg blk ty fz N,Hc]) (fun j=>b-j) (i+1) ⟨N,⟨rfl,rfl,rfl,rfl,rfl,rfl,rfl,trivial⟩,by omega,by omega,hsw,hso,.of⟩ fun j E S ⟨N,hE,hj,hji,hsw,hso,hJ⟩=>?_
   have hNl:=hsw.len;have hN:=hM.sw hsw hb;have hz:=hN.hz;obtain⟨E0,e0⟩:=zm hE; subst e0; clear hE;refine zn hJ (ze (ze (z8 (yp (pI rfl) (yp (pI rfl) (yp (ZE rfl rfl) (zf (za ?_))))))));refine zR rfl (fun h9=>?_) (fun h9=>?_)
   ·refine zl (za (ze (zu (ze (ze (Z6 (zi (pF rfl) (zi (pS rfl) (zi (pI rfl) (zi (zT rfl rfl (by omega)) (Zf hl rfl (by omega) hk (zi (pS rfl) (zi (pI rfl) (zi (Zz rfl rfl (by omega)) (zi (zT rfl rfl (by omega)) (Zf hl rfl (by omega) hk ?_))))))))))))))));refine zO (zk (hc.call _ _ (hN.all j (Nat.zero_le _) (by omega)) (hN.all (j-1) (Nat.zero_le _) (by omega))) rfl rfl fun r S' h=>?_) zN;obtain⟨⟨z,rfl,hzz⟩,rfl⟩:=h;refine zi (ZE rfl rfl) (zi (Za rfl) (zH (za ?_)));refine wV rfl (fun h2=>?_) (fun h2=>?_)
    ·refine zZ (zA (Vg rfl (zA (zA (Z0 (zW (za (z8 (yp (pI rfl) (yp (Z8 rfl rfl (by omega)) (yp (pI rfl) (zf (za ?_)))))))))))));exact⟨c+1,⟨i,N,⟨rfl,rfl,rfl,rfl,rfl,rfl,trivial⟩,by omega,by omega,by omega,hsw,hso,.of⟩,by omega⟩
    ·refine zl (za (Z6 (zi (pS rfl) (zi (pI rfl) (zi (pS rfl) (zi (pI rfl) (zi (Zz rfl rfl (by omega)) (zi (pS rfl) (zi (pI rfl) (zi (Zz rfl rfl (by omega)) (zi (zT rfl rfl (by omega)) (Zf hl rfl (by omega) hk (zi (pS rfl) (zi (pI rfl) (zi (zT rfl rfl (by omega)) (Zf hl rfl (by omega) hk (zi (zT rfl rfl (by omega)) ?_)))))))))))))))));refine zO (Zc rfl (by omega) hk (hl.cells _) hz ?_) zN;refine zi (zT rfl rfl (by omega)) ?_;refine zO (Zl rfl (by omega) hk (hl.cells _) hz ?_) zN;refine zH (zW (za (z8 (yp (pI rfl) (yp (Z8 rfl rfl (by omega)) (yp (pI rfl) (zf (za ?_))))))));exact⟨j+1,⟨_,⟨rfl,rfl,rfl,rfl,rfl,rfl,rfl,trivial⟩,by omega,by omega,hsw.step (i:=j) (j:=j-1) (by omega) (by omega) (by omega) (by omega) (by omega),hso.congr fun k h1 h2=>by rw[wC (by omega) (by omega),if_neg (by omega),if_neg (by omega)],.of⟩,by omega⟩
   ·refine zZ (zA (zA (Z0 (zW (za (z8 (yp (pI rfl) (yp (Z8 rfl rfl (by omega)) (yp (pI rfl) (zf (za ?_)))))))))));exact⟨c+1,⟨i,N,⟨rfl,rfl,rfl,rfl,rfl,rfl,trivial⟩,by omega,by omega,by omega,hsw,hso,.of⟩,by omega⟩
  ·refine zl (zW (za (z8 (yp (pI rfl) (yp (Z8 rfl rfl (by omega)) (yp (pI rfl) (zf (za ?_))))))));exact⟨c+1,⟨i,N,⟨rfl,rfl,rfl,rfl,rfl,rfl,trivial⟩,by omega,by omega,by omega,hsw,hso,.of⟩,by omega⟩
 ·refine zZ (zA (zA (Z0 (za (ze (z8 (yp pC (zf (za (zJ ?_))))))))));exact zI (rB rfl) ⟨_,.of,false,N,rfl,hsw,Bool.noConfusion,rfl⟩
/-- the functions that it calls -/
structure Pg(P:Program)(ld:Operand→WV)(k f fi fh fb fc fr fp fe ft:Nat):Prop where
 main:Z9 P f 148 #[] (mQ ld k fi fh fb fc fr fp fe ft f)
 ins:Z9 P fi 53 #[] (dI ld k)
 heap:∃fs,Z9 P fh 60 #[] (aJ ld k fs)∧Z9 P fs 82 #[] (jV ld k)
 brk:∃fn fx fl fO f2 tx,Z9 P fb 67 #[] (mV ld k fn fx tx)∧Z9 P fn 7 #[.tmp 2] (KQ fl)∧Z9 P fl 8 #[.tmp 2] (yQ fO f2)∧Z9 P f2 25 #[.tmp 2] VE∧Z9 P fx 33 #[.tmp 2] KP
 chp:∃fa fm fo ti,Z9 P fc 63 #[.tmp 8,.tmp 9] (mU fa fm ti)∧Z9 P fa 18 #[.tmp 8] (dH fm)∧Z9 P fm 41 #[.tmp 12] (qK fo)∧Z9 P fo 32 #[.tmp 10,.tmp 11] (y9 ld k)
 rev:Z9 P fr 34 #[] (mM ld k)
 par:Z9 P fp 141 #[.tmp 8] (mR ld k)
 peq:Z9 P fe 90 #[.tmp 10] (mP ld k)
 prt:Z9 P ft 178 #[.tmp 10,.tmp 11] (mO ld k)
set_option maxHeartbeats 1000000 in
theorem BN{f fi fh fb fc fr fp fe ft:Nat}(F:Pg P ld k f fi fh fb fc fr fp fe ft)(hl:Ld ld vl)(hk:Enc.k α=k)(hc:Cm P cf caps Hc vl p lt):∀(m:Nat) {M:List α} (_:y7 fz ln p M) {a b:Nat} (_:a≤b) (_:b≤ln) (_:0<a→∀i,a≤i→i<b→¬lt (gt M i) (gt M (a-1))) (_:b-a<m) {q:Nat} (_:q≤64),
 Tri P f #[.slice (some ⟨blk,0,none⟩) ln cp,.int .i64 (a:Int),.int .i64 (b:Int),.int .i64 (q:Int),.func (.func cf) #[] caps] [sg blk ty fz M,Hc] (fun r S=>r= .tuple #[]∧∃M',Sw a b M M'∧So lt a b M'∧S=[sg blk ty fz M',Hc]):=by
 intro m
 induction m with
 | zero=>intro M hM a b hab hb hpre hm; omega
 | succ m ih=>
 intro M hM a0 b0 hab hb hpre hm q0 hq0;obtain⟨fs,F1,F2⟩:=F.heap;obtain⟨fn,fx,fl,fO,f2,tx,F3,F4,F5,F6,F7⟩:=F.brk;obtain⟨fa,fm,fo,ti,F8,F9,F10,F11⟩:=F.chp;refine Tri.forget (zq F.main (Nat.le_of_ble_eq_true rfl) ?_);have hlen:=hM.len;have hbig:=hM.big;unfold mQ;refine ze (z8 (yp pC (zf (za (ze (z8 (yp pC (zf (za (zu ?_))))))))));refine Z7 (σ:=Nat) (fun w E S=>∃(a b q:Nat) (N:List α) (b1 b2:Bool),Has E [(0,.slice (some ⟨blk,0,none⟩) ln cp),(1,.int .i64 (a:Int)),(2,.int .i64 (b:Int)),(3,.int .i64 (q:Int)),(4,.func (.func cf) #[] caps),(10,.bool b1),(11,.bool b2)]∧b-a=w∧q≤64∧jP lt a0 b0 M a b N∧zG S [sg blk ty fz N,Hc]) (fun w=>w) (b0-a0)
  ⟨a0,b0,q0,M,true,true,⟨rfl,rfl,rfl,rfl,rfl,rfl,rfl,trivial⟩,rfl,hq0,⟨.refl,fun i j h1 h2 h3 h4=>by omega,by omega,hab,by omega,hpre⟩,.self⟩ fun w E S ⟨a,b,q,N,b1,b2,hE,hw,hq,hpi,hJ⟩=>?_
 subst hw;have haa:=hpi.aa;have hab':=hpi.ab;have hbb:=hpi.bb;have hNl:=hpi.sw.len;have hN:=hM.sw hpi.sw hb;obtain⟨E0,e0⟩:=zm hE; subst e0; clear hE;refine zn hJ (zu (ze (z8 (yp (pI rfl) (yp (pI rfl) (yp (Zy rfl rfl (by omega)) (yp (pI rfl) (zf (za (ze (ze (z8 (yp (pI rfl) (yp (XB rfl rfl) (zf (za ?_))))))))))))))));rw[show(b:Int)-(a:Int)=((b-a:Nat):Int) from by omega]
 skip
 refine zR rfl (fun h1=>?_) (fun h1=>?_)
 ·refine ze (z8 (yp (pS rfl) (yp (pI rfl) (yp (pI rfl) (yp (pF rfl) ?_)))));refine zh (zk (FT (blk:=blk) (ty:=ty) (cp:=cp) F.ins hl hk hc hN (a:=a) (b:=b) hab' (by omega)) rfl rfl fun r S' h=>?_);obtain⟨rfl,N2,hs2,ho2,rfl⟩:=h;refine zf (za (zJ (zV (bret (zV (bret ?_))))));have h3:=hpi.keep hs2 (by omega);exact zI ZQ ⟨_,.of,rfl,N2,h3.sw,h3.ou.done ho2,rfl⟩
 refine zl (za (ze (ze (z8 (yp (pI rfl) (yp (wB rfl rfl) (zf (za ?_))))))));refine zR rfl (fun h2=>?_) (fun h2=>?_)
 ·refine ze (z8 (yp (pS rfl) (yp (pI rfl) (yp (pI rfl) (yp (pF rfl) ?_)))));refine zh (zk (BO (blk:=blk) (ty:=ty) (cp:=cp) F1 F2 hl hk hc hN (a:=a) (b:=b) (by omega) (by omega)) rfl rfl fun r S' h=>?_);obtain⟨rfl,N2,hs2,ho2,rfl⟩:=h;refine zf (za (zJ (zV (bret (zV (bret ?_))))));have h3:=hpi.keep hs2 (by omega);exact zI ZQ ⟨_,.of,rfl,N2,h3.sw,h3.ou.done ho2,rfl⟩
 refine zl (za ?_);refine wz (fun E S=>∃(q:Nat) (N:List α),Has E [(0,.slice (some ⟨blk,0,none⟩) ln cp),(1,.int .i64 (a:Int)),(2,.int .i64 (b:Int)),(3,.int .i64 (q:Int)),(4,.func (.func cf) #[] caps),(10,.bool b1),(11,.bool b2),(12,.int .i64 ((b-a:Nat):Int))]∧q≤64∧jP lt a0 b0 M a b N∧zG S [sg blk ty fz N,Hc]) ?_ fun E S ⟨q,N,hE,hq,hpi,hJ⟩=>?_
 ·refine ze (z8 (yp (pB rfl) (yp (Za rfl) (zf (za ?_)))));cases b1 with
  | true=>
   refine zo rfl (zl (za ?_));exact⟨q,N,⟨rfl,rfl,rfl,rfl,rfl,rfl,rfl,rfl,trivial⟩,hq,hpi,.of⟩
  | false=>
   refine zC rfl (ze (z8 (yp (pS rfl) (yp (pI rfl) (yp (pI rfl) (yp (pF rfl) ?_))))));refine zh (zk (FV (blk:=blk) (ty:=ty) (cp:=cp) F3 F4 F5 F6 F7 hl hk hN (a:=a) (b:=b) (by omega) (by omega)) rfl rfl fun r S' h=>?_);obtain⟨N2,rfl,hs2,rfl⟩:=h;refine zf (za (z8 (yp (pI rfl) (yp (Zz rfl rfl (by omega)) (yp (pI rfl) (zf (za ?_)))))));exact⟨q-1,N2,⟨rfl,rfl,rfl,congrArg (Value.int .i64) (by omega),rfl,rfl,rfl,rfl,trivial⟩,by omega,hpi.keep hs2 (by omega),.of⟩
 have hNl:=hpi.sw.len;have hN:=hM.sw hpi.sw hb;obtain⟨E0,e0⟩:=zm hE; subst e0; clear hE;refine zn hJ (ze (z8 (yp (pS rfl) (yp (pI rfl) (yp (pI rfl) (yp (pF rfl) ?_))))));refine zh (zk (FU (blk:=blk) (ty:=ty) (cp:=cp) F8 F9 F10 F11 hl hk hc hN (a:=a) (b:=b) (by omega) (by omega)) rfl rfl fun r S' h=>?_);obtain⟨pv,hint,rfl,hp1,hp2,rfl⟩:=h;refine yp (pU rfl) (yp (pExt rfl rfl) (yp (pExt rfl rfl) (yp (pI rfl) (yp (pI rfl) (zf (za ?_))))));refine wz (fun E S=>∃(pv:Nat) (hint:Int) (N:List α),Has E [(0,.slice (some ⟨blk,0,none⟩) ln cp),(1,.int .i64 (a:Int)),(2,.int .i64 (b:Int)),(3,.int .i64 (q:Int)),(4,.func (.func cf) #[] caps),(10,.bool b1),(11,.bool b2),(12,.int .i64 ((b-a:Nat):Int)),(13,.int .i64 (pv:Int)),(14,.int .i64 hint)]∧a≤pv∧pv<b∧jP lt a0 b0 M a b N∧zG S [sg blk ty fz N,Hc]) ?_ fun E S ⟨pv,hint,N,hE,hp1,hp2,hpi,hJ⟩=>?_
 ·refine ze (z8 (yp (pI rfl) (yp (wB rfl rfl) (zf (za ?_)))));refine zR rfl (fun h3=>?_) (fun h3=>?_)
  ·refine ze (z8 (yp (pS rfl) (yp (pI rfl) (yp (pI rfl) (yp (pF rfl) ?_)))));refine zh (zk (FM (blk:=blk) (ty:=ty) (cp:=cp) F.rev hl hk hN (a:=a) (b:=b) (by omega) (by omega)) rfl rfl fun r S' h=>?_);obtain⟨N2,rfl,hs2,rfl⟩:=h;refine zf (za (ze (z8 (yp (pI rfl) (yp (Zz rfl rfl (by omega)) (yp (pI rfl) (yp (pI rfl) (yp (Zy rfl rfl (by omega)) (yp (Zy rfl rfl (by omega)) (yp (pI rfl) (zf (za (z8 (yp pC (zf (za ?_))))))))))))))));refine⟨b-1-(pv-a),1,N2,⟨rfl,rfl,rfl,rfl,rfl,rfl,rfl,rfl,?_,rfl,trivial⟩,by omega,by omega,hpi.keep hs2 (by omega),.of⟩;exact congrArg (Value.int .i64) (by omega)
  ·refine zl (za ?_);exact⟨pv,hint,N,⟨rfl,rfl,rfl,rfl,rfl,rfl,rfl,rfl,rfl,rfl,trivial⟩,hp1,hp2,hpi,.of⟩
 have hNl:=hpi.sw.len;have hN:=hM.sw hpi.sw hb;obtain⟨E0,e0⟩:=zm hE; subst e0; clear hE;refine zn hJ ?_;refine uy (fun E S=>∃(N:List α),Has E [(0,.slice (some ⟨blk,0,none⟩) ln cp),(1,.int .i64 (a:Int)),(2,.int .i64 (b:Int)),(3,.int .i64 (q:Int)),(4,.func (.func cf) #[] caps),(10,.bool b1),(11,.bool b2),(12,.int .i64 ((b-a:Nat):Int)),(13,.int .i64 (pv:Int))]∧jP lt a0 b0 M a b N∧zG S [sg blk ty fz N,Hc]) ?_ fun E S ⟨N,hE,hpi,hJ⟩=>?_
 ·cases b1 with
  | false=>
   refine ze (z8 (yp (pB rfl) (yp (pB rfl) (zP rfl (yp (zD rfl rfl) (yp (pB rfl) (zP rfl (zP rfl (yp (zD rfl rfl) (zf (za (zo rfl (zl (za ?_))))))))))))));exact⟨N,⟨rfl,rfl,rfl,rfl,rfl,rfl,rfl,rfl,rfl,trivial⟩,hpi,.of⟩
  | true=>
  cases b2 with
  | false=>
   refine ze (z8 (yp (pB rfl) (yp (pB rfl) (zK rfl (zQ (pB rfl) (yp (zw rfl rfl) (yp (pB rfl) (zP rfl (zP rfl (yp (zD rfl rfl) (zf (za (zo rfl (zl (za ?_)))))))))))))));exact⟨N,⟨rfl,rfl,rfl,rfl,rfl,rfl,rfl,rfl,rfl,trivial⟩,hpi,.of⟩
  | true=>
  refine ze (z8 (yp (pB rfl) (yp (pB rfl) (zK rfl (zQ (pB rfl) (yp (zw rfl rfl) (yp (pB rfl) (zK rfl (zQ (pI rfl) (zK rfl (zQ (wB rfl rfl) (yp (zw rfl rfl) (zf (za ?_))))))))))))));refine zR rfl (fun h3=>?_) (fun h3=>?_)
  ·refine ze (z8 (yp (pS rfl) (yp (pI rfl) (yp (pI rfl) (yp (pF rfl) ?_)))));refine zh (zk (FQ (blk:=blk) (ty:=ty) (cp:=cp) F.par hl hk hc hN (a:=a) (b:=b) (by omega) (by omega) hpi.pre) rfl rfl fun r S' h=>?_);obtain⟨bl,N2,rfl,hs2,ho2,rfl⟩:=h;have h4:=hpi.keep hs2 (by omega);cases bl with
   | true=>
    refine zf (za (zC rfl (zJ (zV (bret (zV (bret ?_)))))));exact zI ZQ ⟨_,.of,rfl,N2,h4.sw,h4.ou.done (ho2 rfl),rfl⟩
   | false=>
    refine zf (za (zo rfl (zl (za ?_))));exact⟨N2,⟨rfl,rfl,rfl,rfl,rfl,rfl,rfl,rfl,rfl,trivial⟩,h4,.of⟩
  ·refine zl (za ?_);exact⟨N,⟨rfl,rfl,rfl,rfl,rfl,rfl,rfl,rfl,rfl,trivial⟩,hpi,.of⟩
 have hNl:=hpi.sw.len;have hN:=hM.sw hpi.sw hb;obtain⟨E0,e0⟩:=zm hE; subst e0; clear hE;refine zn hJ ?_;refine uy (fun E S=>Has E [(0,.slice (some ⟨blk,0,none⟩) ln cp),(1,.int .i64 (a:Int)),(2,.int .i64 (b:Int)),(3,.int .i64 (q:Int)),(4,.func (.func cf) #[] caps),(10,.bool b1),(11,.bool b2),(12,.int .i64 ((b-a:Nat):Int)),(13,.int .i64 (pv:Int))]∧zG S [sg blk ty fz N,Hc]) ?_ fun E S ⟨hE,hJ⟩=>?_
 ·refine ze (Z6 (zi (pI rfl) (zi (WS rfl rfl) (zi (pB rfl) ?_))));by_cases h3:0<a
  ·rw[decide_eq_true (show(0:Int)<(a:Int) from by omega)];refine zU rfl (zi (pF rfl) (zU rfl (zi (pS rfl) (zU rfl (zi (pI rfl) (zU rfl (zi (Zz rfl rfl (by omega)) (zU rfl (zi (zT rfl rfl (by omega)) (zU rfl (Zf hl rfl (by omega) hk (zU rfl (zi (pS rfl) (zU rfl (zi (pI rfl) (zU rfl (zi (zT rfl rfl (by omega)) (zU rfl (Zf hl rfl (by omega) hk ?_)))))))))))))))))));refine Zw rfl ?_ zN;refine zO (zk (hc.call _ _ (hN.all (a-1) (Nat.zero_le _) (by omega)) (hN.all pv (Nat.zero_le _) (by omega))) rfl rfl fun r S' h=>?_) zN;obtain⟨⟨z,rfl,hzz⟩,rfl⟩:=h;refine zU rfl (zi (ZE rfl rfl) (zU rfl (zi (Za rfl) (zi (zw rfl rfl) (zH (za ?_))))));refine wV rfl (fun h4=>?_) (fun h4=>?_)
   ·refine ze (z8 (yp (pS rfl) (yp (pI rfl) (yp (pI rfl) (yp (pI rfl) (yp (pF rfl) ?_))))));refine zh (zk (FP (blk:=blk) (ty:=ty) (cp:=cp) F.peq hl hk hc hN hp1 hp2 (by omega) (fun q h5 h6=>hc.wk.tr _ _ _ (hpi.pre h3 q h5 h6) fun h=>h4 (hzz.2 h))) rfl rfl fun r S' h=>?_);obtain⟨mid,N2,rfl,hs2,he2,rfl⟩:=h;refine yp (pI rfl) (zf (za (ze (z8 (yp (pI rfl) (yp (pI rfl) (zf (za (zZ (zA (Z0 (za ?_))))))))))));have h5:=he2.am;have h6:=he2.mb;exact⟨b-mid,⟨mid,b,q,N2,b1,b2,⟨rfl,rfl,rfl,rfl,rfl,rfl,rfl,trivial⟩,rfl,hq,(hpi.keep hs2 (by omega)).eqd he2,.of⟩,by omega⟩
   ·refine zl (za ?_);exact⟨⟨rfl,rfl,rfl,rfl,rfl,rfl,rfl,rfl,rfl,trivial⟩,.of⟩
  ·rw[decide_eq_false (show ¬(0:Int)<(a:Int) from by omega)];refine zY rfl (zY rfl (zY rfl (zY rfl (zY rfl (zY rfl (zY rfl (zY rfl (zY rfl (zY rfl ?_)))))))));refine wQ rfl ?_ zN;refine zY rfl (zY rfl (zi (zD rfl rfl) (zH (za (zo rfl (zl (za ?_)))))));exact⟨⟨rfl,rfl,rfl,rfl,rfl,rfl,rfl,rfl,rfl,trivial⟩,.of⟩
 obtain⟨E0,e0⟩:=zm hE; subst e0; clear hE;refine zn hJ (ze (z8 (yp (pS rfl) (yp (pI rfl) (yp (pI rfl) (yp (pI rfl) (yp (pF rfl) ?_)))))));refine zh (zk (FN (blk:=blk) (ty:=ty) (cp:=cp) F.prt hl hk hc hN hp1 hp2 (by omega)) rfl rfl fun r S' h=>?_);obtain⟨mid,bl,N2,rfl,hs2,hpt,rfl⟩:=h;have hpi2:=hpi.keep hs2 (by omega);have hN2l:=hpi2.sw.len;have hN2:=hM.sw hpi2.sw hb;have h5:=hpt.am;have h6:=hpt.mb;refine yp (pU rfl) (yp (pExt rfl rfl) (yp (pExt rfl rfl) (yp (pI rfl) (yp (pB rfl) (zf (za (ze (z8 (yp (pB rfl) (yp (pB rfl) (zf (za (ze (z8 (yp (pI rfl) (yp (pI rfl) (yp (Zy rfl rfl (by omega)) (yp (pI rfl) (yp (pI rfl) (yp (Zy rfl rfl (by omega)) (yp (pI rfl) (yp (pI rfl) (zf (za (ze (z8 (yp (pI rfl) (yp (uE (j:=b-a) (k:=8) rfl rfl (by omega) (by omega)) (yp (pI rfl) (zf (za (ze (z8 (yp (pI rfl) (yp (pI rfl) (yp (ZE rfl rfl) (zf (za ?_))))))))))))))))))))))))))))))))))))));refine zR rfl (fun h7=>?_) (fun h7=>?_)
 ·refine ze (z8 (yp (pI rfl) (yp (pI rfl) (yp (Ux rfl rfl) (yp (pB rfl) (zf (za (ze (z8 (yp (pS rfl) (yp (pI rfl) (yp (pI rfl) (yp (pI rfl) (yp (pF rfl) ?_))))))))))))));refine zh (zk (ih hN2 (a:=a) (b:=mid) h5 (by omega) (fun h0 i h8 h9=>hpi2.pre h0 i h8 (by omega)) (by omega) hq) rfl rfl fun r S' h=>?_);obtain⟨rfl,N3,hs3,ho3,rfl⟩:=h;refine zf (za (z8 (yp (pI rfl) (yp (Z8 rfl rfl (by omega)) (yp (pI rfl) (zf (zW (za ?_))))))));exact⟨b-(mid+1),⟨mid+1,b,q,N3,_,bl,⟨rfl,rfl,rfl,rfl,rfl,rfl,rfl,trivial⟩,rfl,hq,hpi2.left hc.wk hpt hs3 ho3 (by omega),.of⟩,by omega⟩
 ·refine ze (z8 (yp (pI rfl) (yp (pI rfl) (yp (Ux rfl rfl) (yp (pB rfl) (zf (za (ze (z8 (yp (pS rfl) (yp (pI rfl) (yp (Z8 rfl rfl (by omega)) (yp (pI rfl) (yp (pI rfl) (yp (pF rfl) ?_)))))))))))))));refine zh (zk (ih hN2 (a:=mid+1) (b:=b) (by omega) (by omega) (fun h0 i h8 h9=>hpt.hi i (by omega) h9) (by omega) hq) rfl rfl fun r S' h=>?_);obtain⟨rfl,N3,hs3,ho3,rfl⟩:=h;refine zf (za (z8 (yp (pI rfl) (yp (pI rfl) (zf (zW (za ?_)))))));exact⟨mid-a,⟨a,mid,q,N3,_,bl,⟨rfl,rfl,rfl,rfl,rfl,rfl,rfl,trivial⟩,rfl,hq,hpi2.right hc.wk hpt hs3 ho3 (by omega),.of⟩,by omega⟩
theorem FR{f fi fh fb fc fr fp fe ft:Nat}(F:Pg P ld k f fi fh fb fc fr fp fe ft){a:Option Addr}{c:Nat}{q:Int}:Tri P f #[.slice a 0 c,.int .i64 0,.int .i64 0,.int .i64 q,.func (.func cf) #[] caps] [] (fun r S=>r= .tuple #[]∧S=[]):=by
 have hi:Tri P fi #[.slice a 0 c,.int .i64 0,.int .i64 0,.func (.func cf) #[] caps] [] (fun r S=>r= .tuple #[]∧S=[]):=by
  refine Tri.forget (zq F.ins (Nat.le_of_ble_eq_true rfl) ?_);unfold dI;refine ze (z8 (yp (pI rfl) (yp (vJ rfl rfl (by omega)) (yp (pI rfl) (zf (za (zu ?_)))))));refine Z7 (σ:=Nat) (fun i E S=>Has E [(2,.int .i64 0),(8,.int .i64 1)]∧zG S []) (fun i=>0) 0 ⟨⟨rfl,rfl,trivial⟩,.self⟩ fun i E S ⟨hE,hJ⟩=>?_
  obtain⟨E0,e0⟩:=zm hE; subst e0; clear hE;refine zn hJ (ze (ze (z8 (yp (pI rfl) (yp (pI rfl) (yp (ZE rfl rfl) (zf (za (zo rfl (zZ (zA (zA (Z0 ?_)))))))))))));rw[decide_eq_false (show ¬(1:Int)<0 from by decide)]
  skip
  exact ZO ZQ ⟨_,.of,rfl,rfl⟩
 refine Tri.forget (zq F.main (Nat.le_of_ble_eq_true rfl) ?_);unfold mQ;refine ze (z8 (yp pC (zf (za (ze (z8 (yp pC (zf (za (zu ?_))))))))));refine Z7 (σ:=Nat) (fun i E S=>Has E [(0,.slice a 0 c),(1,.int .i64 0),(2,.int .i64 0),(4,.func (.func cf) #[] caps)]∧zG S []) (fun i=>0) 0 ⟨⟨rfl,rfl,rfl,rfl,trivial⟩,.self⟩ fun i E S ⟨hE,hJ⟩=>?_
 obtain⟨E0,e0⟩:=zm hE; subst e0; clear hE;refine zn hJ (zu (ze (z8 (yp (pI rfl) (yp (pI rfl) (yp (Zy rfl rfl (by omega)) (yp (pI rfl) (zf (za (ze (ze (z8 (yp (pI rfl) (yp (XB rfl rfl) (zf (za (zC rfl (ze (z8 (yp (pS rfl) (yp (pI rfl) (yp (pI rfl) (yp (pF rfl) ?_)))))))))))))))))))))));rw[decide_eq_true (show(0:Int)-0≤12 from by decide)]
 skip
 refine zh (zk hi rfl rfl fun r S' h=>?_);obtain⟨rfl,rfl⟩:=h;refine zf (za (zJ (zV (bret (zV (bret ?_))))));exact zI ZQ ⟨_,.of,rfl,rfl⟩
omit [Enc α] in
theorem Vb{L sp:List α}{i:Nat}(h:i<L.length):gt (L++sp) i=gt L i:=by
 rw[xY (by simp; omega),xY h,List.getElem_append_left h]
omit [Enc α] in
/-- swaps in the front part leave the rest -/
theorem Sw.front{L sp M:List α}(h:Sw 0 L.length (L++sp) M):∃L',M=L'++sp∧L'.Perm L:=by
 induction h with
 | refl=>exact⟨L,rfl,.refl _⟩
 | step h hi hi' hj hj' hb ih=>
  rename_i M i j
  obtain⟨L',rfl,hp⟩:=ih;have hl:=hp.length_eq;refine⟨swp L' i j,?_,(Q5 (by omega) (by omega)).trans hp⟩;unfold swp;rw[Vb (by omega),Vb (by omega),List.set_append_left _ _ (by omega),List.set_append_left _ _ (by simp; omega)]
/-- SortFunc: the same elements, in order -/
theorem iJ{f fl fO f2 fm fi fh fb fc fr fp fe ft:Nat}(hf:Z9 P f 14 #[] (dG fl fm))(h1:Z9 P fl 8 #[.tmp 2] (yQ fO f2))(h2:Z9 P f2 25 #[.tmp 2] VE)(F:Pg P ld k fm fi fh fb fc fr fp fe ft)(hl:Ld ld vl)(hk:Enc.k α=k)(hc:Cm P cf caps Hc vl p lt)
 {v:Value} {L:List α} {H:List Chunk} (hL:Zg ty v L H) (hlen:L.length<2 ^ 39) (hp:∀x∈L,p x):
 Tri P f #[v,.func (.func cf) #[] caps] [H,Hc] (fun r S=>r= .tuple #[]∧∃L' H',L'.Perm L∧L'.Pairwise (fun a b=>¬lt b a)∧Zg ty v L' H'∧S=[H',Hc]):=by
 refine Tri.forget (zq hf (Nat.le_of_ble_eq_true rfl) ?_);unfold dG;rcases hL.inv with⟨rfl,rfl,rfl⟩ | ⟨b,sp,fz,hz,rfl,rfl⟩
 ·refine ze (z8 (yp (pS rfl) (yp (Zp rfl) (yp (pI rfl) (zf (za (z8 (yp (pS rfl) (yp (pI rfl) (yp (pI rfl) (yp (Y7 (j:=0) rfl (by omega)) ?_)))))))))));refine zh (zk (yA h1 h2 (m:=0) (by omega)) rfl rfl fun r S' h=>?_);obtain⟨l,rfl,hl8,hi,rfl⟩:=h;refine yp (pF rfl) ?_;refine zh (zk (FR (a:=none) (c:=0) (q:=(l:Int)) F) rfl rfl fun r S' h=>?_);obtain⟨rfl,rfl⟩:=h;refine zf ?_;exact ZO ZQ ⟨[[],Hc],.of,rfl,[],[],.refl _,.nil,.nil,rfl⟩
 ·refine ze (z8 (yp (pS rfl) (yp (Zp rfl) (yp (pI rfl) (zf (za (z8 (yp (pS rfl) (yp (pI rfl) (yp (pI rfl) (yp (Y7 (j:=L.length) rfl (by omega)) ?_)))))))))));refine zh (zk (yA h1 h2 (m:=L.length) (by omega)) rfl rfl fun r S' h=>?_);obtain⟨l,rfl,hl8,hi,rfl⟩:=h;refine yp (pF rfl) ?_;refine zh (zk (BN (blk:=b) (ty:=ty) (cp:=L.length+sp.length) (fz:=fz) (ln:=L.length) F hl hk hc (L.length+1) (M:=L++sp) ⟨by simp,by omega,hz,fun i _ h=>?_⟩ (a:=0) (b:=L.length) (by omega) (by omega) (fun h=>absurd h (by omega)) (by omega) (q:=l) (by omega)) rfl rfl fun r S' h=>?_)
  ·rw[Vb h];exact hp _ (Gq h)
  obtain⟨rfl,M',hsw,hso,rfl⟩:=h;obtain⟨L',rfl,hpm⟩:=hsw.front;refine zf ?_;have hll:=hpm.length_eq;refine ZO ZQ ⟨[sg b ty fz (L'++sp),Hc],.of,rfl,L',_,hpm,?_,?_,rfl⟩
  ·rw[List.pairwise_iff_getElem];intro i j hi hj hij;have:=hso i j (Nat.zero_le _) hij (by omega)
   rwa [Vb hi,Vb hj,xY hi,xY hj] at this
  ·rw[←hll];exact .row (by rw[zS] at hz ⊢; simp at hz ⊢; rw[hll]; exact hz)
end
end Go.Xs
