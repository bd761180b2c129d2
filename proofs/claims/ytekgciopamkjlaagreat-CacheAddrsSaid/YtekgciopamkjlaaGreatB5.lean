/- slices.SortFunc: the choice of a pivot, patterns, and the whole. slices.SortFunc: the choice of a pivot, patterns that are broken, ranges that are nearly in order. slices.SortFunc: the whole. -/
import Derived.Test.YtekgciopamkjlaaGreatB4
namespace Go.Xs
open Enc (enc)
section
variable {P:Program} {r:Option Nat} {n:Nat} {K:Env→zB→Prop} {E:Env} {S R:zB} {d:Option Tmp}
theorem jQ{x y:Operand}{k k':IntKind}{a b:Nat}(h1:ev E x= .int k (a:Int))(h2:ev E y= .int k' (b:Int))(hb:b≤k.bits):zu (ev E) (.bin .shr x y)=some (.int k ((a/2 ^ b:Nat):Int)):=by
 have e:Nat.min b k.bits=b:=Nat.min_eq_left hb;simp only[zu,h1,h2,Wy,WW];rw[if_pos (by simp),if_neg (by omega),show((b:Int)).toNat=b from rfl,e];congr 2;rw[Int.fdiv_eq_ediv_of_nonneg _ (by exact_mod_cast Nat.zero_le _)]
 norm_cast
theorem QD{x y:Operand}{k k':IntKind}{a b:Int}(h1:ev E x= .int k a)(h2:ev E y= .int k' b)(hb:0≤b):zu (ev E) (.bin .shl x y)=some (.int k (k.wrap (a*2 ^ (Nat.min b.toNat k.bits)))):=by
 simp[zu,h1,h2,Wy,WW,show ¬b<0 from by omega]
theorem EJ{x y:Operand}{k k':IntKind}{a b:Int}(h1:ev E x= .int k a)(h2:ev E y= .int k' b)(hb:0≤b):zu (ev E) (.bin .shr x y)=some (.int k (a.fdiv (2 ^ (Nat.min b.toNat k.bits)))):=by
 simp[zu,h1,h2,Wy,WW,show ¬b<0 from by omega]
theorem gI{x y:Operand}{k:IntKind}{a b:Int}(h1:ev E x= .int k a)(h2:ev E y= .int k b):zu (ev E) (.bin .xor x y)=some (.int k (uL .xor k a b)):=by
 simp[zu,h1,h2,Wy,WW]
theorem EX{x y:Operand}{a:Int}{b:Nat}(h1:ev E x= .int .u64 a)(h2:ev E y= .int .u64 (b:Int))(hb:b<18446744073709551616):∃c:Nat,c≤b∧zu (ev E) (.bin .and x y)=some (.int .u64 (c:Int)):=by
 refine⟨(BitVec.ofInt 64 a).toNat &&& b,Nat.and_le_right,?_⟩;simp only[zu,h1,h2,Wy,WW,uL];rw[if_pos (by simp)];congr 2;have hw:∀c:Nat,c<18446744073709551616→IntKind.u64.wrap (c:Int)=c:=fun c hc=>by
  have:IntKind.u64.wrap (c:Int)=(c:Int)%18446744073709551616:=by simp[IntKind.wrap,IntKind.signed,IntKind.bits]
  rw[this]; omega
 have e:(BitVec.ofInt IntKind.u64.bits a &&& BitVec.ofInt IntKind.u64.bits (b:Int)).toNat=(BitVec.ofInt 64 a).toNat &&& b:=by
  show(BitVec.ofInt 64 a &&& BitVec.ofInt 64 (b:Int)).toNat=_;rw[BitVec.toNat_and];congr 1;rw[BitVec.toNat_ofInt];simp;omega
 rw[e];exact hw _ (Nat.lt_of_le_of_lt Nat.and_le_right hb)
theorem rT{x y:Operand}{a:Int}{b:Nat}(h1:ev E x= .int .u64 a)(h2:ev E y= .int .u64 (b:Int))(hb:b<18446744073709551616)(h:∀c:Nat,c≤b→K (Zk d (.int .u64 (c:Int)) E) S):YO P r n d (.bin .and x y) K E S:=by
 obtain⟨c,hc,hp⟩:=EX h1 h2 hb;exact Zc hp (h c hc)
theorem sI{x y:Operand}{a b:Nat}(h1:ev E x= .int .u64 (a:Int))(h2:ev E y= .int .u64 (b:Int))(h:b≤a)(ha:a<18446744073709551616):zu (ev E) (.bin .sub x y)=some (.int .u64 ((a-b:Nat):Int)):=by
 simp only[zu,h1,h2,Wy,WW];rw[if_pos (by simp)];congr 2;have:IntKind.u64.wrap ((a:Int)-b)=((a:Int)-b)%18446744073709551616:=by simp[IntKind.wrap,IntKind.signed,IntKind.bits]
 rw[this]; omega
theorem EL{x:Operand}{k':IntKind}{b:Nat}(h2:ev E x= .int k' (b:Int))(hb:b≤60):zu (ev E) (.bin .shl (.const (.int .u64 1)) x)=some (.int .u64 ((2 ^ b:Nat):Int)):=by
 rw[QD (a:=1) rfl h2 (by omega)];congr 2;have e:Nat.min b IntKind.u64.bits=b:=Nat.min_eq_left (by show b≤64; omega);rw[show((b:Int)).toNat=b from rfl,e];have h1:(2:Nat) ^ b≤2 ^ 60:=Nat.pow_le_pow_right (by decide) hb;have:IntKind.u64.wrap (1*2 ^ b:Int)=(1*2 ^ b:Int)%18446744073709551616:=by simp[IntKind.wrap,IntKind.signed,IntKind.bits]
 rw[this,Int.one_mul,show((2:Int) ^ b)=((2 ^ b:Nat):Int) from by norm_cast];clear this;generalize (2:Nat) ^ b=q at h1 ⊢;omega
/-- how many bits a number has -/
structure Jt(n l:Nat):Prop where
 up:n<2 ^ l
 dn:0<n→1≤l∧2 ^ (l-1)≤n
theorem bE:∀x:Fin 256,∃h:x.val<uz.size,(uz[x.val]'h).toNat≤8∧x.val<2 ^ (uz[x.val]'h).toNat∧(0<x.val→1≤(uz[x.val]'h).toNat∧2 ^ ((uz[x.val]'h).toNat-1)≤x.val):=by decide+kernel
theorem Jt.BL{n s x t:Nat}(hx:x=n/2 ^ s)(hs:0<s→0<x)(h1:x<2 ^ t)(h2:0<x→1≤t∧2 ^ (t-1)≤x):Jt n (s+t):=by
 refine⟨?_,fun hn=>?_⟩
 ·rw[Nat.pow_add];have:=(Nat.div_lt_iff_lt_mul (Nat.two_pow_pos s)).1 (hx▸h1)
  rwa [Nat.mul_comm]
 ·have h0:0<x:=by
   rcases Nat.eq_zero_or_pos s with rfl | h
   ·simp at hx; omega
   ·exact hs h
  obtain⟨h3,h4⟩:=h2 h0;refine⟨by omega,?_⟩;have:=(Nat.le_div_iff_mul_le (Nat.two_pow_pos s)).1 (hx▸h4);rw[←Nat.pow_add] at this
  rwa [show s+t-1=t-1+s from by omega]
theorem gH{f:Nat}(hf:Z6 P f 25 #[.tmp 2] vZ){m:Nat}(hm:m<2 ^ 40):Tri P f #[.int .u64 (m:Int)] [] (fun r S=>∃l:Nat,r= .int .i64 (l:Int)∧l≤60∧Jt m l∧S=[]):=by
 refine Tri.forget (zn hf (Nat.le_of_ble_eq_true rfl) ?_);unfold vZ;refine ze (z8 (yp pC (zf (za ?_))));refine w9 (fun E S=>∃x s:Nat,Has E [(0,.int .u64 (x:Int)),(2,.int .i64 (s:Int))]∧x=m/2 ^ s∧(0<s→0<x)∧x<2 ^ 32∧(s=0∨s=32∧x<256)∧zG S []) ?_ fun E S ⟨x,s,hE,hx,hs,hb,hc,hJ⟩=>?_
 ·refine ze (z8 (yp (pI rfl) (yp (U9 rfl rfl) (zf (za ?_)))));refine zO rfl (fun h=>?_) (fun h=>?_)
  ·refine ze (z8 (yp (pI rfl) (yp (jQ (b:=32) rfl rfl (by decide)) (yp (pI rfl) (zf (za (z8 (yp pC (zf (za ?_))))))))));exact⟨m/2 ^ 32,32,⟨rfl,rfl,trivial⟩,rfl,fun _=>by omega,by omega,.inr ⟨rfl,by omega⟩,.of⟩
  ·refine zq (za ?_);exact⟨m,0,⟨rfl,rfl,trivial⟩,by simp,fun h=>by omega,by omega,.inl rfl,.of⟩
 obtain⟨E0,e0⟩:=zl hE; subst e0; clear hE;refine zm hJ ?_;refine w9 (fun E S=>∃x s:Nat,Has E [(0,.int .u64 (x:Int)),(2,.int .i64 (s:Int))]∧x=m/2 ^ s∧(0<s→0<x)∧x<2 ^ 16∧s≤32∧(s≤16∨x<256)∧zG S []) ?_ fun E S ⟨x,s,hE,hx,hs,hb,hc,hd,hJ⟩=>?_
 ·refine ze (z8 (yp (pI rfl) (yp (U9 rfl rfl) (zf (za ?_)))));refine zO rfl (fun h=>?_) (fun h=>?_)
  ·have h0:s=0:=by omega
   subst h0;refine ze (z8 (yp (pI rfl) (yp (jQ (b:=16) rfl rfl (by decide)) (yp (pI rfl) (zf (za (z8 (yp (pI rfl) (yp (Vo rfl rfl (by omega)) (yp (pI rfl) (zf (za ?_))))))))))));exact⟨x/2 ^ 16,16,⟨rfl,rfl,trivial⟩,by rw[hx]; simp,fun _=>by omega,by omega,by omega,.inl (by omega),.of⟩
  ·refine zq (za ?_);exact⟨x,s,⟨rfl,rfl,trivial⟩,hx,hs,by omega,by omega,by omega,.of⟩
 obtain⟨E0,e0⟩:=zl hE; subst e0; clear hE;refine zm hJ ?_;refine w9 (fun E S=>∃x s:Nat,Has E [(0,.int .u64 (x:Int)),(2,.int .i64 (s:Int))]∧x=m/2 ^ s∧(0<s→0<x)∧x<256∧s≤32∧zG S []) ?_ fun E S ⟨x,s,hE,hx,hs,hb,hc,hJ⟩=>?_
 ·refine ze (z8 (yp (pI rfl) (yp (U9 rfl rfl) (zf (za ?_)))));refine zO rfl (fun h=>?_) (fun h=>?_)
  ·have h0:s≤16:=by omega
   refine ze (z8 (yp (pI rfl) (yp (jQ (b:=8) rfl rfl (by decide)) (yp (pI rfl) (zf (za (z8 (yp (pI rfl) (yp (Vo rfl rfl (by omega)) (yp (pI rfl) (zf (za ?_))))))))))));exact⟨x/2 ^ 8,s+8,⟨rfl,congrArg (Value.int .i64) (by omega),trivial⟩,by rw[hx,Nat.div_div_eq_div_mul, ←Nat.pow_add],fun _=>by omega,by omega,by omega,.of⟩
  ·refine zq (za ?_);exact⟨x,s,⟨rfl,rfl,trivial⟩,hx,hs,by omega,by omega,.of⟩
 obtain⟨E0,e0⟩:=zl hE; subst e0; clear hE;refine zm hJ ?_;obtain⟨hsz,ht8,ht1,ht2⟩:=bE ⟨x,hb⟩;dsimp only at hsz ht8 ht1 ht2;refine ze (z8 (yp (pI rfl) (yp (pI rfl) ?_)));refine yp (v:= .int .u8 (x:Int)) ?_ ?_
 ·show some (Value.int .u8 (IntKind.u8.wrap (x:Int)))=_;have:IntKind.u8.wrap (x:Int)=(x:Int)%256:=by simp[IntKind.wrap,IntKind.signed,IntKind.bits]
  rw[this];congr 2;omega
 refine yp (EM rfl rfl hsz) ?_;refine yp (v:= .int .i64 ((uz[x].toNat:Nat):Int)) ?_ ?_
 ·show some (Value.int .i64 (IntKind.i64.wrap ((uz[x].toNat:Nat):Int)))=_;rw[wrap_i64 (by omega)]
 generalize uz[x].toNat=t at ht8 ht1 ht2;refine yp (Zi rfl rfl (by omega)) (yp (pI rfl) (zf (za (zL ?_))));exact zK (rI rfl) ⟨_,.of,s+t,rfl,by omega,Jt.BL hx hs ht1 ht2,rfl⟩
theorem xX{f fO f2:Nat}(hf:Z6 P f 8 #[.tmp 2] (Xe fO f2))(h2:Z6 P f2 25 #[.tmp 2] vZ){m:Nat}(hm:m<2 ^ 40):Tri P f #[.int .u64 (m:Int)] [] (fun r S=>∃l:Nat,r= .int .i64 (l:Int)∧l≤60∧Jt m l∧S=[]):=by
 refine Tri.forget (zn hf (Nat.le_of_ble_eq_true rfl) ?_);unfold Xe;refine ze (z8 (yp pC (zf (za (ze (zw rfl (zq (za (ze (z8 (yp (pI rfl) ?_)))))))))));refine zh (zk (gH h2 hm) rfl rfl fun r S' h=>?_);obtain⟨l,rfl,hl,hi,rfl⟩:=h;refine yp (pI rfl) (zf (za (zL ?_)));exact zK (rI rfl) ⟨_,.of,l,rfl,hl,hi,rfl⟩
theorem rU{E:Env}{S:zB}{t:Tmp}{a:Int}(hv:E t= .int .u64 a):Xo P #[.tmp t] E S (.int .u64 a):=rI hv
theorem gF{f fl fO f2:Nat}(hf:Z6 P f 7 #[.tmp 2] (Yn fl))(h1:Z6 P fl 8 #[.tmp 2] (Xe fO f2))(h2:Z6 P f2 25 #[.tmp 2] vZ){m:Nat}(hm:m<2 ^ 40)(h0:0<m):Tri P f #[.int .i64 (m:Int)] [] (fun r S=>∃q:Nat,r= .int .u64 (q:Int)∧1≤q∧q≤2*m∧S=[]):=by
 refine Tri.forget (zn hf (Nat.le_of_ble_eq_true rfl) ?_);unfold Yn;refine ze (z8 (yp pC (zf (za (ze (z8 (yp (pI rfl) (yp (Xp rfl (by omega)) ?_))))))));refine zh (zk (xX h1 h2 hm) rfl rfl fun r S' h=>?_);obtain⟨l,rfl,hl,hi,rfl⟩:=h;refine yp (EL rfl hl) (yp (pI rfl) (zf (za (zL ?_))));refine zK (rU rfl) ⟨_,.of,2 ^ l,rfl,Nat.two_pow_pos l,?_,rfl⟩;obtain⟨h3,h4⟩:=hi.dn h0;obtain⟨l',rfl⟩:∃l',l=l'+1:=⟨l-1,by omega⟩
 rw[Nat.pow_succ];simp at h4;omega
theorem gD{f:Nat}(hf:Z6 P f 33 #[.tmp 2] Ym){xb tx:Nat}(v:Int):Tri P f #[.pointer (some ⟨xb,0,none⟩)] [[(xb,.cells #[.int .u64 v] tx)]] (fun r S=>∃z,r= .int .u64 z∧S=[[(xb,.cells #[.int .u64 z] tx)]]):=by
 refine Tri.forget (zn hf (Nat.le_of_ble_eq_true rfl) ?_);unfold Ym;refine ze (z8 (yp pC (zf (za (ze (zY (zi (pP rfl) (zi (zS rfl) (Zd rfl rfl (zi (pP rfl) (zi (zS rfl) (Zd rfl rfl (zi (QD rfl rfl (by omega)) (zi (gI rfl rfl) (zi (zS rfl) ?_)))))))))))))));refine zH (ZO rfl rfl (uM rfl) ?_) zM;generalize uL .xor .u64 v _=v;refine zD (za (ze (zY (zi (pP rfl) (zi (zS rfl) (Zd rfl rfl (zi (pP rfl) (zi (zS rfl) (Zd rfl rfl (zi (EJ rfl rfl (by omega)) (zi (gI rfl rfl) (zi (zS rfl) ?_))))))))))));refine zH (ZO rfl rfl (uM rfl) ?_) zM;generalize uL .xor .u64 v _=v;refine zD (za (ze (zY (zi (pP rfl) (zi (zS rfl) (Zd rfl rfl (zi (pP rfl) (zi (zS rfl) (Zd rfl rfl (zi (QD rfl rfl (by omega)) (zi (gI rfl rfl) (zi (zS rfl) ?_))))))))))));refine zH (ZO rfl rfl (uM rfl) ?_) zM;generalize uL .xor .u64 v _=v;refine zD (za (ze (z8 (yp (pP rfl) (yp (zS rfl) ?_)))));refine zh (zF rfl rfl ?_);refine yp (pI rfl) (zf (za (zL ?_)));exact zK (rU rfl) ⟨_,.of,v,rfl,rfl⟩
end
end Go.Xs
namespace Go.Xs
open Enc (enc)
section
variable {P:Program} {α:Type} [Enc α] [Inhabited α] {ld:Operand→Wv} {k:Nat} {vl:α→Value} {cf:Nat} {caps:Array Value} {Hc:List Chunk} {p:α→Prop} {lt:α→α→Prop}
 {blk ty ln cp:Nat} {fz:Nat × Nat}
abbrev Jv(sb ti z:Nat):List Chunk:=[(sb,.cells #[.int .i64 (z:Int)] ti)]
theorem Kq{f:Nat}(hf:Z6 P f 32 #[.tmp 10,.tmp 11] (xM ld k))(hl:Ld ld vl)(hk:Enc.k α=k)(hc:Cm P cf caps Hc vl p lt){M:List α}(hM:xK fz ln p M){a b:Nat}(ha:a<ln)(hb:b<ln){sb ti z:Nat}(hz:z<1000):
 Tri P f #[.slice (some ⟨blk,0,none⟩) ln cp,.int .i64 (a:Int),.int .i64 (b:Int),.pointer (some ⟨sb,0,none⟩),.func (.func cf) #[] caps] [sg blk ty fz M,Hc,Jv sb ti z]
  (fun r S=>∃x y z':Nat,r= .tuple #[.int .i64 (x:Int),.int .i64 (y:Int)]∧(x=a∧y=b∨x=b∧y=a)∧z'≤z+1∧S=[sg blk ty fz M,Hc,Jv sb ti z']):=by
 refine Tri.forget (zn hf (Nat.le_of_ble_eq_true rfl) ?_);have hlen:=hM.len;have hbig:=hM.big;unfold xM;refine ze (z8 (yp pC (yp pC (zf (za (ze (ze (zY (zi (pF rfl) (zi (pS rfl) (zi (pI rfl) (zi (zN rfl rfl (by omega)) (Z9 hl rfl (by omega) hk (zi (pS rfl) (zi (pI rfl) (zi (zN rfl rfl (by omega)) (Z9 hl rfl (by omega) hk ?_)))))))))))))))));refine zH (zk (hc.call _ _ (hM.all b (Nat.zero_le _) hb) (hM.all a (Nat.zero_le _) ha)) rfl rfl fun r S' h=>?_) zM;obtain⟨⟨w,rfl,hzz⟩,rfl⟩:=h;refine zi (ZL rfl rfl) (zD (za ?_));refine zO rfl (fun h2=>?_) (fun h2=>?_)
 ·refine ze (z8 (yp (pP rfl) (yp (zS rfl) ?_)));refine zh (zF rfl rfl ?_);refine yp (Za rfl rfl (by omega)) (yp (zS rfl) ?_);refine zh (ZO rfl rfl (uM rfl) ?_);refine zf (za (ze (z8 (yp (pI rfl) (yp (pI rfl) (yp (pI rfl) (yp (pI rfl) (zf (za (zL (zX ?_)))))))))));exact zK (Ya rfl rfl) ⟨_,.of,b,a,z+1,rfl,.inr ⟨rfl,rfl⟩,by omega,rfl⟩
 ·refine zq (za (ze (z8 (yp (pI rfl) (yp (pI rfl) (yp (pI rfl) (yp (pI rfl) (zf (za (zL ?_))))))))));exact zK (Ya rfl rfl) ⟨_,.of,a,b,z,rfl,.inl ⟨rfl,rfl⟩,by omega,rfl⟩
theorem gG{f fo:Nat}(hf:Z6 P f 41 #[.tmp 12] (jl fo))(ho:Z6 P fo 32 #[.tmp 10,.tmp 11] (xM ld k))(hl:Ld ld vl)(hk:Enc.k α=k)(hc:Cm P cf caps Hc vl p lt){M:List α}(hM:xK fz ln p M){a b c:Nat}(ha:a<ln)(hb:b<ln)(hcc:c<ln){sb ti z:Nat}(hz:z<900):
 Tri P f #[.slice (some ⟨blk,0,none⟩) ln cp,.int .i64 (a:Int),.int .i64 (b:Int),.int .i64 (c:Int),.pointer (some ⟨sb,0,none⟩),.func (.func cf) #[] caps] [sg blk ty fz M,Hc,Jv sb ti z]
  (fun r S=>∃x z':Nat,r= .int .i64 (x:Int)∧(x=a∨x=b∨x=c)∧z'≤z+3∧S=[sg blk ty fz M,Hc,Jv sb ti z']):=by
 refine Tri.forget (zn hf (Nat.le_of_ble_eq_true rfl) ?_);unfold jl;refine ze (z8 (yp pC (zf (za (ze (z8 (yp (pS rfl) (yp (pI rfl) (yp (pI rfl) (yp (pP rfl) (yp (pF rfl) ?_)))))))))));refine zh (zk (Kq (blk:=blk) (ty:=ty) (cp:=cp) (sb:=sb) (ti:=ti) (z:=z) ho hl hk hc hM ha hb (by omega)) rfl rfl fun r S' h=>?_);obtain⟨x1,y1,z1,rfl,h1,hz1,rfl⟩:=h;refine yp (pU rfl) (yp (pExt rfl rfl) (yp (pExt rfl rfl) (yp (pI rfl) (yp (pI rfl) (zf (za (ze (z8 (yp (pS rfl) (yp (pI rfl) (yp (pI rfl) (yp (pP rfl) (yp (pF rfl) ?_)))))))))))));refine zh (zk (Kq (blk:=blk) (ty:=ty) (cp:=cp) (sb:=sb) (ti:=ti) (z:=z1) ho hl hk hc hM (a:=y1) (b:=c) (by omega) hcc (by omega)) rfl rfl fun r S' h=>?_);obtain⟨x2,y2,z2,rfl,h2,hz2,rfl⟩:=h;refine yp (pU rfl) (yp (pExt rfl rfl) (yp (pExt rfl rfl) (yp (pI rfl) (yp (pI rfl) (zf (za (ze (z8 (yp (pS rfl) (yp (pI rfl) (yp (pI rfl) (yp (pP rfl) (yp (pF rfl) ?_)))))))))))));refine zh (zk (Kq (blk:=blk) (ty:=ty) (cp:=cp) (sb:=sb) (ti:=ti) (z:=z2) ho hl hk hc hM (a:=x1) (b:=x2) (by omega) (by omega) (by omega)) rfl rfl fun r S' h=>?_);obtain⟨x3,y3,z3,rfl,h3,hz3,rfl⟩:=h;refine yp (pU rfl) (yp (pExt rfl rfl) (yp (pExt rfl rfl) (yp (pI rfl) (yp (pI rfl) (zf (za (ze (z8 (yp (pI rfl) (yp (pI rfl) (zf (za (zL ?_)))))))))))));exact zK (rI rfl) ⟨_,.of,y3,z3,rfl,by omega,by omega,rfl⟩
theorem JW{f fm fo:Nat}(hf:Z6 P f 18 #[.tmp 8] (Qb fm))(hm:Z6 P fm 41 #[.tmp 12] (jl fo))(ho:Z6 P fo 32 #[.tmp 10,.tmp 11] (xM ld k))(hl:Ld ld vl)(hk:Enc.k α=k)(hc:Cm P cf caps Hc vl p lt){M:List α}(hM:xK fz ln p M){a:Nat}(ha:1≤a)(ha2:a+1<ln){sb ti z:Nat}(hz:z<900):
 Tri P f #[.slice (some ⟨blk,0,none⟩) ln cp,.int .i64 (a:Int),.pointer (some ⟨sb,0,none⟩),.func (.func cf) #[] caps] [sg blk ty fz M,Hc,Jv sb ti z]
  (fun r S=>∃x z':Nat,r= .int .i64 (x:Int)∧a≤x+1∧x≤a+1∧z'≤z+3∧S=[sg blk ty fz M,Hc,Jv sb ti z']):=by
 refine Tri.forget (zn hf (Nat.le_of_ble_eq_true rfl) ?_);have hlen:=hM.len;have hbig:=hM.big;unfold Qb;refine ze (z8 (yp pC (zf (za (ze (z8 (yp (pS rfl) (yp (pI rfl) (yp (Zq rfl rfl (by omega)) (yp (pI rfl) (yp (pI rfl) (yp (Za rfl rfl (by omega)) (yp (pP rfl) (yp (pF rfl) ?_))))))))))))));refine zh (zk (gG (blk:=blk) (ty:=ty) (cp:=cp) (sb:=sb) (ti:=ti) (z:=z) hm ho hl hk hc hM (a:=a-1) (b:=a) (c:=a+1) (by omega) (by omega) (by omega) hz) rfl rfl fun r S' h=>?_);obtain⟨x,z1,rfl,h1,hz1,rfl⟩:=h;refine yp (pI rfl) (zf (za (zL ?_)));exact zK (rI rfl) ⟨_,.of,x,z1,rfl,by omega,by omega,by omega,rfl⟩
theorem BA{f fa fm fo ti:Nat}(hf:Z6 P f 63 #[.tmp 8,.tmp 9] (dL fa fm ti))(hma:Z6 P fa 18 #[.tmp 8] (Qb fm))(hm:Z6 P fm 41 #[.tmp 12] (jl fo))(ho:Z6 P fo 32 #[.tmp 10,.tmp 11] (xM ld k))(hl:Ld ld vl)(hk:Enc.k α=k)(hc:Cm P cf caps Hc vl p lt){M:List α}(hM:xK fz ln p M){a b:Nat}(ha:a+8≤b)(hb:b≤ln):
 Tri P f #[.slice (some ⟨blk,0,none⟩) ln cp,.int .i64 (a:Int),.int .i64 (b:Int),.func (.func cf) #[] caps] [sg blk ty fz M,Hc]
  (fun r S=>∃(j:Nat) (h:Int),r= .tuple #[.int .i64 (j:Int),.int .i64 h]∧a≤j∧j<b∧S=[sg blk ty fz M,Hc]):=by
 obtain⟨l,rfl⟩:∃l,b=a+l:=⟨b-a,by omega⟩
 refine Tri.forget (zn hf (Nat.le_of_ble_eq_true rfl) ?_);have hlen:=hM.len;have hbig:=hM.big;unfold dL;refine ze (z8 (yp pC (yp pC (zf (za (ze (z8 (yp (pI rfl) (yp (pI rfl) (yp (Zt rfl rfl (by omega)) (yp (pI rfl) (zf (za (ze (z8 ?_)))))))))))))));refine zh (Z8 fun p11=>?_);refine zf (za (ze (z8 (yp (pI rfl) (yp (pI rfl) ?_)))));rw[show((a+l:Nat):Int)-(a:Int)=(l:Int) from by omega]
 skip
 refine yp (Vr (j:=l) (k:=4) rfl rfl (by omega) (by omega)) (yp (Vh (j:=l/4) (k:=1) rfl rfl (by omega)) (yp (Zi rfl rfl (by omega)) (yp (pI rfl) (zf (za (ze (z8 (yp (pI rfl) (yp (pI rfl) (yp (Vr (j:=l) (k:=4) rfl rfl (by omega) (by omega)) (yp (Vh (j:=l/4) (k:=2) rfl rfl (by omega)) (yp (Zi rfl rfl (by omega)) (yp (pI rfl) (zf (za (ze (z8 (yp (pI rfl) (yp (pI rfl) (yp (Vr (j:=l) (k:=4) rfl rfl (by omega) (by omega)) (yp (Vh (j:=l/4) (k:=3) rfl rfl (by omega)) (yp (Zi rfl rfl (by omega)) (yp (pI rfl) (zf (za ?_)))))))))))))))))))))))));refine w9 (fun E S=>∃j z:Nat,Has E [(11,.pointer (some ⟨p11,0,none⟩)),(13,.int .i64 (j:Int))]∧a≤j∧j<a+l∧zG S [sg blk ty fz M,Hc,Jv p11 ti z]) ?_ fun E S ⟨j,z,hE,hj,hj2,hJ⟩=>?_
 ·refine ze (z8 (yp (pI rfl) (yp (U9 rfl rfl) (zf (za ?_)))))
  skip
  rw[decide_eq_true (show(8:Int)≤(l:Int) from by omega)];refine zI rfl ?_;refine w9 (fun E S=>∃i j q z:Nat,Has E [(0,.slice (some ⟨blk,0,none⟩) ln cp),(3,.func (.func cf) #[] caps),(11,.pointer (some ⟨p11,0,none⟩)),(12,.int .i64 (i:Int)),(13,.int .i64 (j:Int)),(14,.int .i64 (q:Int))]∧(a≤i∧i<a+l)∧(a≤j∧j<a+l)∧(a≤q∧q<a+l)∧z≤9∧zG S [sg blk ty fz M,Hc,Jv p11 ti z]) ?_ fun E S ⟨i,j,q,z,hE,hi,hj,hq,hz,hJ⟩=>?_
  ·refine ze (z8 (yp (pI rfl) (yp (U9 rfl rfl) (zf (za ?_)))));refine zO rfl (fun h=>?_) (fun h=>?_)
   ·refine ze (z8 (yp (pS rfl) (yp (pI rfl) (yp (pF rfl) ?_))));refine zh (zk (JW (blk:=blk) (ty:=ty) (cp:=cp) (sb:=p11) (ti:=ti) (z:=0) hma hm ho hl hk hc hM (a:=a+l/4*1) (by omega) (by omega) (by omega)) rfl rfl fun r S' h=>?_);obtain⟨i,z1,rfl,h1,h2,hz1,rfl⟩:=h;refine yp (pI rfl) (zf (za (ze (z8 (yp (pS rfl) (yp (pI rfl) (yp (pF rfl) ?_)))))));refine zh (zk (JW (blk:=blk) (ty:=ty) (cp:=cp) (sb:=p11) (ti:=ti) (z:=z1) hma hm ho hl hk hc hM (a:=a+l/4*2) (by omega) (by omega) (by omega)) rfl rfl fun r S' h=>?_);obtain⟨j,z2,rfl,h3,h4,hz2,rfl⟩:=h;refine yp (pI rfl) (zf (za (z8 (yp (pS rfl) (yp (pI rfl) (yp (pF rfl) ?_))))));refine zh (zk (JW (blk:=blk) (ty:=ty) (cp:=cp) (sb:=p11) (ti:=ti) (z:=z2) hma hm ho hl hk hc hM (a:=a+l/4*3) (by omega) (by omega) (by omega)) rfl rfl fun r S' h=>?_);obtain⟨q,z3,rfl,h5,h6,hz3,rfl⟩:=h;refine yp (pI rfl) (zf (za ?_));exact⟨i,j,q,z3,⟨rfl,rfl,rfl,rfl,rfl,rfl,trivial⟩,by omega,by omega,by omega,by omega,.of⟩
   ·refine zq (za ?_);exact⟨_,_,_,0,⟨rfl,rfl,rfl,rfl,rfl,rfl,trivial⟩,by omega,by omega,by omega,by omega,.of⟩
  obtain⟨E0,e0⟩:=zl hE; subst e0; clear hE;refine zm hJ (z8 (yp (pS rfl) (yp (pI rfl) (yp (pI rfl) (yp (pI rfl) (yp (pF rfl) ?_))))));refine zh (zk (gG (blk:=blk) (ty:=ty) (cp:=cp) (sb:=p11) (ti:=ti) (z:=z) hm ho hl hk hc hM (a:=i) (b:=j) (c:=q) (by omega) (by omega) (by omega) (by omega)) rfl rfl fun r S' h=>?_);obtain⟨x,z1,rfl,h1,hz1,rfl⟩:=h;refine yp (pI rfl) (zf (za ?_));exact⟨x,z1,⟨rfl,rfl,trivial⟩,by omega,by omega,.of⟩
 obtain⟨E0,e0⟩:=zl hE; subst e0; clear hE;refine zm hJ (ze (z8 ?_));refine zh (zF rfl rfl ?_);refine zf (za (zo (ze (z8 (yp (WB rfl rfl) (yp (pB rfl) (zf (za ?_))))))));refine zO rfl (fun h=>?_) (fun h=>?_)
 ·refine ze (z8 (yp (pI rfl) (yp (pI rfl) (yp pC (zf (za (zL (bret ?_))))))));exact zK (Ya rfl rfl) ⟨_,.of,j,1,rfl,hj,hj2,rfl⟩
 ·refine ze (z8 (yp (WB rfl rfl) (yp (pB rfl) (zf (za ?_)))));refine zO rfl (fun h=>?_) (fun h=>?_)
  ·refine ze (z8 (yp (pI rfl) (yp (pI rfl) (yp pC (zf (za (zL (bret ?_))))))));exact zK (Ya rfl rfl) ⟨_,.of,j,2,rfl,hj,hj2,rfl⟩
  ·refine ze (z8 (yp (pI rfl) (yp (pI rfl) (yp pC (zf (za (zL (bret ?_))))))));exact zK (Ya rfl rfl) ⟨_,.of,j,0,rfl,hj,hj2,rfl⟩
theorem Bq{f:Nat}(hf:Z6 P f 34 #[] (dG ld k))(hl:Ld ld vl)(hk:Enc.k α=k){cv:Value}{M:List α}(hM:xK fz ln p M){a b:Nat}(ha:a<b)(hb:b≤ln):
 Tri P f #[.slice (some ⟨blk,0,none⟩) ln cp,.int .i64 (a:Int),.int .i64 (b:Int),cv] [sg blk ty fz M] (fun r S=>∃M',r= .tuple #[]∧Sw a b M M'∧S=[sg blk ty fz M']):=by
 refine Tri.forget (zn hf (Nat.le_of_ble_eq_true rfl) ?_);have hlen:=hM.len;have hbig:=hM.big;unfold dG;refine ze (z8 (yp (pI rfl) (yp (pI rfl) (zf (za (ze (z8 (yp (pI rfl) (yp (Zq rfl rfl (by omega)) (yp (pI rfl) (zf (za (zo ?_)))))))))))));refine Z4 (σ:=Nat) (fun j E S=>∃i:Nat,Has E [(0,.slice (some ⟨blk,0,none⟩) ln cp),(8,.int .i64 (i:Int)),(9,.int .i64 (j:Int))]∧a≤i∧i≤b∧j<b∧∃N,Sw a b M N∧zG S [sg blk ty fz N]) (fun j=>j) (b-1) ⟨a,⟨rfl,rfl,rfl,trivial⟩,by omega,by omega,by omega,M,.refl,.of⟩ fun j E S ⟨i,hE,hi,hib,hj,N,hsw,hJ⟩=>?_
 have hN:=hM.sw hsw hb;have hNl:=hsw.len;have hz:=hN.hz;obtain⟨E0,e0⟩:=zl hE; subst e0; clear hE;refine zm hJ (ze (ze (z8 (yp (pI rfl) (yp (pI rfl) (yp (ZL rfl rfl) (zf (za ?_))))))));refine zO rfl (fun h=>?_) (fun h=>?_)
 ·refine zq (za (zo (ze (zY (zi (pS rfl) (zi (pI rfl) (zi (pS rfl) (zi (pI rfl) (zi (pS rfl) (zi (pI rfl) (zi (zN rfl rfl (by omega)) (Z9 hl rfl (by omega) hk (zi (pS rfl) (zi (pI rfl) (zi (zN rfl rfl (by omega)) (Z9 hl rfl (by omega) hk (zi (zN rfl rfl (by omega)) ?_)))))))))))))))));refine zH (Z7 rfl (by omega) hk (hl.cells _) hz ?_) zM;refine zi (zN rfl rfl (by omega)) ?_;refine zH (Zg rfl (by omega) hk (hl.cells _) hz ?_) zM;refine zD (za (ze (z8 (yp (pI rfl) (yp (Za rfl rfl (by omega)) (yp (pI rfl) (zf (za (z8 (yp (pI rfl) (yp (Zq rfl rfl (by omega)) (yp (pI rfl) (zf (zT (za ?_)))))))))))))));exact⟨j-1,⟨i+1,⟨rfl,rfl,rfl,trivial⟩,by omega,by omega,by omega,_,hsw.step (i:=i) (j:=j) (by omega) (by omega) (by omega) (by omega) (by omega),.of⟩,by omega⟩
 ·refine zV (zy (zy (zW ?_)));exact ZF ZG ⟨_,.of,N,rfl,hsw,rfl⟩
theorem BD{f fn fx fl fO f2 tx:Nat}(hf:Z6 P f 67 #[] (dM ld k fn fx tx))(hn:Z6 P fn 7 #[.tmp 2] (Yn fl))(h1:Z6 P fl 8 #[.tmp 2] (Xe fO f2))(h2:Z6 P f2 25 #[.tmp 2] vZ)(hx:Z6 P fx 33 #[.tmp 2] Ym)
 (hl:Ld ld vl) (hk:Enc.k α=k) {cv:Value} {M:List α} (hM:xK fz ln p M) {a b:Nat} (ha:a+8≤b) (hb:b≤ln):
 Tri P f #[.slice (some ⟨blk,0,none⟩) ln cp,.int .i64 (a:Int),.int .i64 (b:Int),cv] [sg blk ty fz M] (fun r S=>∃M',r= .tuple #[]∧Sw a b M M'∧S=[sg blk ty fz M']):=by
 obtain⟨l,rfl⟩:∃l,b=a+l:=⟨b-a,by omega⟩
 refine Tri.forget (zn hf (Nat.le_of_ble_eq_true rfl) ?_);have hlen:=hM.len;have hbig:=hM.big;unfold dM;refine ze (z8 (yp (pI rfl) (yp (pI rfl) (yp (Zt rfl rfl (by omega)) (yp (pI rfl) (zf (za (ze (z8 (yp (pI rfl) (yp (U9 rfl rfl) (zf (za ?_)))))))))))));rw[show((a+l:Nat):Int)-(a:Int)=(l:Int) from by omega]
 skip
 rw[decide_eq_true (show(8:Int)≤(l:Int) from by omega)];refine zI rfl (ze (z8 (yp (pI rfl) (yp (Xp rfl (by omega)) ?_))));refine zh (Z8 fun p9=>?_);refine zh (ZO rfl rfl (uM rfl) ?_);refine zf (za (ze (z8 (yp (pI rfl) ?_))));refine zh (zk (gF hn h1 h2 (m:=l) (by omega) (by omega)) rfl rfl fun r S' h=>?_);obtain⟨q,rfl,hq1,hq2,rfl⟩:=h;refine yp (pI rfl) (zf (za (ze (z8 (yp (pI rfl) (yp (pI rfl) (yp (Vr (j:=l) (k:=4) rfl rfl (by omega) (by omega)) (yp (Vh (j:=l/4) (k:=2) rfl rfl (by omega)) (yp (Zi rfl rfl (by omega)) (yp (Zq rfl rfl (by omega)) (yp (pI rfl) (zf (za (zo ?_))))))))))))));refine Z4 (σ:=Nat) (fun i E S=>Has E [(0,.slice (some ⟨blk,0,none⟩) ln cp),(1,.int .i64 (a:Int)),(8,.int .i64 (l:Int)),(9,.pointer (some ⟨p9,0,none⟩)),(10,.int .u64 (q:Int)),(11,.int .i64 (i:Int))]∧a≤i∧i≤a+l/4*2+2∧∃N v,Sw a (a+l) M N∧zG S [sg blk ty fz N,[(p9,.cells #[.int .u64 v] tx)]]) (fun i=>a+l/4*2+2-i) (a+l/4*2-1) ⟨⟨rfl,rfl,rfl,rfl,rfl,rfl,trivial⟩,by omega,by omega,M,(l:Int),.refl,.of⟩ fun i E S ⟨hE,hi,hib,N,v,hsw,hJ⟩=>?_
 have hN:=hM.sw hsw hb;have hNl:=hsw.len;have hz:=hN.hz;obtain⟨E0,e0⟩:=zl hE; subst e0; clear hE;refine zm hJ (ze (ze (z8 (yp (pI rfl) (yp (pI rfl) (yp (pI rfl) (yp (Vr (j:=l) (k:=4) rfl rfl (by omega) (by omega)) (yp (Vh (j:=l/4) (k:=2) rfl rfl (by omega)) (yp (Zi rfl rfl (by omega)) (yp (Za rfl rfl (by omega)) (yp (Xl rfl rfl) (zf (za ?_)))))))))))));refine zO rfl (fun h=>?_) (fun h=>?_)
 ·refine zq (za (ze (zo (ze (z8 ?_)))));refine zh (zk (gD hx (xb:=p9) (tx:=tx) v) rfl rfl fun r S' h=>?_);obtain⟨v1,rfl,rfl⟩:=h;refine yp (pI rfl) (yp (sI (a:=q) (b:=1) rfl rfl (by omega) (by omega)) ?_);refine zh (rT rfl rfl (by omega) fun c hc=>?_);refine yp (JY rfl (by omega)) (yp (pI rfl) (zf (za ?_)));refine w9 (fun E S=>∃o:Nat,Has E [(0,.slice (some ⟨blk,0,none⟩) ln cp),(1,.int .i64 (a:Int)),(8,.int .i64 (l:Int)),(9,.pointer (some ⟨p9,0,none⟩)),(10,.int .u64 (q:Int)),(11,.int .i64 (i:Int)),(12,.int .i64 (o:Int))]∧o<l∧zG S [sg blk ty fz N,[(p9,.cells #[.int .u64 v1] tx)]]) ?_ fun E S ⟨o,hE,ho,hJ⟩=>?_
  ·refine ze (z8 (yp (pI rfl) (yp (pI rfl) (yp (U9 rfl rfl) (zf (za ?_))))));refine zO rfl (fun h=>?_) (fun h=>?_)
   ·refine z8 (yp (pI rfl) (yp (pI rfl) (yp (Zt rfl rfl (by omega)) (yp (pI rfl) (zf (za ?_))))));exact⟨c-l,⟨rfl,rfl,rfl,rfl,rfl,rfl,congrArg (Value.int .i64) (by omega),trivial⟩,by omega,.of⟩
   ·refine zq (za ?_);exact⟨c,⟨rfl,rfl,rfl,rfl,rfl,rfl,rfl,trivial⟩,by omega,.of⟩
  obtain⟨E0,e0⟩:=zl hE; subst e0; clear hE;refine zm hJ (zY (zi (pS rfl) (zi (pI rfl) (zi (pS rfl) (zi (pI rfl) (zi (pI rfl) (zi (Zi rfl rfl (by omega)) (zi (pS rfl) (zi (pI rfl) (zi (pI rfl) (zi (Zi rfl rfl (by omega)) (zi (zN rfl rfl (by omega)) (Z9 hl rfl (by omega) hk (zi (pS rfl) (zi (pI rfl) (zi (zN rfl rfl (by omega)) (Z9 hl rfl (by omega) hk (zi (zN rfl rfl (by omega)) ?_))))))))))))))))));refine zH (Z7 rfl (by omega) hk (hl.cells _) hz ?_) zM;refine zi (zN rfl rfl (by omega)) ?_;refine zH (Zg rfl (by omega) hk (hl.cells _) hz ?_) zM;refine zD (zT (za (z8 (yp (pI rfl) (yp (Za rfl rfl (by omega)) (yp (pI rfl) (zf (za ?_))))))));exact⟨i+1,⟨⟨rfl,rfl,rfl,rfl,rfl,rfl,trivial⟩,by omega,by omega,_,v1,hsw.step (i:=i) (j:=a+o) (by omega) (by omega) (by omega) (by omega) (by omega),.of⟩,by omega⟩
 ·refine zV (zy (zy (zW ?_)));exact ZF ZG ⟨_,.of,N,rfl,hsw,rfl⟩
end
end Go.Xs
namespace Go.Xs
open Enc (enc)
section
variable {P:Program} {α:Type} [Enc α] [Inhabited α] {ld:Operand→Wv} {k:Nat} {vl:α→Value} {cf:Nat} {caps:Array Value} {Hc:List Chunk} {p:α→Prop} {lt:α→α→Prop}
 {blk ty ln cp:Nat} {fz:Nat × Nat}
theorem Bv{f:Nat}(hf:Z6 P f 141 #[.tmp 8] (dK ld k))(hl:Ld ld vl)(hk:Enc.k α=k)(hc:Cm P cf caps Hc vl p lt){M:List α}(hM:xK fz ln p M){a b:Nat}(hab:a<b)(hb:b≤ln)(hpre:0<a→∀i,a≤i→i<b→¬lt (gt M i) (gt M (a-1))):
 Tri P f #[.slice (some ⟨blk,0,none⟩) ln cp,.int .i64 (a:Int),.int .i64 (b:Int),.func (.func cf) #[] caps] [sg blk ty fz M,Hc] (fun r S=>∃bl M',r= .bool bl∧Sw a b M M'∧(bl=true→So lt a b M')∧S=[sg blk ty fz M',Hc]):=by
 refine Tri.forget (zn hf (Nat.le_of_ble_eq_true rfl) ?_);have hlen:=hM.len;have hbig:=hM.big;unfold dK;refine ze (z8 (yp pC (zf (za (ze (z8 (yp (pI rfl) (yp (Za rfl rfl (by omega)) (yp (pI rfl) (zf (za (ze (ze (z8 (yp pC (zf (za (zo ?_))))))))))))))))));refine Z4 (σ:=Nat) (fun c E S=>∃(i:Nat) (N:List α),Has E [(0,.slice (some ⟨blk,0,none⟩) ln cp),(1,.int .i64 (a:Int)),(2,.int .i64 (b:Int)),(3,.func (.func cf) #[] caps),(9,.int .i64 (i:Int)),(10,.int .i64 (c:Int))]∧c≤5∧a+1≤i∧i≤b∧Sw a b M N∧So lt a i N∧zG S [sg blk ty fz N,Hc]) (fun c=>5-c) 0 ⟨a+1,M,⟨rfl,rfl,rfl,rfl,rfl,rfl,trivial⟩,by omega,by omega,by omega,.refl,fun x y h1 h2 h3=>by omega,.self⟩ fun c E S ⟨i,N,hE,hc5,hi,hib,hsw,hso,hJ⟩=>?_
 have hNl:=hsw.len;have hN:=hM.sw hsw hb;have hz:=hN.hz;obtain⟨E0,e0⟩:=zl hE; subst e0; clear hE;refine zm hJ (ze (ze (z8 (yp (pI rfl) (yp (ZL rfl rfl) (zf (za ?_)))))));refine zO rfl (fun h5=>?_) (fun h5=>?_)
 ·refine zq (za (ze (zo ?_)));refine w9 (fun E S=>∃(i:Nat),Has E [(0,.slice (some ⟨blk,0,none⟩) ln cp),(1,.int .i64 (a:Int)),(2,.int .i64 (b:Int)),(3,.func (.func cf) #[] caps),(9,.int .i64 (i:Int)),(10,.int .i64 (c:Int))]∧a+1≤i∧i≤b∧So lt a i N∧zG S [sg blk ty fz N,Hc]) ?_ fun E S ⟨i,hE,hi,hib,hso,hJ⟩=>?_
  ·refine zo ?_;refine Z4 (σ:=Nat) (fun i E S=>Has E [(0,.slice (some ⟨blk,0,none⟩) ln cp),(1,.int .i64 (a:Int)),(2,.int .i64 (b:Int)),(3,.func (.func cf) #[] caps),(9,.int .i64 (i:Int)),(10,.int .i64 (c:Int))]∧a+1≤i∧i≤b∧So lt a i N∧zG S [sg blk ty fz N,Hc]) (fun i=>b-i) i ⟨⟨rfl,rfl,rfl,rfl,rfl,rfl,trivial⟩,hi,hib,hso,.of⟩ fun i E S ⟨hE,hi,hib,hso,hJ⟩=>?_
   obtain⟨E0,e0⟩:=zl hE; subst e0; clear hE;refine zm hJ (ze (ze (zY (zi (pI rfl) (zi (pI rfl) (zi (ZL rfl rfl) (zi (pB rfl) ?_)))))));by_cases h0:i<b
   ·rw[decide_eq_true (show(i:Int)<(b:Int) from by omega)];refine zQ rfl (zi (pF rfl) (zQ rfl (zi (pS rfl) (zQ rfl (zi (pI rfl) (zQ rfl (zi (zN rfl rfl (by omega)) (zQ rfl (Z9 hl rfl (by omega) hk (zQ rfl (zi (pS rfl) (zQ rfl (zi (pI rfl) (zQ rfl (zi (Zq rfl rfl (by omega)) (zQ rfl (zi (zN rfl rfl (by omega)) (zQ rfl (Z9 hl rfl (by omega) hk ?_)))))))))))))))))));refine ZU rfl ?_ zM;refine zH (zk (hc.call _ _ (hN.all i (Nat.zero_le _) (by omega)) (hN.all (i-1) (Nat.zero_le _) (by omega))) rfl rfl fun r S' h=>?_) zM;obtain⟨⟨z,rfl,hzz⟩,rfl⟩:=h;refine zQ rfl (zi (ZL rfl rfl) (zQ rfl (zi (Ze rfl) (zi (zP rfl rfl) (zD (za ?_))))));refine wE rfl (fun h2=>?_) (fun h2=>?_)
    ·refine zq (za (zo (z8 (yp (pI rfl) (yp (Za rfl rfl (by omega)) (yp (pI rfl) (zf (zT (za ?_)))))))));exact⟨i+1,⟨⟨rfl,rfl,rfl,rfl,rfl,rfl,trivial⟩,by omega,by omega,hso.snoc hc.wk (by omega) (fun h=>h2 (hzz.2 h)),.of⟩,by omega⟩
    ·refine zV (zy (zy (zW (za ?_))));exact⟨i,⟨rfl,rfl,rfl,rfl,rfl,rfl,trivial⟩,hi,hib,hso,.of⟩
   ·rw[decide_eq_false (show ¬(i:Int)<(b:Int) from by omega)];refine zR rfl (zR rfl (zR rfl (zR rfl (zR rfl (zR rfl (zR rfl (zR rfl (zR rfl (zR rfl ?_)))))))));refine ZY rfl ?_ zM;refine zR rfl (zR rfl (zi (zU rfl rfl) (zD (za (zw rfl (zV (zy (zy (zW (za ?_))))))))));exact⟨i,⟨rfl,rfl,rfl,rfl,rfl,rfl,trivial⟩,hi,hib,hso,.of⟩
  obtain⟨E0,e0⟩:=zl hE; subst e0; clear hE;refine zm hJ (ze (ze (z8 (yp (pI rfl) (yp (pI rfl) (yp (WB rfl rfl) (zf (za ?_))))))));refine zO rfl (fun h6=>?_) (fun h6=>?_)
  ·refine ze (z8 (yp pC (zf (za (zL (zX (bret (zX (zX (bret (zX ?_)))))))))));have hib':i=b:=by omega
   subst hib';exact zK (rB rfl) ⟨_,.of,true,N,rfl,hsw,fun _=>hso,rfl⟩
  refine zq (za (ze (ze (z8 (yp (pI rfl) (yp (pI rfl) (yp (Zt rfl rfl (by omega)) (yp (ZL rfl rfl) (zf (za ?_))))))))));refine zO rfl (fun h7=>?_) (fun h7=>?_)
  ·refine ze (z8 (yp pC (zf (za (zL (zX (bret (zX (zX (bret (zX ?_)))))))))));exact zK (rB rfl) ⟨_,.of,false,N,rfl,hsw,Bool.noConfusion,rfl⟩
  refine zq (za (ze (zY (zi (pS rfl) (zi (pI rfl) (zi (pS rfl) (zi (pI rfl) (zi (Zq rfl rfl (by omega)) (zi (pS rfl) (zi (pI rfl) (zi (Zq rfl rfl (by omega)) (zi (zN rfl rfl (by omega)) (Z9 hl rfl (by omega) hk (zi (pS rfl) (zi (pI rfl) (zi (zN rfl rfl (by omega)) (Z9 hl rfl (by omega) hk (zi (zN rfl rfl (by omega)) ?_))))))))))))))))));refine zH (Z7 rfl (by omega) hk (hl.cells _) hz ?_) zM;refine zi (zN rfl rfl (by omega)) ?_;refine zH (Zg rfl (by omega) hk (hl.cells _) hz ?_) zM;refine zD (za ?_);have hso1:=hso.swapped (by omega) (by omega);have hsw:=hsw.step (i:=i) (j:=i-1) (by omega) (by omega) (by omega) (by omega) (by omega);obtain⟨N1,hN1⟩:∃N1,N1=swp N i (i-1):=⟨_,rfl⟩
  have eN:(N.set i (gt N (i-1))).set (i-1) (gt N i)=N1:=hN1.symm;rw[←hN1] at hsw hso1;rw[eN];clear eN hN1 hz hN hNl hso;refine w9 (fun E S=>∃N,Has E [(0,.slice (some ⟨blk,0,none⟩) ln cp),(1,.int .i64 (a:Int)),(2,.int .i64 (b:Int)),(3,.func (.func cf) #[] caps),(9,.int .i64 (i:Int)),(10,.int .i64 (c:Int))]∧Sw a b M N∧So lt a i N∧zG S [sg blk ty fz N,Hc]) ?_ fun E S ⟨N,hE,hsw,hso,hJ⟩=>?_
  ·refine ze (z8 (yp (pI rfl) (yp (pI rfl) (yp (Zt rfl rfl (by omega)) (yp (U9 rfl rfl) (zf (za ?_)))))));refine zO rfl (fun h8=>?_) (fun h8=>?_)
   ·refine ze (z8 (yp (pI rfl) (yp (Zq rfl rfl (by omega)) (yp (pI rfl) (zf (za (zo ?_)))))));refine Z4 (σ:=Nat) (fun j E S=>∃N,Has E [(0,.slice (some ⟨blk,0,none⟩) ln cp),(1,.int .i64 (a:Int)),(2,.int .i64 (b:Int)),(3,.func (.func cf) #[] caps),(9,.int .i64 (i:Int)),(10,.int .i64 (c:Int)),(11,.int .i64 (j:Int))]∧a≤j∧j<i∧Sw a b M N∧Q6 lt a i j N∧zG S [sg blk ty fz N,Hc]) (fun j=>j) (i-1) ⟨N1,⟨rfl,rfl,rfl,rfl,rfl,rfl,rfl,trivial⟩,by omega,by omega,hsw,hso1,.of⟩ fun j E S ⟨N,hE,hj,hji,hsw,hso1,hJ⟩=>?_
    have hNl:=hsw.len;have hN:=hM.sw hsw hb;have hz:=hN.hz;obtain⟨E0,e0⟩:=zl hE; subst e0; clear hE;refine zm hJ (ze (ze (z8 (yp (pI rfl) (yp (U9 rfl rfl) (zf (za ?_)))))));refine zO rfl (fun h9=>?_) (fun h9=>?_)
    ·refine zq (za (ze (zo (ze (ze (zY (zi (pF rfl) (zi (pS rfl) (zi (pI rfl) (zi (zN rfl rfl (by omega)) (Z9 hl rfl (by omega) hk (zi (pS rfl) (zi (pI rfl) (zi (Zq rfl rfl (by omega)) (zi (zN rfl rfl (by omega)) (Z9 hl rfl (by omega) hk ?_))))))))))))))));refine zH (zk (hc.call _ _ (hN.all j (Nat.zero_le _) (by omega)) (hN.all (j-1) (Nat.zero_le _) (by omega))) rfl rfl fun r S' h=>?_) zM;obtain⟨⟨z,rfl,hzz⟩,rfl⟩:=h;refine zi (ZL rfl rfl) (zi (Ze rfl) (zD (za ?_)));refine wE rfl (fun h2=>?_) (fun h2=>?_)
     ·refine zV (zy (vV rfl (zy (zy (zW (za ?_))))));exact⟨N,⟨rfl,rfl,rfl,rfl,rfl,rfl,trivial⟩,hsw,hso1.stop hc.wk hj (.inr fun h=>h2 (hzz.2 h)),.of⟩
     ·have hja:a<j:=by
       refine Nat.lt_of_le_of_ne hj fun e=>?_
       subst e;have h3:=hsw.all (p:=fun x=>¬lt x (gt M (a-1))) (hpre (by omega)) a (Nat.le_refl _) hab;rw[←hsw.out (k:=a-1) (by omega)] at h3;exact h3 (hzz.1 h2)
      refine zq (za (zY (zi (pS rfl) (zi (pI rfl) (zi (pS rfl) (zi (pI rfl) (zi (Zq rfl rfl (by omega)) (zi (pS rfl) (zi (pI rfl) (zi (Zq rfl rfl (by omega)) (zi (zN rfl rfl (by omega)) (Z9 hl rfl (by omega) hk (zi (pS rfl) (zi (pI rfl) (zi (zN rfl rfl (by omega)) (Z9 hl rfl (by omega) hk (zi (zN rfl rfl (by omega)) ?_)))))))))))))))));refine zH (Z7 rfl (by omega) hk (hl.cells _) hz ?_) zM;refine zi (zN rfl rfl (by omega)) ?_;refine zH (Zg rfl (by omega) hk (hl.cells _) hz ?_) zM;refine zD (zT (za (z8 (yp (pI rfl) (yp (Zq rfl rfl (by omega)) (yp (pI rfl) (zf (za ?_))))))));exact⟨j-1,⟨_,⟨rfl,rfl,rfl,rfl,rfl,rfl,rfl,trivial⟩,by omega,by omega,hsw.step (i:=j) (j:=j-1) (by omega) (by omega) (by omega) (by omega) (by omega),hso1.step hc.wk hja hji (by omega) (hzz.1 h2),.of⟩,by omega⟩
    ·refine zV (zy (zy (zW (za ?_))));exact⟨N,⟨rfl,rfl,rfl,rfl,rfl,rfl,trivial⟩,hsw,hso1.stop hc.wk hj (.inl (by omega)),.of⟩
   ·refine zq (za ?_);exact⟨N1,⟨rfl,rfl,rfl,rfl,rfl,rfl,trivial⟩,hsw,fun x y h1 h2 h3=>by omega,.of⟩
  have hNl:=hsw.len;have hN:=hM.sw hsw hb;obtain⟨E0,e0⟩:=zl hE; subst e0; clear hE;refine zm hJ (ze (z8 (yp (pI rfl) (yp (pI rfl) (yp (Zt rfl rfl (by omega)) (yp (U9 rfl rfl) (zf (za ?_))))))));refine zO rfl (fun h8=>?_) (fun h8=>?_)
  ·refine ze (z8 (yp (pI rfl) (yp (Za rfl rfl (by omega)) (yp (pI rfl) (zf (za (zo ?_)))))));refine Z4 (σ:=Nat) (fun j E S=>∃N,Has E [(0,.slice (some ⟨blk,0,none⟩) ln cp),(1,.int .i64 (a:Int)),(2,.int .i64 (b:Int)),(3,.func (.func cf) #[] caps),(9,.int .i64 (i:Int)),(10,.int .i64 (c:Int)),(12,.int .i64 (j:Int))]∧i+1≤j∧j≤b∧Sw a b M N∧So lt a i N∧zG S [sg blk ty fz N,Hc]) (fun j=>b-j) (i+1) ⟨N,⟨rfl,rfl,rfl,rfl,rfl,rfl,rfl,trivial⟩,by omega,by omega,hsw,hso,.of⟩ fun j E S ⟨N,hE,hj,hji,hsw,hso,hJ⟩=>?_
   have hNl:=hsw.len;have hN:=hM.sw hsw hb;have hz:=hN.hz;obtain⟨E0,e0⟩:=zl hE; subst e0; clear hE;refine zm hJ (ze (ze (z8 (yp (pI rfl) (yp (pI rfl) (yp (ZL rfl rfl) (zf (za ?_))))))));refine zO rfl (fun h9=>?_) (fun h9=>?_)
   ·refine zq (za (ze (zo (ze (ze (zY (zi (pF rfl) (zi (pS rfl) (zi (pI rfl) (zi (zN rfl rfl (by omega)) (Z9 hl rfl (by omega) hk (zi (pS rfl) (zi (pI rfl) (zi (Zq rfl rfl (by omega)) (zi (zN rfl rfl (by omega)) (Z9 hl rfl (by omega) hk ?_))))))))))))))));refine zH (zk (hc.call _ _ (hN.all j (Nat.zero_le _) (by omega)) (hN.all (j-1) (Nat.zero_le _) (by omega))) rfl rfl fun r S' h=>?_) zM;obtain⟨⟨z,rfl,hzz⟩,rfl⟩:=h;refine zi (ZL rfl rfl) (zi (Ze rfl) (zD (za ?_)));refine wE rfl (fun h2=>?_) (fun h2=>?_)
    ·refine zV (zy (vV rfl (zy (zy (zW (zT (za (z8 (yp (pI rfl) (yp (Za rfl rfl (by omega)) (yp (pI rfl) (zf (za ?_)))))))))))));exact⟨c+1,⟨i,N,⟨rfl,rfl,rfl,rfl,rfl,rfl,trivial⟩,by omega,by omega,by omega,hsw,hso,.of⟩,by omega⟩
    ·refine zq (za (zY (zi (pS rfl) (zi (pI rfl) (zi (pS rfl) (zi (pI rfl) (zi (Zq rfl rfl (by omega)) (zi (pS rfl) (zi (pI rfl) (zi (Zq rfl rfl (by omega)) (zi (zN rfl rfl (by omega)) (Z9 hl rfl (by omega) hk (zi (pS rfl) (zi (pI rfl) (zi (zN rfl rfl (by omega)) (Z9 hl rfl (by omega) hk (zi (zN rfl rfl (by omega)) ?_)))))))))))))))));refine zH (Z7 rfl (by omega) hk (hl.cells _) hz ?_) zM;refine zi (zN rfl rfl (by omega)) ?_;refine zH (Zg rfl (by omega) hk (hl.cells _) hz ?_) zM;refine zD (zT (za (z8 (yp (pI rfl) (yp (Za rfl rfl (by omega)) (yp (pI rfl) (zf (za ?_))))))));exact⟨j+1,⟨_,⟨rfl,rfl,rfl,rfl,rfl,rfl,rfl,trivial⟩,by omega,by omega,hsw.step (i:=j) (j:=j-1) (by omega) (by omega) (by omega) (by omega) (by omega),hso.congr fun k h1 h2=>by rw[ZQ (by omega) (by omega),if_neg (by omega),if_neg (by omega)],.of⟩,by omega⟩
   ·refine zV (zy (zy (zW (zT (za (z8 (yp (pI rfl) (yp (Za rfl rfl (by omega)) (yp (pI rfl) (zf (za ?_)))))))))));exact⟨c+1,⟨i,N,⟨rfl,rfl,rfl,rfl,rfl,rfl,trivial⟩,by omega,by omega,by omega,hsw,hso,.of⟩,by omega⟩
  ·refine zq (zT (za (z8 (yp (pI rfl) (yp (Za rfl rfl (by omega)) (yp (pI rfl) (zf (za ?_))))))));exact⟨c+1,⟨i,N,⟨rfl,rfl,rfl,rfl,rfl,rfl,trivial⟩,by omega,by omega,by omega,hsw,hso,.of⟩,by omega⟩
 ·refine zV (zy (zy (zW (za (ze (z8 (yp pC (zf (za (zL ?_))))))))));exact zK (rB rfl) ⟨_,.of,false,N,rfl,hsw,Bool.noConfusion,rfl⟩
/-- the functions that it calls -/
structure La(P:Program)(ld:Operand→Wv)(k f fi fh fb fc fr fp fe ft:Nat):Prop where
 main:Z6 P f 148 #[] (dJ ld k fi fh fb fc fr fp fe ft f)
 ins:Z6 P fi 53 #[] (Qc ld k)
 heap:∃fs,Z6 P fh 60 #[] (JB ld k fs)∧Z6 P fs 82 #[] (kT ld k)
 brk:∃fn fx fl fO f2 tx,Z6 P fb 67 #[] (dM ld k fn fx tx)∧Z6 P fn 7 #[.tmp 2] (Yn fl)∧Z6 P fl 8 #[.tmp 2] (Xe fO f2)∧Z6 P f2 25 #[.tmp 2] vZ∧Z6 P fx 33 #[.tmp 2] Ym
 chp:∃fa fm fo ti,Z6 P fc 63 #[.tmp 8,.tmp 9] (dL fa fm ti)∧Z6 P fa 18 #[.tmp 8] (Qb fm)∧Z6 P fm 41 #[.tmp 12] (jl fo)∧Z6 P fo 32 #[.tmp 10,.tmp 11] (xM ld k)
 rev:Z6 P fr 34 #[] (dG ld k)
 par:Z6 P fp 141 #[.tmp 8] (dK ld k)
 peq:Z6 P fe 90 #[.tmp 10] (dI ld k)
 prt:Z6 P ft 178 #[.tmp 10,.tmp 11] (dH ld k)
set_option maxHeartbeats 1000000 in
theorem oh{f fi fh fb fc fr fp fe ft:Nat}(F:La P ld k f fi fh fb fc fr fp fe ft)(hl:Ld ld vl)(hk:Enc.k α=k)(hc:Cm P cf caps Hc vl p lt):∀(m:Nat) {M:List α} (_:xK fz ln p M) {a b:Nat} (_:a≤b) (_:b≤ln) (_:0<a→∀i,a≤i→i<b→¬lt (gt M i) (gt M (a-1))) (_:b-a<m) {q:Nat} (_:q≤64),
 Tri P f #[.slice (some ⟨blk,0,none⟩) ln cp,.int .i64 (a:Int),.int .i64 (b:Int),.int .i64 (q:Int),.func (.func cf) #[] caps] [sg blk ty fz M,Hc] (fun r S=>r= .tuple #[]∧∃M',Sw a b M M'∧So lt a b M'∧S=[sg blk ty fz M',Hc]):=by
 intro m
 induction m with
 | zero=>intro M hM a b hab hb hpre hm; omega
 | succ m ih=>
 intro M hM a0 b0 hab hb hpre hm q0 hq0;obtain⟨fs,F1,F2⟩:=F.heap;obtain⟨fn,fx,fl,fO,f2,tx,F3,F4,F5,F6,F7⟩:=F.brk;obtain⟨fa,fm,fo,ti,F8,F9,F10,F11⟩:=F.chp;refine Tri.forget (zn F.main (Nat.le_of_ble_eq_true rfl) ?_);have hlen:=hM.len;have hbig:=hM.big;unfold dJ;refine ze (z8 (yp pC (zf (za (ze (z8 (yp pC (zf (za (zo ?_))))))))));refine Z4 (σ:=Nat) (fun w E S=>∃(a b q:Nat) (N:List α) (b1 b2:Bool),Has E [(0,.slice (some ⟨blk,0,none⟩) ln cp),(1,.int .i64 (a:Int)),(2,.int .i64 (b:Int)),(3,.int .i64 (q:Int)),(4,.func (.func cf) #[] caps),(10,.bool b1),(11,.bool b2)]∧b-a=w∧q≤64∧kL lt a0 b0 M a b N∧zG S [sg blk ty fz N,Hc]) (fun w=>w) (b0-a0)
  ⟨a0,b0,q0,M,true,true,⟨rfl,rfl,rfl,rfl,rfl,rfl,rfl,trivial⟩,rfl,hq0,⟨.refl,fun i j h1 h2 h3 h4=>by omega,by omega,hab,by omega,hpre⟩,.self⟩ fun w E S ⟨a,b,q,N,b1,b2,hE,hw,hq,hpi,hJ⟩=>?_
 subst hw;have haa:=hpi.aa;have hab':=hpi.ab;have hbb:=hpi.bb;have hNl:=hpi.sw.len;have hN:=hM.sw hpi.sw hb;obtain⟨E0,e0⟩:=zl hE; subst e0; clear hE;refine zm hJ (zo (ze (z8 (yp (pI rfl) (yp (pI rfl) (yp (Zt rfl rfl (by omega)) (yp (pI rfl) (zf (za (ze (ze (z8 (yp (pI rfl) (yp (Xl rfl rfl) (zf (za ?_))))))))))))))));rw[show(b:Int)-(a:Int)=((b-a:Nat):Int) from by omega]
 skip
 refine zO rfl (fun h1=>?_) (fun h1=>?_)
 ·refine ze (z8 (yp (pS rfl) (yp (pI rfl) (yp (pI rfl) (yp (pF rfl) ?_)))));refine zh (zk (Bz (blk:=blk) (ty:=ty) (cp:=cp) F.ins hl hk hc hN (a:=a) (b:=b) hab' (by omega)) rfl rfl fun r S' h=>?_);obtain⟨rfl,N2,hs2,ho2,rfl⟩:=h;refine zf (za (zL (zX (bret (zX (bret ?_))))));have h3:=hpi.keep hs2 (by omega);exact zK ZG ⟨_,.of,rfl,N2,h3.sw,h3.ou.done ho2,rfl⟩
 refine zq (za (ze (ze (z8 (yp (pI rfl) (yp (WB rfl rfl) (zf (za ?_))))))));refine zO rfl (fun h2=>?_) (fun h2=>?_)
 ·refine ze (z8 (yp (pS rfl) (yp (pI rfl) (yp (pI rfl) (yp (pF rfl) ?_)))));refine zh (zk (om (blk:=blk) (ty:=ty) (cp:=cp) F1 F2 hl hk hc hN (a:=a) (b:=b) (by omega) (by omega)) rfl rfl fun r S' h=>?_);obtain⟨rfl,N2,hs2,ho2,rfl⟩:=h;refine zf (za (zL (zX (bret (zX (bret ?_))))));have h3:=hpi.keep hs2 (by omega);exact zK ZG ⟨_,.of,rfl,N2,h3.sw,h3.ou.done ho2,rfl⟩
 refine zq (za ?_);refine w9 (fun E S=>∃(q:Nat) (N:List α),Has E [(0,.slice (some ⟨blk,0,none⟩) ln cp),(1,.int .i64 (a:Int)),(2,.int .i64 (b:Int)),(3,.int .i64 (q:Int)),(4,.func (.func cf) #[] caps),(10,.bool b1),(11,.bool b2),(12,.int .i64 ((b-a:Nat):Int))]∧q≤64∧kL lt a0 b0 M a b N∧zG S [sg blk ty fz N,Hc]) ?_ fun E S ⟨q,N,hE,hq,hpi,hJ⟩=>?_
 ·refine ze (z8 (yp (pB rfl) (yp (Ze rfl) (zf (za ?_)))));cases b1 with
  | true=>
   refine zw rfl (zq (za ?_));exact⟨q,N,⟨rfl,rfl,rfl,rfl,rfl,rfl,rfl,rfl,trivial⟩,hq,hpi,.of⟩
  | false=>
   refine zI rfl (ze (z8 (yp (pS rfl) (yp (pI rfl) (yp (pI rfl) (yp (pF rfl) ?_))))));refine zh (zk (BD (blk:=blk) (ty:=ty) (cp:=cp) F3 F4 F5 F6 F7 hl hk hN (a:=a) (b:=b) (by omega) (by omega)) rfl rfl fun r S' h=>?_);obtain⟨N2,rfl,hs2,rfl⟩:=h;refine zf (za (z8 (yp (pI rfl) (yp (Zq rfl rfl (by omega)) (yp (pI rfl) (zf (za ?_)))))));exact⟨q-1,N2,⟨rfl,rfl,rfl,congrArg (Value.int .i64) (by omega),rfl,rfl,rfl,rfl,trivial⟩,by omega,hpi.keep hs2 (by omega),.of⟩
 have hNl:=hpi.sw.len;have hN:=hM.sw hpi.sw hb;obtain⟨E0,e0⟩:=zl hE; subst e0; clear hE;refine zm hJ (ze (z8 (yp (pS rfl) (yp (pI rfl) (yp (pI rfl) (yp (pF rfl) ?_))))));refine zh (zk (BA (blk:=blk) (ty:=ty) (cp:=cp) F8 F9 F10 F11 hl hk hc hN (a:=a) (b:=b) (by omega) (by omega)) rfl rfl fun r S' h=>?_);obtain⟨pv,hint,rfl,hp1,hp2,rfl⟩:=h;refine yp (pU rfl) (yp (pExt rfl rfl) (yp (pExt rfl rfl) (yp (pI rfl) (yp (pI rfl) (zf (za ?_))))));refine w9 (fun E S=>∃(pv:Nat) (hint:Int) (N:List α),Has E [(0,.slice (some ⟨blk,0,none⟩) ln cp),(1,.int .i64 (a:Int)),(2,.int .i64 (b:Int)),(3,.int .i64 (q:Int)),(4,.func (.func cf) #[] caps),(10,.bool b1),(11,.bool b2),(12,.int .i64 ((b-a:Nat):Int)),(13,.int .i64 (pv:Int)),(14,.int .i64 hint)]∧a≤pv∧pv<b∧kL lt a0 b0 M a b N∧zG S [sg blk ty fz N,Hc]) ?_ fun E S ⟨pv,hint,N,hE,hp1,hp2,hpi,hJ⟩=>?_
 ·refine ze (z8 (yp (pI rfl) (yp (WB rfl rfl) (zf (za ?_)))));refine zO rfl (fun h3=>?_) (fun h3=>?_)
  ·refine ze (z8 (yp (pS rfl) (yp (pI rfl) (yp (pI rfl) (yp (pF rfl) ?_)))));refine zh (zk (Bq (blk:=blk) (ty:=ty) (cp:=cp) F.rev hl hk hN (a:=a) (b:=b) (by omega) (by omega)) rfl rfl fun r S' h=>?_);obtain⟨N2,rfl,hs2,rfl⟩:=h;refine zf (za (ze (z8 (yp (pI rfl) (yp (Zq rfl rfl (by omega)) (yp (pI rfl) (yp (pI rfl) (yp (Zt rfl rfl (by omega)) (yp (Zt rfl rfl (by omega)) (yp (pI rfl) (zf (za (z8 (yp pC (zf (za ?_))))))))))))))));refine⟨b-1-(pv-a),1,N2,⟨rfl,rfl,rfl,rfl,rfl,rfl,rfl,rfl,?_,rfl,trivial⟩,by omega,by omega,hpi.keep hs2 (by omega),.of⟩;exact congrArg (Value.int .i64) (by omega)
  ·refine zq (za ?_);exact⟨pv,hint,N,⟨rfl,rfl,rfl,rfl,rfl,rfl,rfl,rfl,rfl,rfl,trivial⟩,hp1,hp2,hpi,.of⟩
 have hNl:=hpi.sw.len;have hN:=hM.sw hpi.sw hb;obtain⟨E0,e0⟩:=zl hE; subst e0; clear hE;refine zm hJ ?_;refine UH (fun E S=>∃(N:List α),Has E [(0,.slice (some ⟨blk,0,none⟩) ln cp),(1,.int .i64 (a:Int)),(2,.int .i64 (b:Int)),(3,.int .i64 (q:Int)),(4,.func (.func cf) #[] caps),(10,.bool b1),(11,.bool b2),(12,.int .i64 ((b-a:Nat):Int)),(13,.int .i64 (pv:Int))]∧kL lt a0 b0 M a b N∧zG S [sg blk ty fz N,Hc]) ?_ fun E S ⟨N,hE,hpi,hJ⟩=>?_
 ·cases b1 with
  | false=>
   refine ze (z8 (yp (pB rfl) (yp (pB rfl) (Z5 rfl (yp (zU rfl rfl) (yp (pB rfl) (Z5 rfl (Z5 rfl (yp (zU rfl rfl) (zf (za (zw rfl (zq (za ?_))))))))))))));exact⟨N,⟨rfl,rfl,rfl,rfl,rfl,rfl,rfl,rfl,rfl,trivial⟩,hpi,.of⟩
  | true=>
  cases b2 with
  | false=>
   refine ze (z8 (yp (pB rfl) (yp (pB rfl) (Z0 rfl (Zc (pB rfl) (yp (zP rfl rfl) (yp (pB rfl) (Z5 rfl (Z5 rfl (yp (zU rfl rfl) (zf (za (zw rfl (zq (za ?_)))))))))))))));exact⟨N,⟨rfl,rfl,rfl,rfl,rfl,rfl,rfl,rfl,rfl,trivial⟩,hpi,.of⟩
  | true=>
  refine ze (z8 (yp (pB rfl) (yp (pB rfl) (Z0 rfl (Zc (pB rfl) (yp (zP rfl rfl) (yp (pB rfl) (Z0 rfl (Zc (pI rfl) (Z0 rfl (Zc (WB rfl rfl) (yp (zP rfl rfl) (zf (za ?_))))))))))))));refine zO rfl (fun h3=>?_) (fun h3=>?_)
  ·refine ze (z8 (yp (pS rfl) (yp (pI rfl) (yp (pI rfl) (yp (pF rfl) ?_)))));refine zh (zk (Bv (blk:=blk) (ty:=ty) (cp:=cp) F.par hl hk hc hN (a:=a) (b:=b) (by omega) (by omega) hpi.pre) rfl rfl fun r S' h=>?_);obtain⟨bl,N2,rfl,hs2,ho2,rfl⟩:=h;have h4:=hpi.keep hs2 (by omega);cases bl with
   | true=>
    refine zf (za (zI rfl (zL (zX (bret (zX (bret ?_)))))));exact zK ZG ⟨_,.of,rfl,N2,h4.sw,h4.ou.done (ho2 rfl),rfl⟩
   | false=>
    refine zf (za (zw rfl (zq (za ?_))));exact⟨N2,⟨rfl,rfl,rfl,rfl,rfl,rfl,rfl,rfl,rfl,trivial⟩,h4,.of⟩
  ·refine zq (za ?_);exact⟨N,⟨rfl,rfl,rfl,rfl,rfl,rfl,rfl,rfl,rfl,trivial⟩,hpi,.of⟩
 have hNl:=hpi.sw.len;have hN:=hM.sw hpi.sw hb;obtain⟨E0,e0⟩:=zl hE; subst e0; clear hE;refine zm hJ ?_;refine UH (fun E S=>Has E [(0,.slice (some ⟨blk,0,none⟩) ln cp),(1,.int .i64 (a:Int)),(2,.int .i64 (b:Int)),(3,.int .i64 (q:Int)),(4,.func (.func cf) #[] caps),(10,.bool b1),(11,.bool b2),(12,.int .i64 ((b-a:Nat):Int)),(13,.int .i64 (pv:Int))]∧zG S [sg blk ty fz N,Hc]) ?_ fun E S ⟨hE,hJ⟩=>?_
 ·refine ze (zY (zi (pI rfl) (zi (VE rfl rfl) (zi (pB rfl) ?_))));by_cases h3:0<a
  ·rw[decide_eq_true (show(0:Int)<(a:Int) from by omega)];refine zQ rfl (zi (pF rfl) (zQ rfl (zi (pS rfl) (zQ rfl (zi (pI rfl) (zQ rfl (zi (Zq rfl rfl (by omega)) (zQ rfl (zi (zN rfl rfl (by omega)) (zQ rfl (Z9 hl rfl (by omega) hk (zQ rfl (zi (pS rfl) (zQ rfl (zi (pI rfl) (zQ rfl (zi (zN rfl rfl (by omega)) (zQ rfl (Z9 hl rfl (by omega) hk ?_)))))))))))))))))));refine ZU rfl ?_ zM;refine zH (zk (hc.call _ _ (hN.all (a-1) (Nat.zero_le _) (by omega)) (hN.all pv (Nat.zero_le _) (by omega))) rfl rfl fun r S' h=>?_) zM;obtain⟨⟨z,rfl,hzz⟩,rfl⟩:=h;refine zQ rfl (zi (ZL rfl rfl) (zQ rfl (zi (Ze rfl) (zi (zP rfl rfl) (zD (za ?_))))));refine wE rfl (fun h4=>?_) (fun h4=>?_)
   ·refine ze (z8 (yp (pS rfl) (yp (pI rfl) (yp (pI rfl) (yp (pI rfl) (yp (pF rfl) ?_))))));refine zh (zk (Bu (blk:=blk) (ty:=ty) (cp:=cp) F.peq hl hk hc hN hp1 hp2 (by omega) (fun q h5 h6=>hc.wk.tr _ _ _ (hpi.pre h3 q h5 h6) fun h=>h4 (hzz.2 h))) rfl rfl fun r S' h=>?_);obtain⟨mid,N2,rfl,hs2,he2,rfl⟩:=h;refine yp (pI rfl) (zf (za (ze (z8 (yp (pI rfl) (yp (pI rfl) (zf (za (zV (zy (zW (za ?_))))))))))));have h5:=he2.am;have h6:=he2.mb;exact⟨b-mid,⟨mid,b,q,N2,b1,b2,⟨rfl,rfl,rfl,rfl,rfl,rfl,rfl,trivial⟩,rfl,hq,(hpi.keep hs2 (by omega)).eqd he2,.of⟩,by omega⟩
   ·refine zq (za ?_);exact⟨⟨rfl,rfl,rfl,rfl,rfl,rfl,rfl,rfl,rfl,trivial⟩,.of⟩
  ·rw[decide_eq_false (show ¬(0:Int)<(a:Int) from by omega)];refine zR rfl (zR rfl (zR rfl (zR rfl (zR rfl (zR rfl (zR rfl (zR rfl (zR rfl (zR rfl ?_)))))))));refine ZY rfl ?_ zM;refine zR rfl (zR rfl (zi (zU rfl rfl) (zD (za (zw rfl (zq (za ?_)))))));exact⟨⟨rfl,rfl,rfl,rfl,rfl,rfl,rfl,rfl,rfl,trivial⟩,.of⟩
 obtain⟨E0,e0⟩:=zl hE; subst e0; clear hE;refine zm hJ (ze (z8 (yp (pS rfl) (yp (pI rfl) (yp (pI rfl) (yp (pI rfl) (yp (pF rfl) ?_)))))));refine zh (zk (Br (blk:=blk) (ty:=ty) (cp:=cp) F.prt hl hk hc hN hp1 hp2 (by omega)) rfl rfl fun r S' h=>?_);obtain⟨mid,bl,N2,rfl,hs2,hpt,rfl⟩:=h;have hpi2:=hpi.keep hs2 (by omega);have hN2l:=hpi2.sw.len;have hN2:=hM.sw hpi2.sw hb;have h5:=hpt.am;have h6:=hpt.mb;refine yp (pU rfl) (yp (pExt rfl rfl) (yp (pExt rfl rfl) (yp (pI rfl) (yp (pB rfl) (zf (za (ze (z8 (yp (pB rfl) (yp (pB rfl) (zf (za (ze (z8 (yp (pI rfl) (yp (pI rfl) (yp (Zt rfl rfl (by omega)) (yp (pI rfl) (yp (pI rfl) (yp (Zt rfl rfl (by omega)) (yp (pI rfl) (yp (pI rfl) (zf (za (ze (z8 (yp (pI rfl) (yp (Vr (j:=b-a) (k:=8) rfl rfl (by omega) (by omega)) (yp (pI rfl) (zf (za (ze (z8 (yp (pI rfl) (yp (pI rfl) (yp (ZL rfl rfl) (zf (za ?_))))))))))))))))))))))))))))))))))))));refine zO rfl (fun h7=>?_) (fun h7=>?_)
 ·refine ze (z8 (yp (pI rfl) (yp (pI rfl) (yp (U9 rfl rfl) (yp (pB rfl) (zf (za (ze (z8 (yp (pS rfl) (yp (pI rfl) (yp (pI rfl) (yp (pI rfl) (yp (pF rfl) ?_))))))))))))));refine zh (zk (ih hN2 (a:=a) (b:=mid) h5 (by omega) (fun h0 i h8 h9=>hpi2.pre h0 i h8 (by omega)) (by omega) hq) rfl rfl fun r S' h=>?_);obtain⟨rfl,N3,hs3,ho3,rfl⟩:=h;refine zf (za (z8 (yp (pI rfl) (yp (Za rfl rfl (by omega)) (yp (pI rfl) (zf (zT (za ?_))))))));exact⟨b-(mid+1),⟨mid+1,b,q,N3,_,bl,⟨rfl,rfl,rfl,rfl,rfl,rfl,rfl,trivial⟩,rfl,hq,hpi2.left hc.wk hpt hs3 ho3 (by omega),.of⟩,by omega⟩
 ·refine ze (z8 (yp (pI rfl) (yp (pI rfl) (yp (U9 rfl rfl) (yp (pB rfl) (zf (za (ze (z8 (yp (pS rfl) (yp (pI rfl) (yp (Za rfl rfl (by omega)) (yp (pI rfl) (yp (pI rfl) (yp (pF rfl) ?_)))))))))))))));refine zh (zk (ih hN2 (a:=mid+1) (b:=b) (by omega) (by omega) (fun h0 i h8 h9=>hpt.hi i (by omega) h9) (by omega) hq) rfl rfl fun r S' h=>?_);obtain⟨rfl,N3,hs3,ho3,rfl⟩:=h;refine zf (za (z8 (yp (pI rfl) (yp (pI rfl) (zf (zT (za ?_)))))));exact⟨mid-a,⟨a,mid,q,N3,_,bl,⟨rfl,rfl,rfl,rfl,rfl,rfl,rfl,trivial⟩,rfl,hq,hpi2.right hc.wk hpt hs3 ho3 (by omega),.of⟩,by omega⟩
theorem Bw{f fi fh fb fc fr fp fe ft:Nat}(F:La P ld k f fi fh fb fc fr fp fe ft){a:Option Addr}{c:Nat}{q:Int}:Tri P f #[.slice a 0 c,.int .i64 0,.int .i64 0,.int .i64 q,.func (.func cf) #[] caps] [] (fun r S=>r= .tuple #[]∧S=[]):=by
 have hi:Tri P fi #[.slice a 0 c,.int .i64 0,.int .i64 0,.func (.func cf) #[] caps] [] (fun r S=>r= .tuple #[]∧S=[]):=by
  refine Tri.forget (zn F.ins (Nat.le_of_ble_eq_true rfl) ?_);unfold Qc;refine ze (z8 (yp (pI rfl) (yp (Vo rfl rfl (by omega)) (yp (pI rfl) (zf (za (zo ?_)))))));refine Z4 (σ:=Nat) (fun i E S=>Has E [(2,.int .i64 0),(8,.int .i64 1)]∧zG S []) (fun i=>0) 0 ⟨⟨rfl,rfl,trivial⟩,.self⟩ fun i E S ⟨hE,hJ⟩=>?_
  obtain⟨E0,e0⟩:=zl hE; subst e0; clear hE;refine zm hJ (ze (ze (z8 (yp (pI rfl) (yp (pI rfl) (yp (ZL rfl rfl) (zf (za (zw rfl (zV (zy (zy (zW ?_)))))))))))));rw[decide_eq_false (show ¬(1:Int)<0 from by decide)]
  skip
  exact ZF ZG ⟨_,.of,rfl,rfl⟩
 refine Tri.forget (zn F.main (Nat.le_of_ble_eq_true rfl) ?_);unfold dJ;refine ze (z8 (yp pC (zf (za (ze (z8 (yp pC (zf (za (zo ?_))))))))));refine Z4 (σ:=Nat) (fun i E S=>Has E [(0,.slice a 0 c),(1,.int .i64 0),(2,.int .i64 0),(4,.func (.func cf) #[] caps)]∧zG S []) (fun i=>0) 0 ⟨⟨rfl,rfl,rfl,rfl,trivial⟩,.self⟩ fun i E S ⟨hE,hJ⟩=>?_
 obtain⟨E0,e0⟩:=zl hE; subst e0; clear hE;refine zm hJ (zo (ze (z8 (yp (pI rfl) (yp (pI rfl) (yp (Zt rfl rfl (by omega)) (yp (pI rfl) (zf (za (ze (ze (z8 (yp (pI rfl) (yp (Xl rfl rfl) (zf (za (zI rfl (ze (z8 (yp (pS rfl) (yp (pI rfl) (yp (pI rfl) (yp (pF rfl) ?_)))))))))))))))))))))));rw[decide_eq_true (show(0:Int)-0≤12 from by decide)]
 skip
 refine zh (zk hi rfl rfl fun r S' h=>?_);obtain⟨rfl,rfl⟩:=h;refine zf (za (zL (zX (bret (zX (bret ?_))))));exact zK ZG ⟨_,.of,rfl,rfl⟩
omit [Enc α] in
theorem WZ{L sp:List α}{i:Nat}(h:i<L.length):gt (L++sp) i=gt L i:=by
 rw[Uk (by simp; omega),Uk h,List.getElem_append_left h]
omit [Enc α] in
/-- swaps in the front part leave the rest -/
theorem Sw.front{L sp M:List α}(h:Sw 0 L.length (L++sp) M):∃L',M=L'++sp∧L'.Perm L:=by
 induction h with
 | refl=>exact⟨L,rfl,.refl _⟩
 | step h hi hi' hj hj' hb ih=>
  rename_i M i j
  obtain⟨L',rfl,hp⟩:=ih;have hl:=hp.length_eq;refine⟨swp L' i j,?_,(jA (by omega) (by omega)).trans hp⟩;unfold swp;rw[WZ (by omega),WZ (by omega),List.set_append_left _ _ (by omega),List.set_append_left _ _ (by simp; omega)]
/-- SortFunc: the same elements, in order -/
theorem aV{f fl fO f2 fm fi fh fb fc fr fp fe ft:Nat}(hf:Z6 P f 14 #[] (Qa fl fm))(h1:Z6 P fl 8 #[.tmp 2] (Xe fO f2))(h2:Z6 P f2 25 #[.tmp 2] vZ)(F:La P ld k fm fi fh fb fc fr fp fe ft)(hl:Ld ld vl)(hk:Enc.k α=k)(hc:Cm P cf caps Hc vl p lt)
 {v:Value} {L:List α} {H:List Chunk} (hL:Zf ty v L H) (hlen:L.length<2 ^ 39) (hp:∀x∈L,p x):
 Tri P f #[v,.func (.func cf) #[] caps] [H,Hc] (fun r S=>r= .tuple #[]∧∃L' H',L'.Perm L∧L'.Pairwise (fun a b=>¬lt b a)∧Zf ty v L' H'∧S=[H',Hc]):=by
 refine Tri.forget (zn hf (Nat.le_of_ble_eq_true rfl) ?_);unfold Qa;rcases hL.inv with⟨rfl,rfl,rfl⟩ | ⟨b,sp,fz,hz,rfl,rfl⟩
 ·refine ze (z8 (yp (pS rfl) (yp (Zz rfl) (yp (pI rfl) (zf (za (z8 (yp (pS rfl) (yp (pI rfl) (yp (pI rfl) (yp (Xp (j:=0) rfl (by omega)) ?_)))))))))));refine zh (zk (xX h1 h2 (m:=0) (by omega)) rfl rfl fun r S' h=>?_);obtain⟨l,rfl,hl8,hi,rfl⟩:=h;refine yp (pF rfl) ?_;refine zh (zk (Bw (a:=none) (c:=0) (q:=(l:Int)) F) rfl rfl fun r S' h=>?_);obtain⟨rfl,rfl⟩:=h;refine zf ?_;exact ZF ZG ⟨[[],Hc],.of,rfl,[],[],.refl _,.nil,.nil,rfl⟩
 ·refine ze (z8 (yp (pS rfl) (yp (Zz rfl) (yp (pI rfl) (zf (za (z8 (yp (pS rfl) (yp (pI rfl) (yp (pI rfl) (yp (Xp (j:=L.length) rfl (by omega)) ?_)))))))))));refine zh (zk (xX h1 h2 (m:=L.length) (by omega)) rfl rfl fun r S' h=>?_);obtain⟨l,rfl,hl8,hi,rfl⟩:=h;refine yp (pF rfl) ?_;refine zh (zk (oh (blk:=b) (ty:=ty) (cp:=L.length+sp.length) (fz:=fz) (ln:=L.length) F hl hk hc (L.length+1) (M:=L++sp) ⟨by simp,by omega,hz,fun i _ h=>?_⟩ (a:=0) (b:=L.length) (by omega) (by omega) (fun h=>absurd h (by omega)) (by omega) (q:=l) (by omega)) rfl rfl fun r S' h=>?_)
  ·rw[WZ h];exact hp _ (Cb h)
  obtain⟨rfl,M',hsw,hso,rfl⟩:=h;obtain⟨L',rfl,hpm⟩:=hsw.front;refine zf ?_;have hll:=hpm.length_eq;refine ZF ZG ⟨[sg b ty fz (L'++sp),Hc],.of,rfl,L',_,hpm,?_,?_,rfl⟩
  ·rw[List.pairwise_iff_getElem];intro i j hi hj hij;have:=hso i j (Nat.zero_le _) hij (by omega)
   rwa [WZ hi,WZ hj,Uk hi,Uk hj] at this
  ·rw[←hll];exact .row (by rw[zJ] at hz ⊢; simp at hz ⊢; rw[hll]; exact hz)
end
end Go.Xs
