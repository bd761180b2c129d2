/- The arena (chapter 6): contracts of its small functions. The arena (chapter 6): its memory, and the functions that touch it. The arena (chapter 6): what a handle is, Free, Size, part, Read, Write, Handles. The arena (chapter 6): part, Read, Write, Handles. The arena (chapter 6): Handles, and the order of its blocks. -/
import Derived.Test.YtekgciopamkjlaaGreatB3
import Derived.Test.YtekgciopamkjlaaGreatFArena
import Derived.Test.YtekgciopamkjlaaGreatFSort
import Derived.Test.YtekgciopamkjlaaGreatB5
namespace Go.Proofs.YtekgciopamkjlaaGreat
open Go.Xs
open Enc (enc)
/-- what a block takes -/
def Z6(n:Nat):Nat:=if n+8≤16 then 16 else if n+8≤32 then 32 else if n+8≤64 then 64 else if n+8≤128 then 128 else if n+8≤256 then 256 else
 if n+8≤512 then 512 else if n+8≤1024 then 1024 else if n+8≤2048 then 2048 else if n+8≤4096 then 4096 else 8192
def cost(n:Int):Int:=if n<0∨4096<n then 0 else Z6 n.toNat
def Pow(c:Nat):Prop:=c=16∨c=32∨c=64∨c=128∨c=256∨c=512∨c=1024∨c=2048∨c=4096∨c=8192
theorem wS(n:Nat)(hn:n≤4096):Pow (Z6 n)∧n+8≤Z6 n∧(Z6 n=16∨Z6 n<2*(n+8)):=by
 unfold Z6 Pow
 repeat' split
 all_goals omega
theorem KT{n c:Nat}(hn:n≤4096)(hp:Pow c)(h1:n+8≤c)(h2:c=16∨c<2*(n+8)):Z6 n=c:=by
 unfold Z6;unfold Pow at hp
 repeat' split
 all_goals omega
theorem xO(n:Int):Tri Tryz.prog 53 #[.int .i64 n] [] (fun r S=>r= .int .i64 (cost n)∧S=[]):=by
 refine Tri.forget (zB Tryz.Bu (Nat.le_of_ble_eq_true rfl) ?_);unfold Tryz.D7;refine ze (z8 (yp pC (zf (za (ze (ze (z8 (yp (pI rfl) (yp (w9 rfl rfl) (yp (pB rfl) ?_))))))))));by_cases h1:n<0
 ·rw[decide_eq_true h1];refine zJ rfl (zJ rfl (yp (zD rfl rfl) (zf (za (zC rfl (ze (z8 (yp pC (zf (za (zH (zP ?_))))))))))));exact zG (rI rfl) ⟨_,.of,by rw[cost,if_pos (.inl h1)],rfl⟩
 rw[decide_eq_false h1];refine zV rfl (zZ (pI rfl) (zV rfl (zZ (Va rfl rfl) (yp (zL rfl rfl) (zf (za ?_))))));by_cases h2:4096<n
 ·rw[decide_eq_true h2];refine zC rfl (ze (z8 (yp pC (zf (za (zH (zP ?_)))))));exact zG (rI rfl) ⟨_,.of,by rw[cost,if_pos (.inr h2)],rfl⟩
 rw[decide_eq_false h2];obtain⟨m,rfl⟩:=Int.eq_ofNat_of_zero_le (show 0≤n from by omega);refine zA rfl (zx (za (ze (z8 (yp pC (zf (za (ze (zw ?_)))))))));refine Z7 (σ:=Nat) (fun c E S=>Has E [(0,.int .i64 m),(3,.int .i64 c)]∧Pow c∧(c=16∨c<2*(m+8))∧zM S []) (fun c=>16384-c) 16 ⟨⟨rfl,rfl,trivial⟩,.inl rfl,.inl rfl,.self⟩ fun c E S ⟨hE,hp,hc,hJ⟩=>?_
 have hcb:c≤8192:=by unfold Pow at hp; omega
 obtain⟨E0,e0⟩:=zu hE; subst e0; clear hE;refine zy hJ (ze (ze (z8 (yp (pI rfl) (yp (pI rfl) (yp (vY rfl rfl (by omega)) (yp (w9 rfl rfl) (zf (za ?_)))))))));refine zU rfl (fun h=>?_) (fun h=>?_)
 ·refine zx (za (zw (z8 (yp (pI rfl) ?_))));refine yp (v:= .int .i64 ((c*2:Nat):Int)) ?_ ?_
  ·rw[au (m:=(c:Int)) (n:=2) rfl rfl (by omega)];congr 2
  refine yp (pI rfl) (zf (zY (za ?_)));exact⟨c*2,⟨⟨rfl,rfl,trivial⟩,by unfold Pow at hp ⊢; omega,by omega,.of⟩,by unfold Pow at hp; omega⟩
 ·refine Z0 (zF (zF (Z4 (za (ze (z8 (yp (pI rfl) (yp (pI rfl) (zf (za (zH ?_)))))))))));refine zG (rI rfl) ⟨_,.of,?_,rfl⟩;rw[cost,if_neg (by omega),Int.toNat_natCast,KT (c:=c) (by omega) hp (by omega) hc]
abbrev ZM(ab:Nat)(bv kv:Value)(used top:Int):List Chunk:=[(ab,.cells #[bv,kv,.int .i64 used,.int .i64 top] 120)]
/-- is there such a block? -/
def l7(K:List (Int × Int))(h:Int):Bool:=decide (1≤h) && (match K[(h-1).toNat]? with | some e=>decide (0<e.1) | none=>false)
theorem Xn{ab:Nat}{bv kv:Value}{used top:Int}{K:List (Int × Int)}{H:List Chunk}(hK:Zf 163 kv K H)(hlen:K.length<2 ^ 40)(h:Int):
 Tri Tryz.prog 118 #[.pointer (some ⟨ab,0,none⟩),.int .i64 h] [ZM ab bv kv used top,H] (fun r S=>r= .bool (l7 K h)∧S=[ZM ab bv kv used top,H]):=by
 refine Tri.forget (zB Tryz.rC (Nat.le_of_ble_eq_true rfl) ?_);unfold Tryz.mG;obtain⟨a,c,rfl⟩:=hK.isSlice;refine ze (z8 (yp pC (zf (za (ze (z8 (yp (pP rfl) (yp (jM rfl rfl) (yp (pB rfl) (zV rfl (zZ (pI rfl) (zV rfl (zZ (yO rfl rfl) (yp (zD rfl rfl) (yp (pB rfl) ?_)))))))))))))));by_cases h1:1≤h
 ·rw[decide_eq_true h1];refine zV rfl (zZ (pI rfl) (zV rfl (zZ (pP rfl) (zV rfl (zZ (zQ rfl) (zV rfl (zZ (zl rfl) (zV rfl ?_))))))));refine(zo rfl rfl ?_);refine zV rfl (zZ (Zq rfl) (zV rfl (zZ (K7 rfl rfl) (yp (zD rfl rfl) (yp (pB rfl) ?_)))));by_cases h2:h≤(K.length:Int)
  ·rw[decide_eq_true h2];have hlt:(h-1).toNat<K.length:=by omega
   obtain⟨bb,sp,fz,hz,rfl,_,rfl,rfl⟩:=hK.at' (by intro h; simp[h] at hlt);obtain⟨i,hi⟩:∃i:Nat,h=(i:Int)+1:=⟨(h-1).toNat,by omega⟩
   subst hi;have hti:((i:Int)+1-1).toNat=i:=by omega
   rw[hti] at hlt;refine zV rfl (zZ (pP rfl) (zV rfl (zZ (zQ rfl) (zV rfl (zZ (zl rfl) (zV rfl ?_))))));refine(zo rfl rfl ?_);refine zV rfl (zZ (pI rfl) (zV rfl (zZ (wU rfl rfl (by omega)) (zV rfl ?_))));rw[show((i:Int)+1-1)=(i:Int) from by omega];refine zZ (zT rfl rfl (by omega)) (zV rfl (zZ (zl rfl) (zV rfl (zo (v:= .int .i64 K[i].1) rfl ((Zn (kk:=2) (j:=0) hlt rfl (by omega)).trans rfl) (zV rfl (zZ (Va rfl rfl) (yp (zD rfl rfl) (yp (pB rfl) (zf (za (zH ?_)))))))))));refine zG (rB rfl) ⟨_,.of,?_,rfl⟩;rw[l7,decide_eq_true h1,hti,List.getElem?_eq_getElem hlt];rfl
  ·rw[decide_eq_false h2];refine zJ rfl (zJ rfl (zJ rfl (zJ rfl (zJ rfl (zJ rfl (zJ rfl (zJ rfl (zJ rfl (zJ rfl (yp (zL rfl rfl) (yp (pB rfl) (zf (za (zH ?_))))))))))))));refine zG (rB rfl) ⟨_,.of,?_,rfl⟩;rw[l7,List.getElem?_eq_none (by omega)];simp
 ·rw[decide_eq_false h1];refine zJ rfl (zJ rfl (zJ rfl (zJ rfl (zJ rfl (zJ rfl (zJ rfl (yp (zL rfl rfl) (yp (pB rfl) (zJ rfl (zJ rfl (zJ rfl (zJ rfl (zJ rfl (zJ rfl (zJ rfl (zJ rfl (zJ rfl (zJ rfl (yp (zL rfl rfl) (yp (pB rfl) (zf (za (zH ?_)))))))))))))))))))))));refine zG (rB rfl) ⟨_,.of,?_,rfl⟩;rw[l7,decide_eq_false h1]; rfl
theorem bB{ab:Nat}{bv kv:Value}{used top:Int}:Tri Tryz.prog 21 #[.pointer (some ⟨ab,0,none⟩)] [ZM ab bv kv used top] (fun r S=>r= .int .i64 used∧S=[ZM ab bv kv used top]):=by
 refine Tri.forget (zB Tryz.BP (Nat.le_of_ble_eq_true rfl) ?_);unfold Tryz.x21;refine ze (z8 (yp pC (zf (za (ze (ze (z8 (yp (pP rfl) (yp (Ye rfl rfl) (zf (za (zA rfl (zx (za (ze (z8 (yp (pP rfl) (yp (zQ rfl) (yp (zl rfl) ?_)))))))))))))))))));refine zh (zo rfl rfl ?_);refine yp (pI rfl) (zf (za (zH ?_)));exact zG (rI rfl) ⟨_,.of,rfl,rfl⟩
theorem bG{ab:Nat}{bv kv:Value}{used top:Int}{B:List UInt8}{H:List Chunk}(hB:Zf 5 bv B H):Tri Tryz.prog 144 #[.pointer (some ⟨ab,0,none⟩)] [ZM ab bv kv used top] (fun r S=>r= .int .i64 B.length∧S=[ZM ab bv kv used top]):=by
 refine Tri.forget (zB Tryz.pV (Nat.le_of_ble_eq_true rfl) ?_);unfold Tryz.lZ;obtain⟨a,c,rfl⟩:=hB.isSlice;refine ze (z8 (yp pC (zf (za (ze (ze (z8 (yp (pP rfl) (yp (Ye rfl rfl) (zf (za (zA rfl (zx (za (ze (z8 (yp (pP rfl) (yp (zQ rfl) (yp (zl rfl) ?_)))))))))))))))))));refine zh (zo rfl rfl ?_);refine yp (Zq rfl) (yp (pI rfl) (zf (za (zH ?_))));exact zG (rI rfl) ⟨_,.of,rfl,rfl⟩
theorem bD{ab:Nat}{bv kv:Value}{used top:Int}{B:List UInt8}{H:List Chunk}(hB:Zf 5 bv B H)(hl:B.length<2 ^ 40)(hu:0≤used∧used<2 ^ 40):Tri Tryz.prog 104 #[.pointer (some ⟨ab,0,none⟩)] [ZM ab bv kv used top] (fun r S=>r= .int .i64 (B.length-used)∧S=[ZM ab bv kv used top]):=by
 refine Tri.forget (zB Tryz.rY (Nat.le_of_ble_eq_true rfl) ?_);unfold Tryz.x104;refine ze (z8 (yp pC (zf (za (ze (z8 (yp (pP rfl) ?_)))))));refine zh (zm (bG (ab:=ab) (kv:=kv) (used:=used) (top:=top) hB) rfl rfl fun r S' h=>?_);obtain⟨rfl,rfl⟩:=h;refine yp (pP rfl) ?_;refine zh (zm (bB (ab:=ab) (bv:=bv) (kv:=kv) (used:=used) (top:=top)) rfl rfl fun r S' h=>?_);obtain⟨rfl,rfl⟩:=h;refine yp (wU rfl rfl (by omega)) (yp (pI rfl) (zf (za (zH ?_))));exact zG (rI rfl) ⟨_,.of,rfl,rfl⟩
theorem DC{E:Env}{S:zq}{t u:Tmp}{p:Option Addr}{k:IntKind}{a:Int}(hv:E t= .pointer p)(hv':E u= .int k a):X5 Tryz.prog #[.tmp t,.tmp u] E S (.tuple #[.pointer p,.int k a]):=res2 hv hv'
/-- New -/
theorem sP{n:Nat}(hn:1024≤n∧n≤1048576){z:Int}(hz:z=n):Tri Tryz.prog 48 #[.int .i64 z] [] (fun r S=>∃ab bb,r= .tuple #[.pointer (some ⟨ab,0,none⟩),.int .i64 0]∧S=[ZM ab (.slice (some ⟨bb,0,none⟩) n n) (.slice none 0 0) 0 0,[(bb,.cells (cells (List.replicate n (0:UInt8))).toArray 5)]]):=by
 refine Tri.forget (zB Tryz.BD (Nat.le_of_ble_eq_true rfl) ?_);unfold Tryz.Dc;refine ze (z8 (yp pC (yp pC (zf (za (ze (ze (z8 (yp (pI rfl) (yp (w9 rfl rfl) (yp (pB rfl) ?_)))))))))));rw[decide_eq_false (show ¬z<1024 from by omega)];refine zV rfl (zZ (pI rfl) (zV rfl (zZ (Va rfl rfl) (yp (zL rfl rfl) (zf (za ?_))))));rw[decide_eq_false (show ¬1048576<z from by omega)];refine zA rfl (zx (za (ze (z8 (yp (pI rfl) ?_)))));subst hz;refine zh (eu (m:=n) (cap:=n) rfl rfl (Nat.le_refl _) rfl (by omega) (by omega) fun bb=>?_);rw[uz (z:=[.int .u8 0]) n (0:UInt8) rfl];refine yp (v:= .agg #[.slice (some ⟨bb,0,none⟩) n n,.slice none 0 0,.int .i64 0,.int .i64 0]) rfl ?_;refine zh (Wp rfl fun p13=>?_);refine yp (pP rfl) (yp pC (zf (za (zH ?_))));exact zG (DC rfl rfl) ⟨_,.of,_,bb,rfl,rfl⟩
abbrev Bt:=List UInt8
abbrev Tab:=List (Option (Nat × Bt))
def ent:Option (Nat × Bt)→Int × Int
 | none=>(0,0)
 | some (p,b)=>((p:Int)+8,((b.length:Nat):Int))
def Vf(T:Tab):List (Int × Int):=T.map ent
def wz(T:Tab):List (Option Bt):=T.map (Option.map Prod.snd)
def X6:Option Bt→Nat
 | none=>0
 | some b=>Z6 b.length
def Z8(D:List (Option Bt)):Nat:=(D.map X6).sum
structure Inv(N:Nat)(T:Tab)(B:Bt)(used top:Nat):Prop where
 len:B.length=N
 big:1024≤N∧N≤1048576
 few:T.length*16≤N
 ut:used≤top
 tn:top≤N
 sum:used=Z8 (wz T)
 inn:∀(i p:Nat) (b:Bt),T[i]?=some (some (p,b))→b.length≤4096∧p+Z6 b.length≤top∧∀x,x<b.length→B[p+8+x]?=b[x]?
 apart:∀(i j p:Nat) (b:Bt) (q:Nat) (c:Bt),i≠j→T[i]?=some (some (p,b))→T[j]?=some (some (q,c))→p+Z6 b.length≤q∨q+Z6 c.length≤p
/-- what a handle's block holds -/
def Zb(D:List (Option Bt))(h:Int):Option Bt:=if 1≤h then(D[(h-1).toNat]?).join else none
theorem Xa(T:Tab)(h:Int):l7 (Vf T) h=(Zb (wz T) h).isSome:=by
 unfold l7 Zb Vf wz;by_cases h1:1≤h
 ·rw[decide_eq_true h1,if_pos h1,Bool.true_and,List.getElem?_map,List.getElem?_map];cases T[(h-1).toNat]? with
  | none=>rfl
  | some e=>
   cases e with
   | none=>rfl
   | some x=>obtain⟨p,b⟩:=x; simp[ent]; omega
 ·rw[decide_eq_false h1,if_neg h1]; rfl
theorem Vd{T:Tab}{h:Int}{b:Bt}(hg:Zb (wz T) h=some b):∃(i p:Nat),h=(i:Int)+1∧T[i]?=some (some (p,b)):=by
 unfold Zb wz at hg;split at hg
 ·next h1=>
  refine⟨(h-1).toNat,?_⟩;rw[List.getElem?_map] at hg;cases ht:T[(h-1).toNat]? with
  | none=>rw[ht] at hg; simp at hg
  | some e=>
   rw[ht] at hg;cases e with
   | none=>simp at hg
   | some x=>obtain⟨p,c⟩:=x; simp at hg; subst hg; exact⟨p,by omega,rfl⟩
 ·cases hg
theorem kM(T:Tab)(i:Nat):Zb (wz T) ((i:Int)+1)=((wz T)[i]?).join:=by
 unfold Zb;rw[if_pos (by omega),show((i:Int)+1-1).toNat=i from by omega]
theorem uj{T:Tab}{i p:Nat}{b:Bt}(h:T[i]?=some (some (p,b))):(Vf T)[i]?=some ((p:Int)+8,((b.length:Nat):Int)):=by
 unfold Vf;rw[List.getElem?_map,h]; rfl
theorem vZ(T:Tab):(Vf T).length=T.length:=by unfold Vf; simp
theorem V4(T:Tab):(wz T).length=T.length:=by unfold wz; simp
abbrev VP(bb:Nat)(B:Bt):List Chunk:=[(bb,.cells (cells B).toArray 5)]
theorem eO(z:Int):∃b:UInt8,IntKind.u8.wrap z=(b.toNat:Int):=by
 refine⟨UInt8.ofNat (z%256).toNat,?_⟩;have:IntKind.u8.wrap z=z%256:=by simp[IntKind.wrap,IntKind.signed,IntKind.bits]
 rw[this];have h:(UInt8.ofNat (z%256).toNat).toNat=(z%256).toNat:=by simp; omega
 rw[h]; omega
theorem QZ{E:Env}{x y:Operand}{k:IntKind}{k':IntKind}{a b:Int}(h1:ev E x= .int k a)(h2:ev E y= .int k' b)(hb:0≤b):zn (ev E) (.bin .shr x y)=some (.int k (a.fdiv (2 ^ (Nat.min b.toNat k.bits)))):=by
 simp[zn,h1,h2,WK,vI,show ¬b<0 from by omega]
theorem iH{E:Env}{x:Operand}{k:IntKind}{a:Int}(h1:ev E x= .int k a):zn (ev E) (.conv .u8 x)=some (.int .u8 (IntKind.u8.wrap a)):=by
 simp[zn,h1]
theorem Zf.setRow{α:Type}[Enc α]{ty b c:Nat}{K sp:List α}{fz:Nat × Nat}{i:Nat}{y:α}(hz:xP fz (cells (K++sp)).length)(hi:i<K.length)(hc:c=K.length+sp.length):
 Zf ty (.slice (some ⟨b,0,none⟩) K.length c) (K.set i y) [(b,.cells (cells ((K++sp).set i y)).toArray ty fz)]:=by
 subst hc;rw[List.set_append_left _ _ hi];have:=Zf.row (ty:=ty) (b:=b) (L:=K.set i y) (sp:=sp) (fz:=fz) (by rw[zW] at hz ⊢; simpa using hz);simpa using this
/-- the bytes of a block -/
theorem kW{ab bb N:Nat}{kv:Value}{used top:Int}{K:List (Int × Int)}{HK:List Chunk}(hK:Zf 163 kv K HK){h:Int}{i q n:Nat}(hh:h=(i:Int)+1)(hi:K[i]?=some ((q:Int),(n:Int)))(hq:q+n≤N)(hN:N<2 ^ 40)(hl:K.length<2 ^ 40):
 Tri Tryz.prog 108 #[.pointer (some ⟨ab,0,none⟩),.int .i64 h] [ZM ab (.slice (some ⟨bb,0,none⟩) N N) kv used top,HK]
  (fun r S=>r= .slice (some ⟨bb,if n=0 then 0 else q,none⟩) n n∧S=[ZM ab (.slice (some ⟨bb,0,none⟩) N N) kv used top,HK]):=by
 subst hh;refine Tri.forget (zB Tryz.rT (Nat.le_of_ble_eq_true rfl) ?_);unfold Tryz.mO;obtain⟨a,c,rfl⟩:=hK.isSlice;obtain⟨hlt,hge⟩:=List.getElem?_eq_some_iff.1 hi;obtain⟨b2,sp,fz,hz,rfl,_,rfl,rfl⟩:=hK.at' (by intro h; simp[h] at hlt);refine ze (z8 (yp pC (zf (za (ze (z8 (yp (pP rfl) (yp (zQ rfl) (yp (zl rfl) ?_)))))))));refine zh (zo rfl rfl ?_);refine yp (pI rfl) (yp (wU rfl rfl (by omega)) ?_);rw[show((i:Int)+1-1)=(i:Int) from by omega];refine yp (zT rfl rfl (by omega)) ?_;refine zh (wC (l:=enc K[i]) rfl (Ux hlt rfl) rfl ?_);rw[hge];refine zh (Zt fun p5=>?_);refine zh (ZX (c':=[.int .i64 (q:Int),.int .i64 (n:Int)]) rfl rfl rfl rfl rfl ?_);refine zf (za (ze (Za (zi (pP rfl) (zi (zQ rfl) (zi (zl rfl) (Zd rfl rfl (zi (zl rfl) (Zd rfl rfl (zi (zl rfl) (Zd rfl rfl (zi (zl rfl) (Zd rfl rfl (zi (Zy rfl rfl (by omega)) (zi (zl rfl) (Zd rfl rfl (zi (zl rfl) (Zd rfl rfl (zi (Zy rfl rfl (by omega)) (zi (Ak rfl rfl rfl rfl (by omega)) ?_))))))))))))))))))));rw[show q+n-q=n from by omega];have e:(if q+n=q then 0 else 0+q*1)=(if n=0 then 0 else q):=by
  by_cases h:n=0
  ·subst h; simp
  ·rw[if_neg h,if_neg (by omega)]; omega
 rw[e];refine zi (pS rfl) (zN (za (zH ?_)));exact zG (rS rfl) ⟨_,.of,rfl,rfl⟩
/-- a new block behind all others -/
theorem fM{ab bb N:Nat}{kv:Value}{used top:Nat}{K:List (Int × Int)}{HK:List Chunk}{B:Bt}(hK:Zf 163 kv K HK){h:Int}{i n:Nat}(hh:h=(i:Int)+1)(hi:i<K.length)(hn:n≤4096)(ht:top+Z6 n≤N)(hut:used≤top)(hB:B.length=N)(hN:N<2 ^ 40)(hl:K.length<2 ^ 40):
 Tri Tryz.prog 107 #[.pointer (some ⟨ab,0,none⟩),.int .i64 h,.int .i64 (n:Int)] [ZM ab (.slice (some ⟨bb,0,none⟩) N N) kv (used:Int) (top:Int),VP bb B,HK]
  (fun r S=>r= .tuple #[]∧∃(B':Bt) (HK':List Chunk),B'.length=N∧(∀x,(x<top∨top+8≤x)→B'[x]?=B[x]?)∧Zf 163 kv (K.set i ((top:Int)+8,(n:Int))) HK'∧
   S=[ZM ab (.slice (some ⟨bb,0,none⟩) N N) kv ((used+Z6 n:Nat):Int) ((top+Z6 n:Nat):Int),VP bb B',HK']):=by
 subst hh;have hcn:=wS n hn;refine Tri.forget (zB Tryz.rV (Nat.le_of_ble_eq_true rfl) ?_);unfold Tryz.mP;obtain⟨a,c,rfl⟩:=hK.isSlice;obtain⟨b2,sp,fz,hz,rfl,_,rfl,rfl⟩:=hK.at' (by intro h; simp[h] at hi);refine ze (Za (zi (pP rfl) (zi (zQ rfl) (zi (zl rfl) (Zd rfl rfl (zi (pI rfl) (zi (wU rfl rfl (by omega)) (zi (pP rfl) (zi (zQ rfl) (zi (zl rfl) (Zd rfl rfl (zi (vY rfl rfl (by omega)) (zi (pI rfl) (zi (UD (U4 rfl) (U4 rfl)) ?_))))))))))))));rw[show((i:Int)+1-1)=(i:Int) from by omega];refine zi (zT rfl rfl (by omega)) ?_;refine zO (ZB (y:=((top:Int)+8,(n:Int))) rfl (by simp; omega) rfl rfl hz ?_) zK;have hK2:Zf 163 (.slice (some ⟨b2,0,none⟩) K.length (K.length+sp.length)) _ _:=Zf.setRow (ty:=163) (b:=b2) (y:=((top:Int)+8,(n:Int))) hz hi rfl;generalize ([(b2,Obj.cells (cells ((K++sp).set i ((top:Int)+8,(n:Int)))).toArray 163 fz)]:List Chunk)=HK2 at hK2 ⊢;generalize (Value.slice (some ⟨b2,0,none⟩) K.length (K.length+sp.length))=kv at hK2 ⊢;refine zN (za (ze (ze (z8 (yp pC (zf (za (zw ?_))))))));refine Z7 (σ:=Nat) (fun j E S=>Has E [(0,.pointer (some ⟨ab,0,none⟩)),(1,.int .i64 ((i:Int)+1)),(2,.int .i64 n),(21,.int .i64 j)]∧j≤4∧∃B':Bt,B'.length=N∧(∀x,(x<top∨top+8≤x)→B'[x]?=B[x]?)∧
  zM S [ZM ab (.slice (some ⟨bb,0,none⟩) N N) kv (used:Int) (top:Int),VP bb B',HK2]) (fun j=>4-j) 0 ⟨⟨rfl,rfl,rfl,rfl,trivial⟩,Nat.zero_le _,B,hB,fun _ _=>rfl,.of⟩ fun j E S ⟨hE,hj,B1,hB1,hx,hJ⟩=>?_
 obtain⟨E0,e0⟩:=zu hE; subst e0; clear hE;refine zy hJ (ze (z8 (yp (w9 rfl rfl) (zf (za (ze ?_))))));refine zU rfl (fun h=>?_) (fun h=>?_)
 ·refine zx (za (ze (zw (ze (z8 (yp (pI rfl) (yp (pI rfl) (zf (za (Za (zi (pP rfl) (zi (zQ rfl) (zi (zl rfl) (Zd rfl rfl (zi (pP rfl) (zi (zQ rfl) (zi (zl rfl) (Zd rfl rfl (zi (pI rfl) (zi (Zy rfl rfl (by omega)) (zi (pP rfl) (zi (zQ rfl) (zi (zl rfl) (Zd rfl rfl (zi (pP rfl) (zi (zQ rfl) (zi (zl rfl) (Zd rfl rfl (zi (vY rfl rfl (by omega)) (zi (pI rfl) (zi (vY rfl rfl (by omega)) (zi (pI rfl) (zi (pI rfl) (zi (au rfl rfl (by omega)) (zi (QZ rfl rfl (by omega)) (zi (iH rfl) (zi (pI rfl) (zi (pI rfl) (zi (au rfl rfl (by omega)) (zi (QZ rfl rfl (by omega)) (zi (iH rfl) ?_)))))))))))))))))))))))))))))))))))))))));generalize ((i:Int)+1).fdiv _=z1;generalize (n:Int).fdiv _=z2;obtain⟨y1,e1⟩:=eO z1;obtain⟨y2,e2⟩:=eO z2;rw[e1,e2];refine zi (zT rfl rfl (by omega)) ?_;refine zO (ZB (b:=bb) (fz:=(0,0)) (M:=B1) (y:=y1) (kk:=1) (i:=top+j) rfl (by omega) rfl rfl (.inl rfl) ?_) zK
  skip
  refine zi (Dx rfl rfl (by omega)) ?_;refine zO (ZB (b:=bb) (fz:=(0,0)) (M:=B1.set (top+j) y1) (y:=y2) (kk:=1) (i:=((top:Int)+4+j).toNat) rfl (by simp; omega) rfl rfl (.inl rfl) ?_) zK;refine zN (zY (za (z8 (yp (Z9 rfl rfl (by omega)) (yp (pI rfl) (zf (za ?_)))))));refine⟨j+1,⟨⟨rfl,rfl,rfl,rfl,trivial⟩,by omega,(B1.set (top+j) y1).set ((top:Int)+4+j).toNat y2,by simpa using hB1,fun x h=>?_,.of⟩,by omega⟩;rw[List.getElem?_set_ne (by omega),List.getElem?_set_ne (by omega)];exact hx x h
 ·have hcz:cost (n:Int)=(Z6 n:Nat):=by rw[cost,if_neg (by omega),Int.toNat_natCast]
  refine Z0 (zF (zF (Z4 (za (ze (Za (zi (pP rfl) (zi (zQ rfl) (zi (zl rfl) (Zd rfl rfl (zi (pI rfl) ?_)))))))))));refine zX (zm (xO (n:Int)) rfl rfl fun r S' h=>?_) zK;obtain⟨rfl,rfl⟩:=h;refine⟨by simp,?_⟩;rw[hcz];have:=hcn.2.1;refine zi (Zy rfl rfl (by omega)) (zi (zQ rfl) (zi (zl rfl) ?_));refine zO (Xq rfl rfl (U4 rfl) ?_) zK;refine zN (za (Za (zi (pP rfl) (zi (zQ rfl) (zi (zl rfl) (Zd rfl rfl (zi (pI rfl) ?_)))))));refine zX (zm (xO (n:Int)) rfl rfl fun r S' h=>?_) zK;obtain⟨rfl,rfl⟩:=h;refine⟨by simp,?_⟩;rw[hcz];refine zi (Zy rfl rfl (by omega)) (zi (zQ rfl) (zi (zl rfl) ?_));refine zO (Xr rfl rfl (U4 rfl) ?_) zK;refine zN ?_;exact VE Vu ⟨_,.of,rfl,B1,_,hB1,hx,hK2,rfl⟩
/-! ### the blocks, plainly -/
def hnd:List (Option Bt)→Nat
 | some _::l=>hnd l+1
 | _=>1
theorem wu:∀D,1≤hnd D
 | []=>Nat.le_refl _
 | none::_=>Nat.le_refl _
 | some _::l=>by unfold hnd; omega
theorem kL:∀D:List (Option Bt),hnd D≤D.length+1
 | []=>Nat.le_refl _
 | none::_=>by simp[hnd]
 | some _::l=>by have:=kL l; simp[hnd]; omega
theorem uM:∀(D:List (Option Bt)) (i:Nat),i+1<hnd D→∃b,D[i]?=some (some b)
 | [],i,h=>by simp[hnd] at h
 | none::_,i,h=>by simp[hnd] at h
 | some b::l,0,_=>⟨b,rfl⟩
 | some b::l,i+1,h=>by
  obtain⟨c,hc⟩:=uM l i (by simp[hnd] at h; omega);exact⟨c,by simpa using hc⟩
theorem vN:∀(D:List (Option Bt)),(D[hnd D-1]?).join=none
 | []=>rfl
 | none::_=>rfl
 | some b::l=>by
  have:=vN l;have hp:=wu l;have e:hnd (some b::l)-1=(hnd l-1)+1:=by simp[hnd]; omega
  rw[e,List.getElem?_cons_succ];exact this
theorem KL{D:List (Option Bt)}{h:Nat}(h1:1≤h)(h2:∀i,i+1<h→∃b,D[i]?=some (some b))(h3:(D[h-1]?).join=none):h=hnd D:=by
 have hp:=wu D;rcases Nat.lt_trichotomy h (hnd D) with hl | hl | hl
 ·obtain⟨b,hb⟩:=uM D (h-1) (by omega);rw[hb] at h3; cases h3
 ·exact hl
 ·obtain⟨b,hb⟩:=h2 (hnd D-1) (by omega);have:=vN D;rw[hb] at this; cases this
theorem wI(o:Option Bt)(D:List (Option Bt)):Z8 (o::D)=X6 o+Z8 D:=by simp[Z8]
theorem Ur(D E:List (Option Bt)):Z8 (D++E)=Z8 D+Z8 E:=by simp[Z8]
theorem WX:∀{D:List (Option Bt)} {i:Nat} {x y:Option Bt},D[i]?=some x→Z8 (D.set i y)+X6 x=Z8 D+X6 y
 | [],i,x,y,h=>by simp at h
 | o::D,0,x,y,h=>by
  simp at h; subst h;rw[List.set_cons_zero,wI,wI]; omega
 | o::D,i+1,x,y,h=>by
  have:=WX (D:=D) (i:=i) (x:=x) (y:=y) (by simpa using h);rw[List.set_cons_succ,wI,wI]; omega
theorem qb{D:List (Option Bt)}{i:Nat}{x:Option Bt}(h:D[i]?=some x):X6 x≤Z8 D:=by
 have:=WX (y:=none) h;simp only[X6] at this ⊢; omega
theorem V5{T:Tab}{i p:Nat}{b:Bt}(h:T[i]?=some (some (p,b))):(wz T)[i]?=some (some b):=by
 unfold wz; rw[List.getElem?_map,h]; rfl
theorem Vn(T:Tab)(i:Nat)(x:Option (Nat × Bt)):wz (T.set i x)=(wz T).set i (x.map Prod.snd):=by unfold wz; rw[List.map_set]
theorem Xk(T:Tab)(i:Nat)(x:Option (Nat × Bt)):Vf (T.set i x)=(Vf T).set i (ent x):=by unfold Vf; rw[List.map_set]
theorem wV{T:Tab}{i j:Nat}{x y:Option (Nat × Bt)}(h:(T.set i x)[j]?=some y):(j=i∧y=x)∨(j≠i∧T[j]?=some y):=by
 rw[List.getElem?_set] at h;by_cases hij:i=j
 ·rw[if_pos hij] at h;split at h
  ·exact .inl ⟨hij.symm,by simpa using h.symm⟩
  ·cases h
 ·rw[if_neg hij] at h;exact .inr ⟨fun e=>hij e.symm,h⟩
theorem Inv.free{N:Nat}{T:Tab}{B:Bt}{used top i p:Nat}{b:Bt}(h:Inv N T B used top)(hi:T[i]?=some (some (p,b))):Inv N (T.set i none) B (used-Z6 b.length) top∧Z6 b.length≤used:=by
 have hu:=WX (y:=none) (V5 hi);have hm:=qb (V5 hi);simp only[X6] at hu hm;have hs:=h.sum;refine⟨⟨h.len,h.big,by rw[List.length_set]; exact h.few,by have:=h.ut; omega,h.tn,?_,fun j q c hj=>?_,fun j k q c q' c' hne hj hk=>?_⟩,by omega⟩
 ·rw[Vn]; simp only[Option.map_none]; omega
 ·rcases wV hj with⟨_,h1⟩ | ⟨_,h1⟩
  ·cases h1
  ·exact h.inn j q c h1
 ·rcases wV hj with⟨_,h1⟩ | ⟨_,h1⟩
  ·cases h1
  rcases wV hk with⟨_,h2⟩ | ⟨_,h2⟩
  ·cases h2
  exact h.apart j k q c q' c' hne h1 h2
/-- a block's bytes change -/
theorem Inv.bytes{N:Nat}{T:Tab}{B B':Bt}{used top i p:Nat}{b b':Bt}(h:Inv N T B used top)(hi:T[i]?=some (some (p,b)))(hl:b'.length=b.length)(hB:B'.length=B.length)
 (hout:∀x,(x<p+8∨p+8+b.length≤x)→B'[x]?=B[x]?) (hin:∀x,x<b.length→B'[p+8+x]?=b'[x]?):Inv N (T.set i (some (p,b'))) B' used top:=by
 have hu:=WX (y:=some b') (V5 hi);simp only[X6,hl] at hu;obtain⟨h4,hpt,_⟩:=h.inn i p b hi;have hc:=(wS b.length h4).2.1;refine⟨by rw[hB]; exact h.len,h.big,by rw[List.length_set]; exact h.few,h.ut,h.tn,?_,fun j q c hj=>?_,fun j k q c q' c' hne hj hk=>?_⟩
 ·rw[Vn,h.sum]; simp only[Option.map_some]; omega
 ·rcases wV hj with⟨_,h1⟩ | ⟨hne,h1⟩
  ·obtain⟨rfl,rfl⟩:q=p∧c=b':=by simpa using h1
   rw[hl];exact⟨h4,hpt,hin⟩
  ·obtain⟨h5,h6,h7⟩:=h.inn j q c h1;have hc2:=(wS c.length h5).2.1;have:=h.apart i j p b q c (fun e=>hne e.symm) hi h1;exact⟨h5,h6,fun x hx=>by rw[hout _ (by omega)]; exact h7 x hx⟩
 ·rcases wV hj with⟨hji,h1⟩ | ⟨hji,h1⟩<;>rcases wV hk with⟨hki,h2⟩ | ⟨hki,h2⟩
  ·omega
  ·obtain⟨rfl,rfl⟩:q=p∧c=b':=by simpa using h1
   rw[hl]; exact h.apart i k q b q' c' (fun e=>hki e.symm) hi h2
  ·obtain⟨rfl,rfl⟩:q'=p∧c'=b':=by simpa using h2
   rw[hl]; exact h.apart j i q c q' b hji h1 hi
  ·exact h.apart j k q c q' c' hne h1 h2
/-! ### the whole arena, as one piece of memory -/
def Ar(ab:Nat)(N:Nat)(D:List (Option Bt))(H:List Chunk):Prop:=
 ∃(bb:Nat) (kv:Value) (HK:List Chunk) (T:Tab) (B:Bt) (used top:Nat),Inv N T B used top∧wz T=D∧Zf 163 kv (Vf T) HK∧
  H=ZM ab (.slice (some ⟨bb,0,none⟩) N N) kv (used:Int) (top:Int)++VP bb B++HK
theorem Inv.Kn{N:Nat}{T:Tab}{B:Bt}{used top:Nat}(h:Inv N T B used top):(Vf T).length<2 ^ 40:=by
 have:=h.few; have:=h.big; rw[vZ]; omega
theorem Ar.bQ{ab N:Nat}{D:List (Option Bt)}{H:List Chunk}(h:Ar ab N D H):Z8 D≤N∧1024≤N∧N≤1048576∧D.length*16≤N:=by
 obtain⟨bb,kv,HK,T,B,used,top,hI,rfl,hK,rfl⟩:=h;have:=hI.sum; have:=hI.ut; have:=hI.tn; have:=hI.big; have:=hI.few;refine⟨by omega,by omega,by omega,by rw[V4]; omega⟩
theorem iZ{n:Nat}(hn:1024≤n∧n≤1048576){z:Int}(hz:z=n):Tri Tryz.prog 48 #[.int .i64 z] [] (fun r S=>∃ab H,r= .tuple #[.pointer (some ⟨ab,0,none⟩),.int .i64 0]∧Ar ab n [] H∧S=[H]):=by
 refine Tri.forget ((sP hn hz).mono fun r S h=>?_);obtain⟨ab,bb,rfl,rfl⟩:=h;refine⟨[_++_++[]],zM.uD (c:=[]),ab,_,rfl,⟨bb,.slice none 0 0,[],[],List.replicate n 0,0,0,⟨by simp,hn,by simp,Nat.le_refl _,Nat.zero_le _,rfl,fun i p b h=>by simp at h,fun i j p b q c _ h=>by simp at h⟩,rfl,.nil,rfl⟩,rfl⟩
theorem Xm{ab N:Nat}{D:List (Option Bt)}{H:List Chunk}(hA:Ar ab N D H):Tri Tryz.prog 21 #[.pointer (some ⟨ab,0,none⟩)] [H] (fun r S=>r= .int .i64 (Z8 D:Nat)∧S=[H]):=by
 obtain⟨bb,kv,HK,T,B,used,top,hI,rfl,hK,rfl⟩:=hA;refine Tri.forget (Tri.VW ((bB.frame [VP bb B,HK]).mono fun r S h=>?_));obtain⟨S',rfl,rfl,rfl⟩:=h;exact⟨_,zM.uD,by rw[hI.sum],rfl⟩
theorem bE{ab:Nat}{bv kv:Value}{used top:Int}{T:Tab}{HK:List Chunk}(hK:Zf 163 kv (Vf T) HK)(hlen:(Vf T).length<2 ^ 40):
 Tri Tryz.prog 106 #[.pointer (some ⟨ab,0,none⟩)] [ZM ab bv kv used top,HK] (fun r S=>r= .int .i64 (hnd (wz T):Nat)∧S=[ZM ab bv kv used top,HK]):=by
 refine Tri.forget (zB Tryz.rW (Nat.le_of_ble_eq_true rfl) ?_);unfold Tryz.mQ;refine ze (z8 (yp pC (zf (za (ze (z8 (yp pC (zf (za (ze (zw ?_)))))))))));refine Z7 (σ:=Nat) (fun h E S=>Has E [(0,.pointer (some ⟨ab,0,none⟩)),(3,.int .i64 (h:Int))]∧1≤h∧h≤T.length+1∧(∀i,i+1<h→∃b,(wz T)[i]?=some (some b))∧zM S [ZM ab bv kv used top,HK]) (fun h=>T.length+1-h) 1 ⟨⟨rfl,rfl,trivial⟩,Nat.le_refl _,by omega,fun i h=>by omega,.self⟩ fun h E S ⟨hE,h1,h2,h3,hJ⟩=>?_
 rw[vZ] at hlen;obtain⟨E0,e0⟩:=zu hE; subst e0; clear hE;refine zy hJ (ze (ze (z8 (yp (pP rfl) (yp (pI rfl) ?_)))));refine zh (zm (Xn (ab:=ab) (bv:=bv) (used:=used) (top:=top) hK (by rw[vZ]; exact hlen) (h:Int)) rfl rfl fun r S' h=>?_);obtain⟨rfl,rfl⟩:=h;rw[Xa];have hg:Zb (wz T) (h:Int)=((wz T)[h-1]?).join:=by
  unfold Zb;rw[if_pos (by omega),show((h:Int)-1).toNat=h-1 from by omega]
 cases hb:Zb (wz T) (h:Int) with
 | none=>
  refine zf (za (zA rfl (Z0 (zF (zF (Z4 (za (ze (z8 (yp (pI rfl) (yp (pI rfl) (zf (za (zH ?_))))))))))))));refine zG (rI rfl) ⟨_,.of,?_,rfl⟩;rw[hb] at hg;rw[←KL h1 h3 hg.symm]
 | some b=>
  obtain⟨i,p,hi,ht⟩:=Vd hb;have hlt:=(List.getElem?_eq_some_iff.1 ht).1;refine zf (za (zC rfl (zx (za (zw (z8 (yp (pI rfl) (yp (Z9 rfl rfl (by omega)) (yp (pI rfl) (zf (zY (za ?_))))))))))));refine⟨h+1,⟨⟨rfl,rfl,trivial⟩,by omega,by omega,fun j hj=>?_,.of⟩,by omega⟩;by_cases hjh:j+1<h
  ·exact h3 j hjh
  ·have:j=i:=by omega
   rw[this]; exact⟨b,V5 ht⟩
def XY(D:List (Option Bt))(h:Int):Int:=if(Zb D h).isSome then 0 else 5
def wB(D:List (Option Bt))(h:Int):List (Option Bt):=if(Zb D h).isSome then D.set (h-1).toNat none else D
theorem aX{b:Bt}(h:b.length≤4096):cost (b.length:Int)=(Z6 b.length:Nat):=by
 unfold cost; rw[if_neg (by omega),Int.toNat_natCast]
theorem bF{ab N:Nat}{D:List (Option Bt)}{H:List Chunk}(hA:Ar ab N D H)(h:Int):
 Tri Tryz.prog 71 #[.pointer (some ⟨ab,0,none⟩),.int .i64 h] [H] (fun r S=>r= .int .i64 (XY D h)∧∃H',Ar ab N (wB D h) H'∧S=[H']):=by
 obtain⟨bb,kv,HK,T,B,used,top,hI,rfl,hK,rfl⟩:=hA;refine Tri.VW (Tri.forget (zB Tryz.AX (Nat.le_of_ble_eq_true rfl) ?_));unfold Tryz.Cy;have hl:=hI.Kn;have hbig:=hI.big;have hut:=hI.ut;have htn:=hI.tn;refine ze (z8 (yp pC (zf (za (ze (ze (z8 (yp (pP rfl) (yp (pI rfl) ?_)))))))));refine zh (zm (Xn (ab:=ab) (bv:= .slice (some ⟨bb,0,none⟩) N N) (used:=(used:Int)) (top:=(top:Int)) hK hl h) rfl rfl fun r S' h=>?_);obtain⟨rfl,rfl⟩:=h;rw[Xa];unfold XY wB;cases hb:Zb (wz T) h with
 | none=>
  refine yp (Ze rfl) (zf (za (zC rfl (ze (z8 (yp pC (zf (za (zH (zP ?_))))))))));exact zG (rI rfl) ⟨_,zM.uD,rfl,_,⟨bb,kv,HK,T,B,used,top,hI,rfl,hK,rfl⟩,rfl⟩
 | some b=>
  obtain⟨i,p,rfl,ht⟩:=Vd hb;obtain⟨hI2,hcu⟩:=hI.free ht;obtain⟨h4,_,_⟩:=hI.inn i p b ht;have hk:=uj ht;obtain⟨hlt,hge⟩:=List.getElem?_eq_some_iff.1 hk;obtain⟨a,c,rfl⟩:=hK.isSlice;obtain⟨b2,sp,fz,hz,rfl,_,rfl,rfl⟩:=hK.at' (by intro h; simp[h] at hlt);refine yp (Ze rfl) (zf (za (zA rfl (zx (za (ze (Za (zi (pP rfl) (zi (zQ rfl) (zi (zl rfl) (Zd rfl rfl (zi (pP rfl) (zi (zQ rfl) (zi (zl rfl) (Zd rfl rfl (zi (pI rfl) (zi (wU rfl rfl (by omega)) ?_)))))))))))))))));rw[show((i:Int)+1-1)=(i:Int) from by omega];refine zi (zT rfl rfl (by omega)) (zi (zl rfl) (Zd (v:= .int .i64 ((b.length:Nat):Int)) rfl ((Zn (kk:=2) (j:=1) hlt rfl (by omega)).trans (by rw[hge]; rfl)) ?_));refine zX (zm (xO _) rfl rfl fun r S' h=>?_) zK;obtain⟨rfl,rfl⟩:=h;refine⟨by simp,?_⟩;rw[aX h4];refine zi (wU rfl rfl (by omega)) (zi (zQ rfl) (zi (zl rfl) ?_));rw[show((used:Int)-(Z6 b.length:Nat))=((used-Z6 b.length:Nat):Int) from by omega];refine zO (Xr rfl rfl (U4 rfl) ?_) zK;refine zN (za (ze (z8 (yp (pP rfl) (yp (zQ rfl) (yp (zl rfl) ?_))))));refine zh (zo rfl rfl ?_);refine yp (pI rfl) (yp (wU rfl rfl (by omega)) (yp Xh ?_));rw[show((i:Int)+1-1)=(i:Int) from by omega];refine yp (zT rfl rfl (by omega)) ?_;refine zh (ZB (y:=((0:Int),(0:Int))) rfl (by simp; omega) rfl rfl hz ?_);have hK2:Zf 163 (.slice (some ⟨b2,0,none⟩) (Vf T).length ((Vf T).length+sp.length)) _ _:=Zf.setRow (ty:=163) (b:=b2) (y:=((0:Int),(0:Int))) hz hlt rfl;generalize ([(b2,Obj.cells (cells ((Vf T++sp).set i ((0:Int),(0:Int)))).toArray 163 fz)]:List Chunk)=HK2 at hK2 ⊢;generalize (Value.slice (some ⟨b2,0,none⟩) (Vf T).length ((Vf T).length+sp.length))=kv at hK2 ⊢;refine zf (za (ze (z8 (yp pC (zf (za (zH ?_)))))));exact zG (rI rfl) ⟨[ZM ab (.slice (some ⟨bb,0,none⟩) N N) kv ((used-Z6 b.length:Nat):Int) (top:Int)++VP bb B++HK2],zM.uD,rfl,_,⟨bb,kv,HK2,T.set i none,B,used-Z6 b.length,top,hI2,by rw[Vn]; rfl,by rw[Xk]; exact hK2,rfl⟩,rfl⟩
def Ut(D:List (Option Bt))(h:Int):Int × Bool:=match Zb D h with | some b=>(b.length,true) | none=>(0,false)
theorem J5{ab N:Nat}{D:List (Option Bt)}{H:List Chunk}(hA:Ar ab N D H)(h:Int):
 Tri Tryz.prog 113 #[.pointer (some ⟨ab,0,none⟩),.int .i64 h] [H] (fun r S=>r= .tuple #[.int .i64 (Ut D h).1,.bool (Ut D h).2]∧S=[H]):=by
 obtain⟨bb,kv,HK,T,B,used,top,hI,rfl,hK,rfl⟩:=hA;refine Tri.VW (Tri.forget (zB Tryz.rJ (Nat.le_of_ble_eq_true rfl) ?_));unfold Tryz.x113;refine ze (z8 (yp pC (yp pC (zf (za (ze (ze (z8 (yp (pP rfl) (yp (pI rfl) ?_))))))))));refine zh (zm (Xn (ab:=ab) (bv:= .slice (some ⟨bb,0,none⟩) N N) (used:=(used:Int)) (top:=(top:Int)) hK hI.Kn h) rfl rfl fun r S' h=>?_);obtain⟨rfl,rfl⟩:=h;rw[Xa];unfold Ut;cases hb:Zb (wz T) h with
 | none=>
  refine yp (Ze rfl) (zf (za (zC rfl (ze (z8 (yp pC (yp pC (zf (za (zH (zP ?_)))))))))));exact zG (jJ rfl rfl) ⟨_,zM.uD,rfl,rfl⟩
 | some b=>
  obtain⟨i,p,rfl,ht⟩:=Vd hb;have hl:=hI.Kn;have hk:=uj ht;obtain⟨hlt,hge⟩:=List.getElem?_eq_some_iff.1 hk;obtain⟨a,c,rfl⟩:=hK.isSlice;obtain⟨b2,sp,fz,hz,rfl,_,rfl,rfl⟩:=hK.at' (by intro h; simp[h] at hlt);refine yp (Ze rfl) (zf (za (zA rfl (zx (za (ze (z8 (yp (pP rfl) (yp (zQ rfl) (yp (zl rfl) ?_))))))))));refine zh (zo rfl rfl ?_);refine yp (pI rfl) (yp (wU rfl rfl (by omega)) ?_);rw[show((i:Int)+1-1)=(i:Int) from by omega];refine yp (zT rfl rfl (by omega)) (yp (zl rfl) ?_);refine zh (zo (v:= .int .i64 ((b.length:Nat):Int)) rfl ((Zn (kk:=2) (j:=1) hlt rfl (by omega)).trans (by rw[hge]; rfl)) ?_);refine yp (pI rfl) (yp pC (zf (za (zH ?_))));exact zG (jJ rfl rfl) ⟨_,zM.uD,rfl,rfl⟩
theorem fq{E:Env}{S:zq}{t u:Tmp}{p:Option Addr}{n m:Nat}{k:IntKind}{a:Int}(hv:E t= .slice p n m)(hv':E u= .int k a):X5 Tryz.prog #[.tmp t,.tmp u] E S (.tuple #[.slice p n m,.int k a]):=res2 hv hv'
/-- what is wrong with so many bytes of a block from there on -/
def ZY(D:List (Option Bt))(h at_ n:Int):Int:=match Zb D h with
 | none=>5
 | some b=>if at_<0∨n<0∨(b.length:Int)<n∨(b.length:Int)-n<at_ then 1 else 0
theorem bC{ab bb N:Nat}{kv:Value}{used top:Nat}{T:Tab}{HK:List Chunk}{B:Bt}(hI:Inv N T B used top)(hK:Zf 163 kv (Vf T) HK)(h at_ n:Int):
 Tri Tryz.prog 110 #[.pointer (some ⟨ab,0,none⟩),.int .i64 h,.int .i64 at_,.int .i64 n] [ZM ab (.slice (some ⟨bb,0,none⟩) N N) kv (used:Int) (top:Int),HK]
  (fun r S=>((ZY (wz T) h at_ n≠0∧r= .tuple #[.slice none 0 0,.int .i64 (ZY (wz T) h at_ n)])∨(ZY (wz T) h at_ n=0∧∃(i p:Nat) (b:Bt) (x y o c:Nat),h=(i:Int)+1∧T[i]?=some (some (p,b))∧at_=x∧n=y∧x+y≤b.length∧(0<y→o=p+8+x)∧o+y≤N∧r= .tuple #[.slice (some ⟨bb,o,none⟩) y c,.int .i64 0]))∧
   S=[ZM ab (.slice (some ⟨bb,0,none⟩) N N) kv (used:Int) (top:Int),HK]):=by
 refine Tri.forget (zB Tryz.rQ (Nat.le_of_ble_eq_true rfl) ?_);unfold Tryz.mK;have hl:=hI.Kn;have hbig:=hI.big;refine ze (z8 (yp pC (yp pC (zf (za (ze (ze (z8 (yp (pP rfl) (yp (pI rfl) ?_))))))))));refine zh (zm (Xn (ab:=ab) (bv:= .slice (some ⟨bb,0,none⟩) N N) (used:=(used:Int)) (top:=(top:Int)) hK hl h) rfl rfl fun r S' h=>?_);obtain⟨rfl,rfl⟩:=h;rw[Xa];cases hb:Zb (wz T) h with
 | none=>
  refine yp (Ze rfl) (zf (za (zC rfl (ze (z8 (yp pC (yp pC (zf (za (zH (zP ?_)))))))))));have hp:ZY (wz T) h at_ n=5:=by unfold ZY; rw[hb]
  exact zG (fq rfl rfl) ⟨_,.of,.inl ⟨by rw[hp]; decide,by rw[hp]⟩,rfl⟩
 | some b=>
  obtain⟨i,p,rfl,ht⟩:=Vd hb;obtain⟨h4,hpt,_⟩:=hI.inn i p b ht;have htn:=hI.tn;have hc:=(wS b.length h4).2.1;refine yp (Ze rfl) (zf (za (zA rfl (zx (za (ze (z8 (yp (pP rfl) (yp (pI rfl) ?_)))))))));refine zh (zm (kW (ab:=ab) (bb:=bb) (N:=N) (used:=(used:Int)) (top:=(top:Int)) hK (h:=(i:Int)+1) (i:=i) (q:=p+8) (n:=b.length) rfl ((uj ht).trans (by simp)) (by omega) (by omega) hl) rfl rfl fun r S' h=>?_);obtain⟨rfl,rfl⟩:=h;refine yp (pS rfl) (zf (za (ze (ze (z8 (yp (pI rfl) (yp (w9 rfl rfl) (yp (pB rfl) ?_))))))));have bad:(at_<0∨n<0∨(b.length:Int)<n∨(b.length:Int)-n<at_)→ZY (wz T) ((i:Int)+1) at_ n=1:=fun h=>by unfold ZY; rw[hb]; exact if_pos h
  by_cases c1:at_<0
  ·rw[decide_eq_true c1];refine zJ rfl (zJ rfl (yp (zD rfl rfl) (yp (pB rfl) (zJ rfl (zJ rfl (zJ rfl (zJ rfl (yp (zD rfl rfl) (yp (pB rfl) (zJ rfl (zJ rfl (zJ rfl (zJ rfl (zJ rfl (zJ rfl (yp (zD rfl rfl) (zf (za (zC rfl (ze (z8 (yp pC (yp pC (zf (za (zH (zP ?_)))))))))))))))))))))))))));exact zG (fq rfl rfl) ⟨_,.of,.inl ⟨by rw[bad (.inl c1)]; decide,by rw[bad (.inl c1)]⟩,rfl⟩
  rw[decide_eq_false c1];refine zV rfl (zZ (pI rfl) (zV rfl (zZ (w9 rfl rfl) (yp (zL rfl rfl) (yp (pB rfl) ?_)))));by_cases c2:n<0
  ·rw[decide_eq_true c2];refine zJ rfl (zJ rfl (zJ rfl (zJ rfl (yp (zD rfl rfl) (yp (pB rfl) (zJ rfl (zJ rfl (zJ rfl (zJ rfl (zJ rfl (zJ rfl (yp (zD rfl rfl) (zf (za (zC rfl (ze (z8 (yp pC (yp pC (zf (za (zH (zP ?_)))))))))))))))))))))));exact zG (fq rfl rfl) ⟨_,.of,.inl ⟨by rw[bad (.inr (.inl c2))]; decide,by rw[bad (.inr (.inl c2))]⟩,rfl⟩
  rw[decide_eq_false c2];refine zV rfl (zZ (pI rfl) (zV rfl (zZ (pS rfl) (zV rfl (zZ (Zq rfl) (zV rfl (zZ (Va rfl rfl) (yp (zL rfl rfl) (yp (pB rfl) ?_)))))))));by_cases c3:(b.length:Int)<n
  ·rw[decide_eq_true c3];refine zJ rfl (zJ rfl (zJ rfl (zJ rfl (zJ rfl (zJ rfl (yp (zD rfl rfl) (zf (za (zC rfl (ze (z8 (yp pC (yp pC (zf (za (zH (zP ?_)))))))))))))))));exact zG (fq rfl rfl) ⟨_,.of,.inl ⟨by rw[bad (.inr (.inr (.inl c3)))]; decide,by rw[bad (.inr (.inr (.inl c3)))]⟩,rfl⟩
  rw[decide_eq_false c3];refine zV rfl (zZ (pI rfl) (zV rfl (zZ (pS rfl) (zV rfl (zZ (Zq rfl) (zV rfl (zZ (pI rfl) (zV rfl (zZ (wU rfl rfl (by omega)) (zV rfl (zZ (Va rfl rfl) (yp (zL rfl rfl) (zf (za ?_))))))))))))));by_cases c4:(b.length:Int)-n<at_
  ·rw[decide_eq_true c4];refine zC rfl (ze (z8 (yp pC (yp pC (zf (za (zH (zP ?_))))))));exact zG (fq rfl rfl) ⟨_,.of,.inl ⟨by rw[bad (.inr (.inr (.inr c4)))]; decide,by rw[bad (.inr (.inr (.inr c4)))]⟩,rfl⟩
  rw[decide_eq_false c4];obtain⟨x,rfl⟩:=Int.eq_ofNat_of_zero_le (show 0≤at_ from by omega);obtain⟨y,rfl⟩:=Int.eq_ofNat_of_zero_le (show 0≤n from by omega);refine zA rfl (zx (za (ze (z8 (yp (pS rfl) (yp (pI rfl) (yp (pI rfl) (yp (pI rfl) (yp (Zy rfl rfl (by omega)) (yp (fB (j:=x) (k:=x+y) rfl rfl rfl (by omega)) ?_))))))))));obtain⟨o,ho⟩:∃o,o=(if b.length=x then(if b.length=0 then 0 else p+8) else(if b.length=0 then 0 else p+8)+x*1):=⟨_,rfl⟩
  rw[←ho,show x+y-x=y from by omega];refine yp (pS rfl) (yp pC (zf (za (zH ?_))));have hp:ZY (wz T) ((i:Int)+1) (x:Int) (y:Int)=0:=by
   unfold ZY; rw[hb]; exact if_neg (by omega)
  refine zG (fq rfl rfl) ⟨_,.of,.inr ⟨hp,i,p,b,x,y,o,b.length-x,rfl,ht,rfl,rfl,by omega,fun hy=>?_,?_,rfl⟩,rfl⟩
  ·rw[ho,if_neg (by omega),if_neg (by omega)]; omega
  ·rw[ho];split
   ·split<;>omega
   ·split<;>omega
/-- the bytes that are read -/
def Uy(D:List (Option Bt))(h at_ n:Int):Bt:=if ZY D h at_ n=0 then(((Zb D h).getD []).drop at_.toNat).take n.toNat else []
theorem Kr{bb o y c ty:Nat}{B Y:Bt}{S:zq}(hm:[(bb,Obj.cells (cells B).toArray ty)]∈S)(hy:Y.length=y)(h:∀k,k<y→B[o+k]?=Y[k]?):Src S (.slice (some ⟨bb,o,none⟩) y c) Y:=by
 rcases Nat.eq_zero_or_pos y with h0 | h0
 ·subst h0;obtain rfl:=List.length_eq_zero_iff.1 hy;exact .nil
 ·subst hy;refine .part hm ?_;have e:(B.drop o).take Y.length=Y:=by
   apply List.ext_getElem?;intro k;by_cases hk:k<Y.length
   ·rw[List.getElem?_take_of_lt hk,List.getElem?_drop,h k hk]
   ·rw[List.getElem?_eq_none (by rw[List.length_take]; omega),List.getElem?_eq_none (by omega)]
  show((cells B).drop o).take (Y.length*1)=_;have h1:=WG B o;have h2:=WE (B.drop o) Y.length;rw[show Enc.k UInt8=1 from rfl] at h1 h2;rw[Nat.mul_one] at h1;rw[h1,h2,e]
theorem yx{v:Value}{L:Bt}{S:zq}(hS:Src S v L)(hnil:v= .slice none 0 0∨∃a c,v= .slice (some a) L.length c)(hlen:L.length<2 ^ 40):
 Tri Tryz.prog 149 #[v] S (fun r S'=>∃H',Zf 5 r L H'∧S'=H'::S):=
 Yv (ty:=5) (k:=1) (bytes:=1) Tryz.pJ rfl 0 rfl hS hnil hlen (by omega)
theorem J6{ab N:Nat}{D:List (Option Bt)}{H:List Chunk}(hA:Ar ab N D H)(h at_ n:Int):
 Tri Tryz.prog 114 #[.pointer (some ⟨ab,0,none⟩),.int .i64 h,.int .i64 at_,.int .i64 n] [H]
  (fun r S=>∃v Ho,r= .tuple #[v,.int .i64 (ZY D h at_ n)]∧Zf 5 v (Uy D h at_ n) Ho∧S=[Ho,H]):=by
 obtain⟨bb,kv,HK,T,B,used,top,hI,rfl,hK,rfl⟩:=hA;refine Tri.VW (Tri.forget (zB Tryz.rH (Nat.le_of_ble_eq_true rfl) ?_));unfold Tryz.x114;refine ze (z8 (yp pC (yp pC (zf (za (ze (z8 (yp (pP rfl) (yp (pI rfl) (yp (pI rfl) (yp (pI rfl) ?_)))))))))));refine zh (zm (bC (ab:=ab) (bb:=bb) hI hK h at_ n) rfl rfl fun r S' h=>?_);obtain⟨hr,rfl⟩:=h;rcases hr with⟨hne,rfl⟩ | ⟨heq,i,p,b,x,y,o,c,rfl,ht,rfl,rfl,hxy,ho,hoN,rfl⟩
 ·refine yp (pU rfl) (yp (pExt rfl rfl) (yp (pExt rfl rfl) (yp (pS rfl) (yp (pI rfl) (zf (za (ze (z8 (yp (pS rfl) ?_)))))))));refine zh (zm (yx (L:=[]) (S:=[]) .nil (.inl rfl) (by simp)) rfl rfl fun r S' h=>?_);obtain⟨Ho,hLo,rfl⟩:=h;obtain⟨a,c,rfl⟩:=hLo.isSlice;refine yp (pI rfl) (yp (pS rfl) (yp (pI rfl) (zf (za (zH ?_)))));refine zG (fq rfl rfl) ⟨[Ho,ZM ab (.slice (some ⟨bb,0,none⟩) N N) kv (used:Int) (top:Int)++VP bb B++HK],.trans (.of (S0:=[Ho,ZM ab (.slice (some ⟨bb,0,none⟩) N N) kv (used:Int) (top:Int),VP bb B,HK])) ⟨[],by simp⟩,_,Ho,rfl,?_,rfl⟩;unfold Uy; rw[if_neg hne]; exact hLo
 ·obtain⟨_,_,hin⟩:=hI.inn i p b ht;have h4:=(hI.inn i p b ht).1;have hY:((b.drop x).take y).length=y:=by rw[List.length_take,List.length_drop]; omega
  refine yp (pU rfl) (yp (pExt rfl rfl) (yp (pExt rfl rfl) (yp (pS rfl) (yp (pI rfl) (zf (za (ze (z8 (yp (pS rfl) ?_)))))))));refine zh (zm (yx (L:=(b.drop x).take y) (S:=[VP bb B]) (Kr (bb:=bb) (o:=o) (B:=B) (ty:=5) (by simp) hY fun k hk=>?_) (.inr ⟨⟨bb,o,none⟩,c,by rw[hY]⟩) (by omega)) rfl rfl fun r S' h=>?_)
  ·rw[ho (by omega),List.getElem?_take_of_lt hk,List.getElem?_drop,show p+8+x+k=p+8+(x+k) from by omega];exact hin _ (by omega)
  obtain⟨Ho,hLo,rfl⟩:=h;obtain⟨a,c2,rfl⟩:=hLo.isSlice;refine yp (pI rfl) (yp (pS rfl) (yp (pI rfl) (zf (za (zH ?_)))));refine zG (fq rfl rfl) ⟨[Ho,ZM ab (.slice (some ⟨bb,0,none⟩) N N) kv (used:Int) (top:Int)++VP bb B++HK],.trans (.of (S0:=[Ho,ZM ab (.slice (some ⟨bb,0,none⟩) N N) kv (used:Int) (top:Int),VP bb B,HK])) ⟨[],by simp⟩,_,Ho,by rw[heq],?_,rfl⟩;unfold Uy;rw[if_pos heq,kM,V5 ht];exact hLo
/-- what is written -/
def spl(b:Bt)(x:Nat)(Y:Bt):Bt:=b.take x++Y++b.drop (x+Y.length)
theorem Us{b Y:Bt}{x:Nat}(h:x+Y.length≤b.length):(spl b x Y).length=b.length:=by
 unfold spl; simp; omega
theorem Xb{b Y:Bt}{x:Nat}(h:x+Y.length≤b.length)(k:Nat):(spl b x Y)[k]?=if k<x then b[k]? else if k<x+Y.length then Y[k-x]? else b[k]?:=by
 have h1:(b.take x).length=x:=by rw[List.length_take]; omega
 unfold spl;split
 ·next h2=>rw[List.append_assoc,List.getElem?_append_left (by omega),List.getElem?_take_of_lt h2]
 ·split
  ·next h3=>rw[List.append_assoc,List.getElem?_append_right (by omega),List.getElem?_append_left (by omega),h1]
  ·next h3=>
   rw[List.getElem?_append_right (by simp; omega),List.getElem?_drop];congr 1;simp; omega
def VU(D:List (Option Bt))(h at_:Int)(Y:Bt):List (Option Bt):=if ZY D h at_ Y.length=0 then D.set (h-1).toNat (some (spl ((Zb D h).getD []) at_.toNat Y)) else D
theorem Y8{B Y:Bt}{o:Nat}(h:o+Y.length≤B.length):ZH (cells B).toArray.toList o (cells (Y.take Y.length))=cells (spl B o Y):=by
 have:=WO B o Y h;rw[show Enc.k UInt8=1 from rfl,Nat.mul_one] at this;rw[List.take_length];exact this
theorem kV{ab N:Nat}{D:List (Option Bt)}{H:List Chunk}{S0:zq}(hA:Ar ab N D H)(h at_:Int){v:Value}{Y:Bt}(hY:Src S0 v Y)(_hl:Y.length≤maxLen):
 Tri Tryz.prog 64 #[.pointer (some ⟨ab,0,none⟩),.int .i64 h,.int .i64 at_,v] (H::S0)
  (fun r S=>r= .int .i64 (ZY D h at_ Y.length)∧∃H',Ar ab N (VU D h at_ Y) H'∧S=H'::S0):=by
 obtain⟨bb,kv,HK,T,B,used,top,hI,rfl,hK,rfl⟩:=hA;refine Tri.VW (Tri.forget (zB Tryz.Bd (Nat.le_of_ble_eq_true rfl) ?_));unfold Tryz.CK;obtain⟨va,vc,rfl⟩:=hY.isSlice;refine ze (z8 (yp pC (zf (za (ze (z8 (yp (pP rfl) (yp (pI rfl) (yp (pI rfl) (yp (pS rfl) (yp (Zq rfl) ?_)))))))))));refine zh (zm (bC (ab:=ab) (bb:=bb) hI hK h at_ (Y.length:Nat)) rfl rfl fun r S' h=>?_);obtain⟨hr,rfl⟩:=h;rcases hr with⟨hne,rfl⟩ | ⟨heq,i,p,b,x,y,o,c,rfl,ht,rfl,hyl,hxy,ho,hoN,rfl⟩
 ·refine yp (pU rfl) (yp (pExt rfl rfl) (yp (pExt rfl rfl) (yp (pS rfl) (yp (pI rfl) (zf (za (ze (z8 (yp (pS rfl) (yp (pS rfl) ?_))))))))));refine zh (gq rfl rfl (hY.more fun s hs=>by simp[hs]) rfl ?_);refine zf (za (ze (z8 (yp (pI rfl) (yp (pI rfl) (zf (za (zH ?_))))))));refine zG (rI rfl) ⟨(ZM ab (.slice (some ⟨bb,0,none⟩) N N) kv (used:Int) (top:Int)++VP bb B++HK)::S0,.trans (.of (S0:=ZM ab (.slice (some ⟨bb,0,none⟩) N N) kv (used:Int) (top:Int)::VP bb B::HK::S0)) ⟨[],by simp⟩,rfl,_,⟨bb,kv,HK,T,B,used,top,hI,?_,hK,rfl⟩,rfl⟩;unfold VU; rw[if_neg hne]
 ·obtain rfl:Y.length=y:=by omega
  obtain⟨h4,hpt,hin⟩:=hI.inn i p b ht;have hBl:=hI.len;refine yp (pU rfl) (yp (pExt rfl rfl) (yp (pExt rfl rfl) (yp (pS rfl) (yp (pI rfl) (zf (za (ze (z8 (yp (pS rfl) (yp (pS rfl) ?_))))))))));refine zh (eF (b:=bb) (o:=o) (fz:=(0,0)) rfl rfl (hY.more fun s hs=>by simp[hs]) rfl (by simp[zW,show Enc.k UInt8=1 from rfl]; omega) (.inl rfl) ?_);rw[Y8 (by omega)];refine zf (za (ze (z8 (yp (pI rfl) (yp (pI rfl) (zf (za (zH ?_))))))));have hsp:=Xb (b:=B) (Y:=Y) (x:=o) (by omega);have hI2:=hI.bytes (b':=spl b x Y) (B':=spl B o Y) ht (Us hxy) (Us (by omega)) (fun z hz=>?_) (fun z hz=>?_)
  rotate_left
  ·rw[hsp];rcases Nat.eq_zero_or_pos Y.length with h0 | h0
   ·split
    ·rfl
    ·rw[if_neg (by omega)]
   ·have:=ho h0;split
    ·rfl
    ·rw[if_neg (by omega)]
  ·rw[hsp,Xb hxy];rcases Nat.eq_zero_or_pos Y.length with h0 | h0
   ·have e1:(if p+8+z<o then B[p+8+z]? else if p+8+z<o+Y.length then Y[p+8+z-o]? else B[p+8+z]?)=B[p+8+z]?:=by
     split
     ·rfl
     ·rw[if_neg (by omega)]
    have e2:(if z<x then b[z]? else if z<x+Y.length then Y[z-x]? else b[z]?)=b[z]?:=by
     split
     ·rfl
     ·rw[if_neg (by omega)]
    rw[e1,e2]; exact hin z hz
   ·have:=ho h0;by_cases c1:z<x
    ·rw[if_pos c1,if_pos (by omega)]; exact hin z hz
    ·rw[if_neg c1,if_neg (by omega)];by_cases c2:z<x+Y.length
     ·rw[if_pos c2,if_pos (by omega)]; congr 1; omega
     ·rw[if_neg c2,if_neg (by omega)]; exact hin z hz
  have hks:Vf (T.set i (some (p,spl b x Y)))=Vf T:=by
   rw[Xk];refine List.ext_getElem? fun j=>?_
   rw[List.getElem?_set];split
   ·next hij=>
    subst hij;rw[uj ht];split
    ·simp[ent,Us hxy]
    ·next hh=>rw[vZ] at hh; exact absurd (List.getElem?_eq_some_iff.1 ht).1 hh
   ·rfl
  refine zG (rI rfl) ⟨(ZM ab (.slice (some ⟨bb,0,none⟩) N N) kv (used:Int) (top:Int)++VP bb (spl B o Y)++HK)::S0,.trans (.of (S0:=ZM ab (.slice (some ⟨bb,0,none⟩) N N) kv (used:Int) (top:Int)::VP bb (spl B o Y)::HK::S0)) ⟨[],by simp⟩,by rw[heq],_,⟨bb,kv,HK,T.set i (some (p,spl b x Y)),spl B o Y,used,top,hI2,?_,by rw[hks]; exact hK,rfl⟩,rfl⟩;unfold VU;rw[if_pos heq,kM,V5 ht,Vn,show((i:Int)+1-1).toNat=i from by omega];rfl
theorem zM.re{S S1 S2 G:zq}(h:S1.flatten=S2.flatten)[k:Sub S S1 G]:zM S S2:=zM.trans (zM.of (h:=k)) ⟨[],by rw[h]; simp⟩
/-- all blocks: their handles and sizes -/
def hlist(i:Nat):List (Option Bt)→List (Int × Int)
 | []=>[]
 | none::l=>hlist (i+1) l
 | some b::l=>((i:Int)+1,(b.length:Int))::hlist (i+1) l
theorem V3:∀(A B:List (Option Bt)) (i:Nat),hlist i (A++B)=hlist i A++hlist (i+A.length) B
 | [],B,i=>rfl
 | none::A,B,i=>by
  have:=V3 A B (i+1);simp only[List.cons_append,hlist,this,List.length_cons];rw[show i+1+A.length=i+(A.length+1) from by omega]
 | some b::A,B,i=>by
  have:=V3 A B (i+1);simp only[List.cons_append,hlist,this,List.length_cons];rw[show i+1+A.length=i+(A.length+1) from by omega]
theorem aM{D:List (Option Bt)}{j:Nat}{o:Option Bt}(h:D[j]?=some o):hlist 0 D=hlist 0 (D.take j)++hlist j (o::D.drop (j+1))∧hlist 0 (D.take (j+1))=hlist 0 (D.take j)++hlist j [o]:=by
 obtain⟨hj,rfl⟩:=List.getElem?_eq_some_iff.1 h;have hl:(D.take j).length=j:=by rw[List.length_take]; omega
 constructor
 ·have:=V3 (D.take j) (D.drop j) 0;rw[List.take_append_drop,hl,Nat.zero_add,List.drop_eq_getElem_cons hj] at this;exact this
 ·have:=V3 (D.take j) [D[j]] 0;rw[hl,Nat.zero_add] at this;rw[←this,List.take_add_one,h];rfl
theorem xA:∀(D:List (Option Bt)) (i:Nat),(hlist i D).length≤D.length
 | [],_=>Nat.le_refl _
 | none::l,i=>by have:=xA l (i+1); simp[hlist]; omega
 | some b::l,i=>by have:=xA l (i+1); simp[hlist]; omega
theorem VL:∀(D:List (Option Bt)) (i:Nat) (e:Int × Int),e∈hlist i D↔∃j b,D[j]?=some (some b)∧e=(((i+j:Nat):Int)+1,(b.length:Int))
 | [],i,e=>by simp[hlist]
 | none::l,i,e=>by
  rw[hlist,VL l (i+1) e];constructor
  ·rintro⟨j,b,h,rfl⟩;exact⟨j+1,b,by simpa using h,by rw[show i+(j+1)=i+1+j from by omega]⟩
  ·rintro⟨j,b,h,rfl⟩;cases j with
   | zero=>simp at h
   | succ j=>exact⟨j,b,by simpa using h,by rw[show i+(j+1)=i+1+j from by omega]⟩
 | some c::l,i,e=>by
  rw[hlist,List.mem_cons,VL l (i+1) e];constructor
  ·rintro(rfl | ⟨j,b,h,rfl⟩)
   ·exact⟨0,c,rfl,rfl⟩
   ·exact⟨j+1,b,by simpa using h,by rw[show i+(j+1)=i+1+j from by omega]⟩
  ·rintro⟨j,b,h,rfl⟩;cases j with
   | zero=>simp at h; subst h; exact .inl rfl
   | succ j=>exact .inr ⟨j,b,by simpa using h,by rw[show i+(j+1)=i+1+j from by omega]⟩
def hv(e:Int × Int):Array Value:= #[.int .i64 e.1,.int .i64 e.2]
theorem qU{p:Option Addr}:Tri Tryz.prog 145 #[.pointer p] [] (fun r S=>∃bx,r= .func (.func 163) #[] #[.pointer (some ⟨bx,0,none⟩)]∧S=[[(bx,.cells #[.pointer p] 26)]]):=by
 refine Tri.forget (zB Tryz.pR (Nat.le_of_ble_eq_true rfl) ?_);unfold Tryz.lY;refine ze (z8 ?_);refine zh (lG (eU rfl) fun p1=>?_);refine yp pC (zf (za (ze (z8 (yp (iF (eU rfl)) (yp (pF rfl) (zf (za (zH ?_)))))))));exact zG (rF rfl) ⟨_,.of,_,rfl,rfl⟩
theorem aY{v:Value}{L:List (Int × Int)}{H:List Chunk}(hS:Zf 163 v L H)(hlen:L.length<2 ^ 40):
 Tri Tryz.prog 164 #[v] [H] (fun r S'=>∃H',Zf 163 r L H'∧S'=[H',H]):=
 Yv (ty:=163) (k:=2) (bytes:=16) Tryz.pz rfl (0,0) rfl (hS.src (by simp)) hS.nY hlen (by omega)
theorem qC{ab N bx:Nat}{D:List (Option Bt)}{H:List Chunk}{S0:zq}(hA:Ar ab N D H):
 J9 Tryz.prog 163 #[] #[.pointer (some ⟨bx,0,none⟩)] [[(bx,.cells #[.pointer (some ⟨ab,0,none⟩)] 26)]] (H::S0)
  (fun pre x=>pre++[x]<+:(hlist 0 D).map hv) (fun xs=>xs=(hlist 0 D).map hv):=by
 obtain⟨bb,kv,HK,T,B,used,top,hI,rfl,hK,rfl⟩:=hA;have hl:=hI.Kn;intro l c J Jx hJ0 hround;have e0:(#[]++ #[.func (.yield l) #[] #[]]++ #[.pointer (some ⟨bx,0,none⟩)]:Array Value)= #[.func (.yield l) #[] #[],.pointer (some ⟨bx,0,none⟩)]:=rfl;rw[e0];refine Tri.perm (S:=[[c],[(bx,.cells #[.pointer (some ⟨ab,0,none⟩)] 26)],ZM ab (.slice (some ⟨bb,0,none⟩) N N) kv (used:Int) (top:Int),VP bb B,HK]++S0) (by simp) ?_;refine Tri.forget (zB Tryz.pE (Nat.le_of_ble_eq_true rfl) ?_);unfold Tryz.lV;obtain⟨a0,c0,rfl⟩:=hK.isSlice;refine ze (ze (z8 ?_));refine zh (zo rfl rfl ?_);refine yp (Ye rfl rfl) (zf (za (zA rfl (zx (za (ze (z8 ?_)))))));refine zh (zo rfl rfl ?_);refine yp (zQ rfl) (yp (zl rfl) ?_);refine zh (zo rfl rfl ?_);refine zh (zm (aY hK hl) rfl rfl fun v S' h=>?_);obtain⟨H1,hK1,rfl⟩:=h;obtain⟨a1,c1,rfl⟩:=hK1.isSlice;refine yp (Zq rfl) (yp pC (zf (za (zw ?_))));refine Z7 (σ:=Nat) (fun i E S=>Has E [(0,.func (.yield l) #[] #[]),(11,.slice a1 (Vf T).length c1),(12,.int .i64 ((Vf T).length:Int)),(13,.int .i64 i)]∧i≤T.length∧∃T',J ((hlist 0 ((wz T).take i)).map hv) T'∧zM S (H1::T')) (fun i=>T.length-i) 0
  ⟨⟨rfl,rfl,rfl,rfl,trivial⟩,Nat.zero_le _,[c]::(ZM ab (.slice (some ⟨bb,0,none⟩) N N) (.slice a0 (Vf T).length c0) (used:Int) (top:Int)++VP bb B++HK)::S0,hJ0,zM.re (S1:=[H1,[c],ZM ab (.slice (some ⟨bb,0,none⟩) N N) (.slice a0 (Vf T).length c0) (used:Int) (top:Int),VP bb B,HK]++S0) (by simp)⟩ fun i E S ⟨hE,hi,T',hJ,hk⟩=>?_
 have hkl:=vZ T;obtain⟨E0,e0⟩:=zu hE; subst e0; clear hE;refine zy hk (ze (z8 (yp (w9 rfl rfl) (zf (za (ze ?_))))));refine zU rfl (fun h=>?_) (fun h=>?_)
 ·have hlt:i<(Vf T).length:=by omega
  obtain⟨bb2,sp,fz,hz,rfl,hm,hc,rfl⟩:=hK1.at' (by intro h; simp[h] at hlt);refine zx (za (ze (zw (ze (z8 (yp (pI rfl) (yp (zT rfl rfl (by omega)) ?_)))))));refine zh (wC (l:=enc (Vf T)[i]) rfl (Ux hlt rfl) rfl ?_);refine zh (Zt fun p4=>?_);refine yp (pI rfl) ?_;refine zh (ZX (c':=[.int .i64 (Vf T)[i].1,.int .i64 (Vf T)[i].2]) rfl rfl rfl rfl rfl ?_);refine zf (za (ze (z8 (yp (zl rfl) ?_))));refine zh (zo rfl rfl ?_);refine yp (Va rfl rfl) (yp (pB rfl) ?_);have hTi:T[i]?=some (T[i]'(by omega)):=List.getElem?_eq_getElem _;generalize hte:T[i]'(by omega)=te at hTi;have hki:(Vf T)[i]=ent te:=by
   have:(Vf T)[i]?=some (ent te):=by unfold Vf; rw[List.getElem?_map,hTi]; rfl
   rw[List.getElem?_eq_getElem hlt] at this;exact Option.some.inj this
  have hDi:(wz T)[i]?=some (te.map Prod.snd):=by unfold wz; rw[List.getElem?_map,hTi]; rfl
  obtain⟨hs1,hs2⟩:=aM hDi;rw[hki];cases te with
  | none=>
   rw[decide_eq_false (show ¬(0:Int)<(ent none).1 from by decide)];refine zJ rfl (zJ rfl (zJ rfl (zJ rfl (zJ rfl (zJ rfl (zJ rfl (yp (zL rfl rfl) (zf (za (zA rfl (zx (zY (za (z8 (yp (Z9 rfl rfl (by omega)) (yp (pI rfl) (zf (za ?_))))))))))))))))));refine⟨i+1,⟨⟨rfl,rfl,rfl,rfl,trivial⟩,by omega,T',?_,.of⟩,by omega⟩;rw[hs2]; simpa[hlist] using hJ
  | some pb=>
   obtain⟨p,b⟩:=pb;rw[decide_eq_true (show(0:Int)<(ent (some (p,b))).1 from by show(0:Int)<(p:Int)+8; omega)];refine zV rfl (zZ (pF rfl) (zV rfl (zZ (pI rfl) (zV rfl (zZ (Z9 rfl rfl (by omega)) (zV rfl (zZ (zl rfl) (zV rfl ?_))))))));refine(zo rfl rfl ?_);refine zV rfl ?_;have hV:(hlist 0 ((wz T).take i)).map hv++[hv ((i:Int)+1,(b.length:Int))]<+:(hlist 0 (wz T)).map hv:=by
    rw[hs1,List.map_append];exact⟨(hlist (i+1) ((wz T).drop (i+1))).map hv,by simp[hlist]⟩
   refine Jb (hround _ _ T' hV hJ) rfl rfl fun bl T2 h=>?_
   rcases h with⟨rfl,hJ'⟩ | ⟨rfl,hJx⟩
   ·refine zV rfl (zZ (Ze rfl) (yp (zD rfl rfl) (zf (za (zA rfl (zx (zY (za (z8 (yp (Z9 rfl rfl (by omega)) (yp (pI rfl) (zf (za ?_)))))))))))));refine⟨i+1,⟨⟨rfl,rfl,rfl,rfl,trivial⟩,by omega,T2,?_,.of⟩,by omega⟩;rw[hs2,List.map_append]; exact hJ'
   ·refine zV rfl (zZ (Ze rfl) (yp (zD rfl rfl) (zf (za (zC rfl (zH (bret (zP (zP (bret ?_))))))))));exact zG Vu ⟨T2,.of,.inr ⟨_,hJx⟩⟩
 ·refine Z0 (zF (zF (Z4 ?_)));refine VE Vu ⟨T',.of,.inl ⟨_,?_,hJ⟩⟩;rw[List.take_of_length_le (by rw[V4]; omega)]
/-! ### the order of the blocks -/
theorem Wk.iI{α:Type}(key:α→Int):Wk (fun a b=>key a<key b):=⟨fun _=>by omega,fun _ _ h=>by omega,fun _ _ _ h1 h2=>by omega⟩
theorem o7:Ld (α:=Int) (fun a=> .load1 a) (fun a=> .int .i64 a):=⟨fun {R E a b off c ty fz x} ha hm hx=> .load1 ha hm (by
 have h:(c.toList.drop off).take 1=[Value.int .i64 x]:=hx;have:=congrArg (fun l=>l[0]?) h;simp at this;exact this),fun _=>rfl⟩
theorem nI:sW Tryz.prog (fun a=> .load1 a) 1 165 185 186 187 188 189 190 191 192:=
 ⟨Tryz.pq,Tryz.oV,⟨_,Tryz.oU,Tryz.ow⟩,
  ⟨_,_,_,_,_,_,Tryz.oQ,Tryz.oD,Tryz.fH,Tryz.fG,Tryz.oz⟩,
  ⟨_,_,_,_,Tryz.oP,Tryz.oq,Tryz.oo,Tryz.om⟩,
  Tryz.oO,Tryz.oJ,Tryz.oH,Tryz.oF⟩
def qK(a b:Int):Int:=if a<b then-1 else if b<a then 1 else 0
theorem dU(a b:Int):qK a b<0↔a<b:=by
 unfold qK;split
 ·next h=>exact⟨fun _=>h,fun _=>by decide⟩
 ·split<;>omega
theorem sO(a:Int):Tri Tryz.prog 166 #[.int .i64 a] [] (fun r S=>r= .bool false∧S=[]):=by
 refine Tri.forget (zB Tryz.oW (Nat.le_of_ble_eq_true rfl) ?_);unfold Tryz.lU;refine ze (z8 (yp pC (zf (za (ze (z8 (yp (pI rfl) (yp (pI rfl) (yp (uW rfl rfl) (yp (pB rfl) (zf (za (zH ?_)))))))))))));rw[decide_eq_true rfl];exact zG (rB rfl) ⟨_,.of,rfl,rfl⟩
theorem iW(a b:Int):Tri Tryz.prog 148 #[.int .i64 a,.int .i64 b] [] (fun r S=>r= .int .i64 (qK a b)∧S=[]):=by
 refine Tri.forget (zB Tryz.pK (Nat.le_of_ble_eq_true rfl) ?_);unfold Tryz.lW;refine ze (z8 (yp pC (zf (za (ze (z8 (yp (pI rfl) ?_)))))));refine zh (zm (sO a) rfl rfl fun r S' h=>?_);obtain⟨rfl,rfl⟩:=h;refine yp (pB rfl) (zf (za (ze (z8 (yp (pI rfl) ?_)))));refine zh (zm (sO b) rfl rfl fun r S' h=>?_);obtain⟨rfl,rfl⟩:=h;refine yp (pB rfl) (zf (za (ze (ze (z8 (yp (pB rfl) (zf (za (zA rfl (zx (za (ze (ze (z8 (yp (pB rfl) (zf (za (zA rfl (zx (za (ze (ze (z8 (yp (pI rfl) (yp (pI rfl) (yp (w9 rfl rfl) (zf (za ?_))))))))))))))))))))))))))));refine zU rfl (fun h=>?_) (fun h=>?_)
 ·refine ze (z8 (yp pC (zf (za (zH (zP ?_))))));exact zG (rI rfl) ⟨_,.of,by rw[qK,if_pos h],rfl⟩
 refine zx (za (ze (ze (z8 (yp (pI rfl) (yp (pI rfl) (yp (Va rfl rfl) (zf (za ?_)))))))));refine zU rfl (fun h2=>?_) (fun h2=>?_)
 ·refine ze (z8 (yp pC (zf (za (zH (zP ?_))))));exact zG (rI rfl) ⟨_,.of,by rw[qK,if_neg h,if_pos h2],rfl⟩
 refine zx (za (ze (z8 (yp pC (zf (za (zH ?_)))))));exact zG (rI rfl) ⟨_,.of,by rw[qK,if_neg h,if_neg h2],rfl⟩
/-- where a handle's block stands -/
def pos(T:Tab)(h:Int):Int:=match (T[(h-1).toNat]?).join with | some (p,_)=>p | none=>0
def lg(T:Tab)(h:Int):Prop:=∃(i p:Nat) (b:Bt),h=(i:Int)+1∧T[i]?=some (some (p,b))
theorem pos_at{T:Tab}{i p:Nat}{b:Bt}(h:T[i]?=some (some (p,b))):pos T ((i:Int)+1)=p:=by
 unfold pos;rw[show((i:Int)+1-1).toNat=i from by omega,h]; rfl
theorem sQ{ab p1:Nat}{bv kv:Value}{used top:Int}{T:Tab}{HK:List Chunk}(hK:Zf 163 kv (Vf T) HK)(hlen:(Vf T).length<2 ^ 40):
 Cm Tryz.prog 147 #[.pointer (some ⟨p1,0,none⟩)] ([(p1,.cells #[.pointer (some ⟨ab,0,none⟩)] 26)]++ZM ab bv kv used top++HK) (fun a=> .int .i64 a) (lg T) (fun x y=>pos T x<pos T y):=by
 refine⟨Wk.iI _,fun x y hx hy=>?_⟩;obtain⟨i,p,b,rfl,hi⟩:=hx;obtain⟨j,q,c,rfl,hj⟩:=hy;rw[pos_at hi,pos_at hj];refine Tri.VW (Tri.forget (zB Tryz.pO (Nat.le_of_ble_eq_true rfl) ?_));unfold Tryz.lX;have hki:=uj hi;have hkj:=uj hj;obtain⟨hlti,hgi⟩:=List.getElem?_eq_some_iff.1 hki;obtain⟨hltj,hgj⟩:=List.getElem?_eq_some_iff.1 hkj;obtain⟨a,cc,rfl⟩:=hK.isSlice;obtain⟨b2,sp,fz,hz,rfl,_,rfl,rfl⟩:=hK.at' (by intro h; simp[h] at hlti);refine ze (z8 (yp pC (zf (za (ze (Za (Zd rfl rfl (zi (zQ rfl) (zi (zl rfl) (Zd rfl rfl (zi (pI rfl) (zi (wU rfl rfl (by omega)) ?_))))))))))));rw[show((i:Int)+1-1)=(i:Int) from by omega];refine zi (zT rfl rfl (by omega)) (zi (zl rfl) (Zd (v:= .int .i64 ((p:Int)+8)) rfl ((Zn (kk:=2) (j:=0) hlti rfl (by omega)).trans (by rw[hgi]; rfl)) (Zd rfl rfl (zi (zQ rfl) (zi (zl rfl) (Zd rfl rfl (zi (pI rfl) (zi (wU rfl rfl (by omega)) ?_))))))));rw[show((j:Int)+1-1)=(j:Int) from by omega];refine zi (zT rfl rfl (by omega)) (zi (zl rfl) (Zd (v:= .int .i64 ((q:Int)+8)) rfl ((Zn (kk:=2) (j:=0) hltj rfl (by omega)).trans (by rw[hgj]; rfl)) ?_));refine zO (zm (iW _ _) rfl rfl fun r S' h=>?_) zK;obtain⟨rfl,rfl⟩:=h;refine zi (pI rfl) (zN (za (zH ?_)));refine zG (rI rfl) ⟨_,zM.uD,⟨_,rfl,?_⟩,rfl⟩;rw[dU]; omega
end Go.Proofs.YtekgciopamkjlaaGreat
