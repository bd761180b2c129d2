/- The arena (chapter 6): contracts of its small functions. The arena (chapter 6): its memory, and the functions that touch it. The arena (chapter 6): what a handle is, Free, Size, part, Read, Write, Handles. The arena (chapter 6): part, Read, Write, Handles. The arena (chapter 6): Handles, and the order of its blocks. -/
import Derived.Test.YtekgciopamkjlaaGreatB3
import Derived.Test.YtekgciopamkjlaaGreatFArena
import Derived.Test.YtekgciopamkjlaaGreatFSort
import Derived.Test.YtekgciopamkjlaaGreatB5
namespace Go.Proofs.YtekgciopamkjlaaGreat
open Go.Xs
open Enc (enc)
/-- what a block takes -/
def zZ(n:Nat):Nat:=if n+8≤16 then 16 else if n+8≤32 then 32 else if n+8≤64 then 64 else if n+8≤128 then 128 else if n+8≤256 then 256 else
 if n+8≤512 then 512 else if n+8≤1024 then 1024 else if n+8≤2048 then 2048 else if n+8≤4096 then 4096 else 8192
def cost(n:Int):Int:=if n<0∨4096<n then 0 else zZ n.toNat
def Pow(c:Nat):Prop:=c=16∨c=32∨c=64∨c=128∨c=256∨c=512∨c=1024∨c=2048∨c=4096∨c=8192
theorem wK(n:Nat)(hn:n≤4096):Pow (zZ n)∧n+8≤zZ n∧(zZ n=16∨zZ n<2*(n+8)):=by
 unfold zZ Pow
 repeat' split
 all_goals omega
theorem lq{n c:Nat}(hn:n≤4096)(hp:Pow c)(h1:n+8≤c)(h2:c=16∨c<2*(n+8)):zZ n=c:=by
 unfold zZ;unfold Pow at hp
 repeat' split
 all_goals omega
theorem Xc(n:Int):Tri Tryz.prog 53 #[.int .i64 n] [] (fun r S=>r= .int .i64 (cost n)∧S=[]):=by
 refine Tri.forget (zn Tryz.Nb (Nat.le_of_ble_eq_true rfl) ?_);unfold Tryz.Od;refine ze (z8 (yp pC (zf (za (ze (ze (z8 (yp (pI rfl) (yp (ZL rfl rfl) (yp (pB rfl) ?_))))))))));by_cases h1:n<0
 ·rw[decide_eq_true h1];refine Z5 rfl (Z5 rfl (yp (zP rfl rfl) (zf (za (zI rfl (ze (z8 (yp pC (zf (za (zL (zX ?_))))))))))));exact zK (rI rfl) ⟨_,.of,by rw[cost,if_pos (.inl h1)],rfl⟩
 rw[decide_eq_false h1];refine Z0 rfl (Zc (pI rfl) (Z0 rfl (Zc (VE rfl rfl) (yp (zU rfl rfl) (zf (za ?_))))));by_cases h2:4096<n
 ·rw[decide_eq_true h2];refine zI rfl (ze (z8 (yp pC (zf (za (zL (zX ?_)))))));exact zK (rI rfl) ⟨_,.of,by rw[cost,if_pos (.inr h2)],rfl⟩
 rw[decide_eq_false h2];obtain⟨m,rfl⟩:=Int.eq_ofNat_of_zero_le (show 0≤n from by omega);refine zw rfl (zq (za (ze (z8 (yp pC (zf (za (ze (zo ?_)))))))));refine Z4 (σ:=Nat) (fun c E S=>Has E [(0,.int .i64 m),(3,.int .i64 c)]∧Pow c∧(c=16∨c<2*(m+8))∧zG S []) (fun c=>16384-c) 16 ⟨⟨rfl,rfl,trivial⟩,.inl rfl,.inl rfl,.self⟩ fun c E S ⟨hE,hp,hc,hJ⟩=>?_
 have hcb:c≤8192:=by unfold Pow at hp; omega
 obtain⟨E0,e0⟩:=zl hE; subst e0; clear hE;refine zm hJ (ze (ze (z8 (yp (pI rfl) (yp (pI rfl) (yp (Vo rfl rfl (by omega)) (yp (ZL rfl rfl) (zf (za ?_)))))))));refine zO rfl (fun h=>?_) (fun h=>?_)
 ·refine zq (za (zo (z8 (yp (pI rfl) ?_))));refine yp (v:= .int .i64 ((c*2:Nat):Int)) ?_ ?_
  ·rw[jR (m:=(c:Int)) (n:=2) rfl rfl (by omega)];congr 2
  refine yp (pI rfl) (zf (zT (za ?_)));exact⟨c*2,⟨⟨rfl,rfl,trivial⟩,by unfold Pow at hp ⊢; omega,by omega,.of⟩,by unfold Pow at hp; omega⟩
 ·refine zV (zy (zy (zW (za (ze (z8 (yp (pI rfl) (yp (pI rfl) (zf (za (zL ?_)))))))))));refine zK (rI rfl) ⟨_,.of,?_,rfl⟩;rw[cost,if_neg (by omega),Int.toNat_natCast,lq (c:=c) (by omega) hp (by omega) hc]
abbrev ZM(ab:Nat)(bv kv:Value)(used top:Int):List Chunk:=[(ab,.cells #[bv,kv,.int .i64 used,.int .i64 top] 120)]
/-- is there such a block? -/
def CK(K:List (Int × Int))(h:Int):Bool:=decide (1≤h) && (match K[(h-1).toNat]? with | some e=>decide (0<e.1) | none=>false)
theorem XJ{ab:Nat}{bv kv:Value}{used top:Int}{K:List (Int × Int)}{H:List Chunk}(hK:Zf 163 kv K H)(hlen:K.length<2 ^ 40)(h:Int):
 Tri Tryz.prog 118 #[.pointer (some ⟨ab,0,none⟩),.int .i64 h] [ZM ab bv kv used top,H] (fun r S=>r= .bool (CK K h)∧S=[ZM ab bv kv used top,H]):=by
 refine Tri.forget (zn Tryz.I6 (Nat.le_of_ble_eq_true rfl) ?_);unfold Tryz.E5;obtain⟨a,c,rfl⟩:=hK.isSlice;refine ze (z8 (yp pC (zf (za (ze (z8 (yp (pP rfl) (yp (yt rfl rfl) (yp (pB rfl) (Z0 rfl (Zc (pI rfl) (Z0 rfl (Zc (U9 rfl rfl) (yp (zP rfl rfl) (yp (pB rfl) ?_)))))))))))))));by_cases h1:1≤h
 ·rw[decide_eq_true h1];refine Z0 rfl (Zc (pI rfl) (Z0 rfl (Zc (pP rfl) (Z0 rfl (Zc (zS rfl) (Z0 rfl (Zc (zx rfl) (Z0 rfl ?_))))))));refine(zF rfl rfl ?_);refine Z0 rfl (Zc (Zz rfl) (Z0 rfl (Zc (Xl rfl rfl) (yp (zP rfl rfl) (yp (pB rfl) ?_)))));by_cases h2:h≤(K.length:Int)
  ·rw[decide_eq_true h2];have hlt:(h-1).toNat<K.length:=by omega
   obtain⟨bb,sp,fz,hz,rfl,_,rfl,rfl⟩:=hK.at' (by intro h; simp[h] at hlt);obtain⟨i,hi⟩:∃i:Nat,h=(i:Int)+1:=⟨(h-1).toNat,by omega⟩
   subst hi;have hti:((i:Int)+1-1).toNat=i:=by omega
   rw[hti] at hlt;refine Z0 rfl (Zc (pP rfl) (Z0 rfl (Zc (zS rfl) (Z0 rfl (Zc (zx rfl) (Z0 rfl ?_))))));refine(zF rfl rfl ?_);refine Z0 rfl (Zc (pI rfl) (Z0 rfl (Zc (Zt rfl rfl (by omega)) (Z0 rfl ?_))));rw[show((i:Int)+1-1)=(i:Int) from by omega];refine Zc (zN rfl rfl (by omega)) (Z0 rfl (Zc (zx rfl) (Z0 rfl (zF (v:= .int .i64 K[i].1) rfl ((wH (kk:=2) (j:=0) hlt rfl (by omega)).trans rfl) (Z0 rfl (Zc (VE rfl rfl) (yp (zP rfl rfl) (yp (pB rfl) (zf (za (zL ?_)))))))))));refine zK (rB rfl) ⟨_,.of,?_,rfl⟩;rw[CK,decide_eq_true h1,hti,List.getElem?_eq_getElem hlt];rfl
  ·rw[decide_eq_false h2];refine Z5 rfl (Z5 rfl (Z5 rfl (Z5 rfl (Z5 rfl (Z5 rfl (Z5 rfl (Z5 rfl (Z5 rfl (Z5 rfl (yp (zU rfl rfl) (yp (pB rfl) (zf (za (zL ?_))))))))))))));refine zK (rB rfl) ⟨_,.of,?_,rfl⟩;rw[CK,List.getElem?_eq_none (by omega)];simp
 ·rw[decide_eq_false h1];refine Z5 rfl (Z5 rfl (Z5 rfl (Z5 rfl (Z5 rfl (Z5 rfl (Z5 rfl (yp (zU rfl rfl) (yp (pB rfl) (Z5 rfl (Z5 rfl (Z5 rfl (Z5 rfl (Z5 rfl (Z5 rfl (Z5 rfl (Z5 rfl (Z5 rfl (Z5 rfl (yp (zU rfl rfl) (yp (pB rfl) (zf (za (zL ?_)))))))))))))))))))))));refine zK (rB rfl) ⟨_,.of,?_,rfl⟩;rw[CK,decide_eq_false h1]; rfl
theorem lY{ab:Nat}{bv kv:Value}{used top:Int}:Tri Tryz.prog 21 #[.pointer (some ⟨ab,0,none⟩)] [ZM ab bv kv used top] (fun r S=>r= .int .i64 used∧S=[ZM ab bv kv used top]):=by
 refine Tri.forget (zn Tryz.Nt (Nat.le_of_ble_eq_true rfl) ?_);unfold Tryz.x21;refine ze (z8 (yp pC (zf (za (ze (ze (z8 (yp (pP rfl) (yp (wJ rfl rfl) (zf (za (zw rfl (zq (za (ze (z8 (yp (pP rfl) (yp (zS rfl) (yp (zx rfl) ?_)))))))))))))))))));refine zh (zF rfl rfl ?_);refine yp (pI rfl) (zf (za (zL ?_)));exact zK (rI rfl) ⟨_,.of,rfl,rfl⟩
theorem Jm{ab:Nat}{bv kv:Value}{used top:Int}{B:List UInt8}{H:List Chunk}(hB:Zf 5 bv B H):Tri Tryz.prog 144 #[.pointer (some ⟨ab,0,none⟩)] [ZM ab bv kv used top] (fun r S=>r= .int .i64 B.length∧S=[ZM ab bv kv used top]):=by
 refine Tri.forget (zn Tryz.GX (Nat.le_of_ble_eq_true rfl) ?_);unfold Tryz.Dw;obtain⟨a,c,rfl⟩:=hB.isSlice;refine ze (z8 (yp pC (zf (za (ze (ze (z8 (yp (pP rfl) (yp (wJ rfl rfl) (zf (za (zw rfl (zq (za (ze (z8 (yp (pP rfl) (yp (zS rfl) (yp (zx rfl) ?_)))))))))))))))))));refine zh (zF rfl rfl ?_);refine yp (Zz rfl) (yp (pI rfl) (zf (za (zL ?_))));exact zK (rI rfl) ⟨_,.of,rfl,rfl⟩
theorem mh{ab:Nat}{bv kv:Value}{used top:Int}{B:List UInt8}{H:List Chunk}(hB:Zf 5 bv B H)(hl:B.length<2 ^ 40)(hu:0≤used∧used<2 ^ 40):Tri Tryz.prog 104 #[.pointer (some ⟨ab,0,none⟩)] [ZM ab bv kv used top] (fun r S=>r= .int .i64 (B.length-used)∧S=[ZM ab bv kv used top]):=by
 refine Tri.forget (zn Tryz.tJ (Nat.le_of_ble_eq_true rfl) ?_);unfold Tryz.x104;refine ze (z8 (yp pC (zf (za (ze (z8 (yp (pP rfl) ?_)))))));refine zh (zk (Jm (ab:=ab) (kv:=kv) (used:=used) (top:=top) hB) rfl rfl fun r S' h=>?_);obtain⟨rfl,rfl⟩:=h;refine yp (pP rfl) ?_;refine zh (zk (lY (ab:=ab) (bv:=bv) (kv:=kv) (used:=used) (top:=top)) rfl rfl fun r S' h=>?_);obtain⟨rfl,rfl⟩:=h;refine yp (Zt rfl rfl (by omega)) (yp (pI rfl) (zf (za (zL ?_))));exact zK (rI rfl) ⟨_,.of,rfl,rfl⟩
theorem IZ{E:Env}{S:zB}{t u:Tmp}{p:Option Addr}{k:IntKind}{a:Int}(hv:E t= .pointer p)(hv':E u= .int k a):Xo Tryz.prog #[.tmp t,.tmp u] E S (.tuple #[.pointer p,.int k a]):=res2 hv hv'
/-- New -/
theorem IJ{n:Nat}(hn:1024≤n∧n≤1048576){z:Int}(hz:z=n):Tri Tryz.prog 48 #[.int .i64 z] [] (fun r S=>∃ab bb,r= .tuple #[.pointer (some ⟨ab,0,none⟩),.int .i64 0]∧S=[ZM ab (.slice (some ⟨bb,0,none⟩) n n) (.slice none 0 0) 0 0,[(bb,.cells (cells (List.replicate n (0:UInt8))).toArray 5)]]):=by
 refine Tri.forget (zn Tryz.Nh (Nat.le_of_ble_eq_true rfl) ?_);unfold Tryz.Oi;refine ze (z8 (yp pC (yp pC (zf (za (ze (ze (z8 (yp (pI rfl) (yp (ZL rfl rfl) (yp (pB rfl) ?_)))))))))));rw[decide_eq_false (show ¬z<1024 from by omega)];refine Z0 rfl (Zc (pI rfl) (Z0 rfl (Zc (VE rfl rfl) (yp (zU rfl rfl) (zf (za ?_))))));rw[decide_eq_false (show ¬1048576<z from by omega)];refine zw rfl (zq (za (ze (z8 (yp (pI rfl) ?_)))));subst hz;refine zh (rH (m:=n) (cap:=n) rfl rfl (Nat.le_refl _) rfl (by omega) (by omega) fun bb=>?_);rw[vS (z:=[.int .u8 0]) n (0:UInt8) rfl];refine yp (v:= .agg #[.slice (some ⟨bb,0,none⟩) n n,.slice none 0 0,.int .i64 0,.int .i64 0]) rfl ?_;refine zh (Zv rfl fun p13=>?_);refine yp (pP rfl) (yp pC (zf (za (zL ?_))));exact zK (IZ rfl rfl) ⟨_,.of,_,bb,rfl,rfl⟩
abbrev Bt:=List UInt8
abbrev Tab:=List (Option (Nat × Bt))
def ent:Option (Nat × Bt)→Int × Int
 | none=>(0,0)
 | some (p,b)=>((p:Int)+8,((b.length:Nat):Int))
def Vj(T:Tab):List (Int × Int):=T.map ent
def ZX(T:Tab):List (Option Bt):=T.map (Option.map Prod.snd)
def Y9:Option Bt→Nat
 | none=>0
 | some b=>zZ b.length
def Zh(D:List (Option Bt)):Nat:=(D.map Y9).sum
structure Inv(N:Nat)(T:Tab)(B:Bt)(used top:Nat):Prop where
 len:B.length=N
 big:1024≤N∧N≤1048576
 few:T.length*16≤N
 ut:used≤top
 tn:top≤N
 sum:used=Zh (ZX T)
 inn:∀(i p:Nat) (b:Bt),T[i]?=some (some (p,b))→b.length≤4096∧p+zZ b.length≤top∧∀x,x<b.length→B[p+8+x]?=b[x]?
 apart:∀(i j p:Nat) (b:Bt) (q:Nat) (c:Bt),i≠j→T[i]?=some (some (p,b))→T[j]?=some (some (q,c))→p+zZ b.length≤q∨q+zZ c.length≤p
/-- what a handle's block holds -/
def Zl(D:List (Option Bt))(h:Int):Option Bt:=if 1≤h then(D[(h-1).toNat]?).join else none
theorem Xx(T:Tab)(h:Int):CK (Vj T) h=(Zl (ZX T) h).isSome:=by
 unfold CK Zl Vj ZX;by_cases h1:1≤h
 ·rw[decide_eq_true h1,if_pos h1,Bool.true_and,List.getElem?_map,List.getElem?_map];cases T[(h-1).toNat]? with
  | none=>rfl
  | some e=>
   cases e with
   | none=>rfl
   | some x=>obtain⟨p,b⟩:=x; simp[ent]; omega
 ·rw[decide_eq_false h1,if_neg h1]; rfl
theorem Vb{T:Tab}{h:Int}{b:Bt}(hg:Zl (ZX T) h=some b):∃(i p:Nat),h=(i:Int)+1∧T[i]?=some (some (p,b)):=by
 unfold Zl ZX at hg;split at hg
 ·next h1=>
  refine⟨(h-1).toNat,?_⟩;rw[List.getElem?_map] at hg;cases ht:T[(h-1).toNat]? with
  | none=>rw[ht] at hg; simp at hg
  | some e=>
   rw[ht] at hg;cases e with
   | none=>simp at hg
   | some x=>obtain⟨p,c⟩:=x; simp at hg; subst hg; exact⟨p,by omega,rfl⟩
 ·cases hg
theorem KI(T:Tab)(i:Nat):Zl (ZX T) ((i:Int)+1)=((ZX T)[i]?).join:=by
 unfold Zl;rw[if_pos (by omega),show((i:Int)+1-1).toNat=i from by omega]
theorem uD{T:Tab}{i p:Nat}{b:Bt}(h:T[i]?=some (some (p,b))):(Vj T)[i]?=some ((p:Int)+8,((b.length:Nat):Int)):=by
 unfold Vj;rw[List.getElem?_map,h]; rfl
theorem V3(T:Tab):(Vj T).length=T.length:=by unfold Vj; simp
theorem V5(T:Tab):(ZX T).length=T.length:=by unfold ZX; simp
abbrev VK(bb:Nat)(B:Bt):List Chunk:=[(bb,.cells (cells B).toArray 5)]
theorem rX(z:Int):∃b:UInt8,IntKind.u8.wrap z=(b.toNat:Int):=by
 refine⟨UInt8.ofNat (z%256).toNat,?_⟩;have:IntKind.u8.wrap z=z%256:=by simp[IntKind.wrap,IntKind.signed,IntKind.bits]
 rw[this];have h:(UInt8.ofNat (z%256).toNat).toNat=(z%256).toNat:=by simp; omega
 rw[h]; omega
theorem gK{E:Env}{x y:Operand}{k:IntKind}{k':IntKind}{a b:Int}(h1:ev E x= .int k a)(h2:ev E y= .int k' b)(hb:0≤b):zu (ev E) (.bin .shr x y)=some (.int k (a.fdiv (2 ^ (Nat.min b.toNat k.bits)))):=by
 simp[zu,h1,h2,Wy,WW,show ¬b<0 from by omega]
theorem BI{E:Env}{x:Operand}{k:IntKind}{a:Int}(h1:ev E x= .int k a):zu (ev E) (.conv .u8 x)=some (.int .u8 (IntKind.u8.wrap a)):=by
 simp[zu,h1]
theorem Zf.setRow{α:Type}[Enc α]{ty b c:Nat}{K sp:List α}{fz:Nat × Nat}{i:Nat}{y:α}(hz:uQ fz (cells (K++sp)).length)(hi:i<K.length)(hc:c=K.length+sp.length):
 Zf ty (.slice (some ⟨b,0,none⟩) K.length c) (K.set i y) [(b,.cells (cells ((K++sp).set i y)).toArray ty fz)]:=by
 subst hc;rw[List.set_append_left _ _ hi];have:=Zf.row (ty:=ty) (b:=b) (L:=K.set i y) (sp:=sp) (fz:=fz) (by rw[zJ] at hz ⊢; simpa using hz);simpa using this
/-- the bytes of a block -/
theorem KY{ab bb N:Nat}{kv:Value}{used top:Int}{K:List (Int × Int)}{HK:List Chunk}(hK:Zf 163 kv K HK){h:Int}{i q n:Nat}(hh:h=(i:Int)+1)(hi:K[i]?=some ((q:Int),(n:Int)))(hq:q+n≤N)(hN:N<2 ^ 40)(hl:K.length<2 ^ 40):
 Tri Tryz.prog 108 #[.pointer (some ⟨ab,0,none⟩),.int .i64 h] [ZM ab (.slice (some ⟨bb,0,none⟩) N N) kv used top,HK]
  (fun r S=>r= .slice (some ⟨bb,if n=0 then 0 else q,none⟩) n n∧S=[ZM ab (.slice (some ⟨bb,0,none⟩) N N) kv used top,HK]):=by
 subst hh;refine Tri.forget (zn Tryz.Ih (Nat.le_of_ble_eq_true rfl) ?_);unfold Tryz.Ed;obtain⟨a,c,rfl⟩:=hK.isSlice;obtain⟨hlt,hge⟩:=List.getElem?_eq_some_iff.1 hi;obtain⟨b2,sp,fz,hz,rfl,_,rfl,rfl⟩:=hK.at' (by intro h; simp[h] at hlt);refine ze (z8 (yp pC (zf (za (ze (z8 (yp (pP rfl) (yp (zS rfl) (yp (zx rfl) ?_)))))))));refine zh (zF rfl rfl ?_);refine yp (pI rfl) (yp (Zt rfl rfl (by omega)) ?_);rw[show((i:Int)+1-1)=(i:Int) from by omega];refine yp (zN rfl rfl (by omega)) ?_;refine zh (wB (l:=enc K[i]) rfl (vJ hlt rfl) rfl ?_);rw[hge];refine zh (Z8 fun p5=>?_);refine zh (vQ (c':=[.int .i64 (q:Int),.int .i64 (n:Int)]) rfl rfl rfl rfl rfl ?_);refine zf (za (ze (zY (zi (pP rfl) (zi (zS rfl) (zi (zx rfl) (Zd rfl rfl (zi (zx rfl) (Zd rfl rfl (zi (zx rfl) (Zd rfl rfl (zi (zx rfl) (Zd rfl rfl (zi (Zi rfl rfl (by omega)) (zi (zx rfl) (Zd rfl rfl (zi (zx rfl) (Zd rfl rfl (zi (Zi rfl rfl (by omega)) (zi (EI rfl rfl rfl rfl (by omega)) ?_))))))))))))))))))));rw[show q+n-q=n from by omega];have e:(if q+n=q then 0 else 0+q*1)=(if n=0 then 0 else q):=by
  by_cases h:n=0
  ·subst h; simp
  ·rw[if_neg h,if_neg (by omega)]; omega
 rw[e];refine zi (pS rfl) (zD (za (zL ?_)));exact zK (rS rfl) ⟨_,.of,rfl,rfl⟩
/-- a new block behind all others -/
theorem tT{ab bb N:Nat}{kv:Value}{used top:Nat}{K:List (Int × Int)}{HK:List Chunk}{B:Bt}(hK:Zf 163 kv K HK){h:Int}{i n:Nat}(hh:h=(i:Int)+1)(hi:i<K.length)(hn:n≤4096)(ht:top+zZ n≤N)(hut:used≤top)(hB:B.length=N)(hN:N<2 ^ 40)(hl:K.length<2 ^ 40):
 Tri Tryz.prog 107 #[.pointer (some ⟨ab,0,none⟩),.int .i64 h,.int .i64 (n:Int)] [ZM ab (.slice (some ⟨bb,0,none⟩) N N) kv (used:Int) (top:Int),VK bb B,HK]
  (fun r S=>r= .tuple #[]∧∃(B':Bt) (HK':List Chunk),B'.length=N∧(∀x,(x<top∨top+8≤x)→B'[x]?=B[x]?)∧Zf 163 kv (K.set i ((top:Int)+8,(n:Int))) HK'∧
   S=[ZM ab (.slice (some ⟨bb,0,none⟩) N N) kv ((used+zZ n:Nat):Int) ((top+zZ n:Nat):Int),VK bb B',HK']):=by
 subst hh;have hcn:=wK n hn;refine Tri.forget (zn Tryz.Ii (Nat.le_of_ble_eq_true rfl) ?_);unfold Tryz.Ee;obtain⟨a,c,rfl⟩:=hK.isSlice;obtain⟨b2,sp,fz,hz,rfl,_,rfl,rfl⟩:=hK.at' (by intro h; simp[h] at hi);refine ze (zY (zi (pP rfl) (zi (zS rfl) (zi (zx rfl) (Zd rfl rfl (zi (pI rfl) (zi (Zt rfl rfl (by omega)) (zi (pP rfl) (zi (zS rfl) (zi (zx rfl) (Zd rfl rfl (zi (Vo rfl rfl (by omega)) (zi (pI rfl) (zi (vE (uM rfl) (uM rfl)) ?_))))))))))))));rw[show((i:Int)+1-1)=(i:Int) from by omega];refine zi (zN rfl rfl (by omega)) ?_;refine zH (Z7 (y:=((top:Int)+8,(n:Int))) rfl (by simp; omega) rfl rfl hz ?_) zM;have hK2:Zf 163 (.slice (some ⟨b2,0,none⟩) K.length (K.length+sp.length)) _ _:=Zf.setRow (ty:=163) (b:=b2) (y:=((top:Int)+8,(n:Int))) hz hi rfl;generalize ([(b2,Obj.cells (cells ((K++sp).set i ((top:Int)+8,(n:Int)))).toArray 163 fz)]:List Chunk)=HK2 at hK2 ⊢;generalize (Value.slice (some ⟨b2,0,none⟩) K.length (K.length+sp.length))=kv at hK2 ⊢;refine zD (za (ze (ze (z8 (yp pC (zf (za (zo ?_))))))));refine Z4 (σ:=Nat) (fun j E S=>Has E [(0,.pointer (some ⟨ab,0,none⟩)),(1,.int .i64 ((i:Int)+1)),(2,.int .i64 n),(21,.int .i64 j)]∧j≤4∧∃B':Bt,B'.length=N∧(∀x,(x<top∨top+8≤x)→B'[x]?=B[x]?)∧
  zG S [ZM ab (.slice (some ⟨bb,0,none⟩) N N) kv (used:Int) (top:Int),VK bb B',HK2]) (fun j=>4-j) 0 ⟨⟨rfl,rfl,rfl,rfl,trivial⟩,Nat.zero_le _,B,hB,fun _ _=>rfl,.of⟩ fun j E S ⟨hE,hj,B1,hB1,hx,hJ⟩=>?_
 obtain⟨E0,e0⟩:=zl hE; subst e0; clear hE;refine zm hJ (ze (z8 (yp (ZL rfl rfl) (zf (za (ze ?_))))));refine zO rfl (fun h=>?_) (fun h=>?_)
 ·refine zq (za (ze (zo (ze (z8 (yp (pI rfl) (yp (pI rfl) (zf (za (zY (zi (pP rfl) (zi (zS rfl) (zi (zx rfl) (Zd rfl rfl (zi (pP rfl) (zi (zS rfl) (zi (zx rfl) (Zd rfl rfl (zi (pI rfl) (zi (Zi rfl rfl (by omega)) (zi (pP rfl) (zi (zS rfl) (zi (zx rfl) (Zd rfl rfl (zi (pP rfl) (zi (zS rfl) (zi (zx rfl) (Zd rfl rfl (zi (Vo rfl rfl (by omega)) (zi (pI rfl) (zi (Vo rfl rfl (by omega)) (zi (pI rfl) (zi (pI rfl) (zi (jR rfl rfl (by omega)) (zi (gK rfl rfl (by omega)) (zi (BI rfl) (zi (pI rfl) (zi (pI rfl) (zi (jR rfl rfl (by omega)) (zi (gK rfl rfl (by omega)) (zi (BI rfl) ?_)))))))))))))))))))))))))))))))))))))))));generalize ((i:Int)+1).fdiv _=z1;generalize (n:Int).fdiv _=z2;obtain⟨y1,e1⟩:=rX z1;obtain⟨y2,e2⟩:=rX z2;rw[e1,e2];refine zi (zN rfl rfl (by omega)) ?_;refine zH (Z7 (b:=bb) (fz:=(0,0)) (M:=B1) (y:=y1) (kk:=1) (i:=top+j) rfl (by omega) rfl rfl (.inl rfl) ?_) zM
  skip
  refine zi (Oy rfl rfl (by omega)) ?_;refine zH (Z7 (b:=bb) (fz:=(0,0)) (M:=B1.set (top+j) y1) (y:=y2) (kk:=1) (i:=((top:Int)+4+j).toNat) rfl (by simp; omega) rfl rfl (.inl rfl) ?_) zM;refine zD (zT (za (z8 (yp (Za rfl rfl (by omega)) (yp (pI rfl) (zf (za ?_)))))));refine⟨j+1,⟨⟨rfl,rfl,rfl,rfl,trivial⟩,by omega,(B1.set (top+j) y1).set ((top:Int)+4+j).toNat y2,by simpa using hB1,fun x h=>?_,.of⟩,by omega⟩;rw[List.getElem?_set_ne (by omega),List.getElem?_set_ne (by omega)];exact hx x h
 ·have hcz:cost (n:Int)=(zZ n:Nat):=by rw[cost,if_neg (by omega),Int.toNat_natCast]
  refine zV (zy (zy (zW (za (ze (zY (zi (pP rfl) (zi (zS rfl) (zi (zx rfl) (Zd rfl rfl (zi (pI rfl) ?_)))))))))));refine Zm (zk (Xc (n:Int)) rfl rfl fun r S' h=>?_) zM;obtain⟨rfl,rfl⟩:=h;refine⟨by simp,?_⟩;rw[hcz];have:=hcn.2.1;refine zi (Zi rfl rfl (by omega)) (zi (zS rfl) (zi (zx rfl) ?_));refine zH (XP rfl rfl (uM rfl) ?_) zM;refine zD (za (zY (zi (pP rfl) (zi (zS rfl) (zi (zx rfl) (Zd rfl rfl (zi (pI rfl) ?_)))))));refine Zm (zk (Xc (n:Int)) rfl rfl fun r S' h=>?_) zM;obtain⟨rfl,rfl⟩:=h;refine⟨by simp,?_⟩;rw[hcz];refine zi (Zi rfl rfl (by omega)) (zi (zS rfl) (zi (zx rfl) ?_));refine zH (XQ rfl rfl (uM rfl) ?_) zM;refine zD ?_;exact ZF ZG ⟨_,.of,rfl,B1,_,hB1,hx,hK2,rfl⟩
/-! ### the blocks, plainly -/
def hnd:List (Option Bt)→Nat
 | some _::l=>hnd l+1
 | _=>1
theorem wR:∀D,1≤hnd D
 | []=>Nat.le_refl _
 | none::_=>Nat.le_refl _
 | some _::l=>by unfold hnd; omega
theorem KH:∀D:List (Option Bt),hnd D≤D.length+1
 | []=>Nat.le_refl _
 | none::_=>by simp[hnd]
 | some _::l=>by have:=KH l; simp[hnd]; omega
theorem xw:∀(D:List (Option Bt)) (i:Nat),i+1<hnd D→∃b,D[i]?=some (some b)
 | [],i,h=>by simp[hnd] at h
 | none::_,i,h=>by simp[hnd] at h
 | some b::l,0,_=>⟨b,rfl⟩
 | some b::l,i+1,h=>by
  obtain⟨c,hc⟩:=xw l i (by simp[hnd] at h; omega);exact⟨c,by simpa using hc⟩
theorem vL:∀(D:List (Option Bt)),(D[hnd D-1]?).join=none
 | []=>rfl
 | none::_=>rfl
 | some b::l=>by
  have:=vL l;have hp:=wR l;have e:hnd (some b::l)-1=(hnd l-1)+1:=by simp[hnd]; omega
  rw[e,List.getElem?_cons_succ];exact this
theorem J2{D:List (Option Bt)}{h:Nat}(h1:1≤h)(h2:∀i,i+1<h→∃b,D[i]?=some (some b))(h3:(D[h-1]?).join=none):h=hnd D:=by
 have hp:=wR D;rcases Nat.lt_trichotomy h (hnd D) with hl | hl | hl
 ·obtain⟨b,hb⟩:=xw D (h-1) (by omega);rw[hb] at h3; cases h3
 ·exact hl
 ·obtain⟨b,hb⟩:=h2 (hnd D-1) (by omega);have:=vL D;rw[hb] at this; cases this
theorem wU(o:Option Bt)(D:List (Option Bt)):Zh (o::D)=Y9 o+Zh D:=by simp[Zh]
theorem UL(D E:List (Option Bt)):Zh (D++E)=Zh D+Zh E:=by simp[Zh]
theorem V8:∀{D:List (Option Bt)} {i:Nat} {x y:Option Bt},D[i]?=some x→Zh (D.set i y)+Y9 x=Zh D+Y9 y
 | [],i,x,y,h=>by simp at h
 | o::D,0,x,y,h=>by
  simp at h; subst h;rw[List.set_cons_zero,wU,wU]; omega
 | o::D,i+1,x,y,h=>by
  have:=V8 (D:=D) (i:=i) (x:=x) (y:=y) (by simpa using h);rw[List.set_cons_succ,wU,wU]; omega
theorem aR{D:List (Option Bt)}{i:Nat}{x:Option Bt}(h:D[i]?=some x):Y9 x≤Zh D:=by
 have:=V8 (y:=none) h;simp only[Y9] at this ⊢; omega
theorem V6{T:Tab}{i p:Nat}{b:Bt}(h:T[i]?=some (some (p,b))):(ZX T)[i]?=some (some b):=by
 unfold ZX; rw[List.getElem?_map,h]; rfl
theorem Vw(T:Tab)(i:Nat)(x:Option (Nat × Bt)):ZX (T.set i x)=(ZX T).set i (x.map Prod.snd):=by unfold ZX; rw[List.map_set]
theorem XF(T:Tab)(i:Nat)(x:Option (Nat × Bt)):Vj (T.set i x)=(Vj T).set i (ent x):=by unfold Vj; rw[List.map_set]
theorem wQ{T:Tab}{i j:Nat}{x y:Option (Nat × Bt)}(h:(T.set i x)[j]?=some y):(j=i∧y=x)∨(j≠i∧T[j]?=some y):=by
 rw[List.getElem?_set] at h;by_cases hij:i=j
 ·rw[if_pos hij] at h;split at h
  ·exact .inl ⟨hij.symm,by simpa using h.symm⟩
  ·cases h
 ·rw[if_neg hij] at h;exact .inr ⟨fun e=>hij e.symm,h⟩
theorem Inv.free{N:Nat}{T:Tab}{B:Bt}{used top i p:Nat}{b:Bt}(h:Inv N T B used top)(hi:T[i]?=some (some (p,b))):Inv N (T.set i none) B (used-zZ b.length) top∧zZ b.length≤used:=by
 have hu:=V8 (y:=none) (V6 hi);have hm:=aR (V6 hi);simp only[Y9] at hu hm;have hs:=h.sum;refine⟨⟨h.len,h.big,by rw[List.length_set]; exact h.few,by have:=h.ut; omega,h.tn,?_,fun j q c hj=>?_,fun j k q c q' c' hne hj hk=>?_⟩,by omega⟩
 ·rw[Vw]; simp only[Option.map_none]; omega
 ·rcases wQ hj with⟨_,h1⟩ | ⟨_,h1⟩
  ·cases h1
  ·exact h.inn j q c h1
 ·rcases wQ hj with⟨_,h1⟩ | ⟨_,h1⟩
  ·cases h1
  rcases wQ hk with⟨_,h2⟩ | ⟨_,h2⟩
  ·cases h2
  exact h.apart j k q c q' c' hne h1 h2
/-- a block's bytes change -/
theorem Inv.bytes{N:Nat}{T:Tab}{B B':Bt}{used top i p:Nat}{b b':Bt}(h:Inv N T B used top)(hi:T[i]?=some (some (p,b)))(hl:b'.length=b.length)(hB:B'.length=B.length)
 (hout:∀x,(x<p+8∨p+8+b.length≤x)→B'[x]?=B[x]?) (hin:∀x,x<b.length→B'[p+8+x]?=b'[x]?):Inv N (T.set i (some (p,b'))) B' used top:=by
 have hu:=V8 (y:=some b') (V6 hi);simp only[Y9,hl] at hu;obtain⟨h4,hpt,_⟩:=h.inn i p b hi;have hc:=(wK b.length h4).2.1;refine⟨by rw[hB]; exact h.len,h.big,by rw[List.length_set]; exact h.few,h.ut,h.tn,?_,fun j q c hj=>?_,fun j k q c q' c' hne hj hk=>?_⟩
 ·rw[Vw,h.sum]; simp only[Option.map_some]; omega
 ·rcases wQ hj with⟨_,h1⟩ | ⟨hne,h1⟩
  ·obtain⟨rfl,rfl⟩:q=p∧c=b':=by simpa using h1
   rw[hl];exact⟨h4,hpt,hin⟩
  ·obtain⟨h5,h6,h7⟩:=h.inn j q c h1;have hc2:=(wK c.length h5).2.1;have:=h.apart i j p b q c (fun e=>hne e.symm) hi h1;exact⟨h5,h6,fun x hx=>by rw[hout _ (by omega)]; exact h7 x hx⟩
 ·rcases wQ hj with⟨hji,h1⟩ | ⟨hji,h1⟩<;>rcases wQ hk with⟨hki,h2⟩ | ⟨hki,h2⟩
  ·omega
  ·obtain⟨rfl,rfl⟩:q=p∧c=b':=by simpa using h1
   rw[hl]; exact h.apart i k q b q' c' (fun e=>hki e.symm) hi h2
  ·obtain⟨rfl,rfl⟩:q'=p∧c'=b':=by simpa using h2
   rw[hl]; exact h.apart j i q c q' b hji h1 hi
  ·exact h.apart j k q c q' c' hne h1 h2
/-! ### the whole arena, as one piece of memory -/
def Ar(ab:Nat)(N:Nat)(D:List (Option Bt))(H:List Chunk):Prop:=
 ∃(bb:Nat) (kv:Value) (HK:List Chunk) (T:Tab) (B:Bt) (used top:Nat),Inv N T B used top∧ZX T=D∧Zf 163 kv (Vj T) HK∧
  H=ZM ab (.slice (some ⟨bb,0,none⟩) N N) kv (used:Int) (top:Int)++VK bb B++HK
theorem Inv.jy{N:Nat}{T:Tab}{B:Bt}{used top:Nat}(h:Inv N T B used top):(Vj T).length<2 ^ 40:=by
 have:=h.few; have:=h.big; rw[V3]; omega
theorem Ar.kW{ab N:Nat}{D:List (Option Bt)}{H:List Chunk}(h:Ar ab N D H):Zh D≤N∧1024≤N∧N≤1048576∧D.length*16≤N:=by
 obtain⟨bb,kv,HK,T,B,used,top,hI,rfl,hK,rfl⟩:=h;have:=hI.sum; have:=hI.ut; have:=hI.tn; have:=hI.big; have:=hI.few;refine⟨by omega,by omega,by omega,by rw[V5]; omega⟩
theorem Cx{n:Nat}(hn:1024≤n∧n≤1048576){z:Int}(hz:z=n):Tri Tryz.prog 48 #[.int .i64 z] [] (fun r S=>∃ab H,r= .tuple #[.pointer (some ⟨ab,0,none⟩),.int .i64 0]∧Ar ab n [] H∧S=[H]):=by
 refine Tri.forget ((IJ hn hz).mono fun r S h=>?_);obtain⟨ab,bb,rfl,rfl⟩:=h;refine⟨[_++_++[]],zG.vX (c:=[]),ab,_,rfl,⟨bb,.slice none 0 0,[],[],List.replicate n 0,0,0,⟨by simp,hn,by simp,Nat.le_refl _,Nat.zero_le _,rfl,fun i p b h=>by simp at h,fun i j p b q c _ h=>by simp at h⟩,rfl,.nil,rfl⟩,rfl⟩
theorem ru{ab N:Nat}{D:List (Option Bt)}{H:List Chunk}(hA:Ar ab N D H):Tri Tryz.prog 21 #[.pointer (some ⟨ab,0,none⟩)] [H] (fun r S=>r= .int .i64 (Zh D:Nat)∧S=[H]):=by
 obtain⟨bb,kv,HK,T,B,used,top,hI,rfl,hK,rfl⟩:=hA;refine Tri.forget (Tri.Vg ((lY.frame [VK bb B,HK]).mono fun r S h=>?_));obtain⟨S',rfl,rfl,rfl⟩:=h;exact⟨_,zG.vX,by rw[hI.sum],rfl⟩
theorem bW{ab N:Nat}{D:List (Option Bt)}{H:List Chunk}(hA:Ar ab N D H):Tri Tryz.prog 144 #[.pointer (some ⟨ab,0,none⟩)] [H] (fun r S=>r= .int .i64 (N:Int)∧S=[H]):=by
 obtain⟨bb,kv,HK,T,B,used,top,hI,rfl,hK,rfl⟩:=hA;refine Tri.forget (Tri.Vg (((Jm (B:=B) (H:=VK bb B) ?_).frame [VK bb B,HK]).mono fun r S h=>?_))
 ·rw[←hI.len]; exact Zf.full rfl
 obtain⟨S',rfl,rfl,rfl⟩:=h;exact⟨_,zG.vX,by rw[hI.len],rfl⟩
theorem rz{ab N:Nat}{D:List (Option Bt)}{H:List Chunk}(hA:Ar ab N D H):Tri Tryz.prog 104 #[.pointer (some ⟨ab,0,none⟩)] [H] (fun r S=>r= .int .i64 ((N-Zh D:Nat):Int)∧S=[H]):=by
 have hle:=hA.kW;refine Tri.forget (zn Tryz.tJ (Nat.le_of_ble_eq_true rfl) ?_);unfold Tryz.x104;refine ze (z8 (yp pC (zf (za (ze (z8 (yp (pP rfl) ?_)))))));refine zh (zk (bW hA) rfl rfl fun r S' h=>?_);obtain⟨rfl,rfl⟩:=h;refine yp (pP rfl) ?_;refine zh (zk (ru hA) rfl rfl fun r S' h=>?_);obtain⟨rfl,rfl⟩:=h;refine yp (Zt rfl rfl (by omega)) (yp (pI rfl) (zf (za (zL ?_))));exact zK (rI rfl) ⟨_,.of,congrArg (Value.int .i64) (by omega),rfl⟩
theorem mo{ab:Nat}{bv kv:Value}{used top:Int}{T:Tab}{HK:List Chunk}(hK:Zf 163 kv (Vj T) HK)(hlen:(Vj T).length<2 ^ 40):
 Tri Tryz.prog 106 #[.pointer (some ⟨ab,0,none⟩)] [ZM ab bv kv used top,HK] (fun r S=>r= .int .i64 (hnd (ZX T):Nat)∧S=[ZM ab bv kv used top,HK]):=by
 refine Tri.forget (zn Tryz.Ij (Nat.le_of_ble_eq_true rfl) ?_);unfold Tryz.Ef;refine ze (z8 (yp pC (zf (za (ze (z8 (yp pC (zf (za (ze (zo ?_)))))))))));refine Z4 (σ:=Nat) (fun h E S=>Has E [(0,.pointer (some ⟨ab,0,none⟩)),(3,.int .i64 (h:Int))]∧1≤h∧h≤T.length+1∧(∀i,i+1<h→∃b,(ZX T)[i]?=some (some b))∧zG S [ZM ab bv kv used top,HK]) (fun h=>T.length+1-h) 1 ⟨⟨rfl,rfl,trivial⟩,Nat.le_refl _,by omega,fun i h=>by omega,.self⟩ fun h E S ⟨hE,h1,h2,h3,hJ⟩=>?_
 rw[V3] at hlen;obtain⟨E0,e0⟩:=zl hE; subst e0; clear hE;refine zm hJ (ze (ze (z8 (yp (pP rfl) (yp (pI rfl) ?_)))));refine zh (zk (XJ (ab:=ab) (bv:=bv) (used:=used) (top:=top) hK (by rw[V3]; exact hlen) (h:Int)) rfl rfl fun r S' h=>?_);obtain⟨rfl,rfl⟩:=h;rw[Xx];have hg:Zl (ZX T) (h:Int)=((ZX T)[h-1]?).join:=by
  unfold Zl;rw[if_pos (by omega),show((h:Int)-1).toNat=h-1 from by omega]
 cases hb:Zl (ZX T) (h:Int) with
 | none=>
  refine zf (za (zw rfl (zV (zy (zy (zW (za (ze (z8 (yp (pI rfl) (yp (pI rfl) (zf (za (zL ?_))))))))))))));refine zK (rI rfl) ⟨_,.of,?_,rfl⟩;rw[hb] at hg;rw[←J2 h1 h3 hg.symm]
 | some b=>
  obtain⟨i,p,hi,ht⟩:=Vb hb;have hlt:=(List.getElem?_eq_some_iff.1 ht).1;refine zf (za (zI rfl (zq (za (zo (z8 (yp (pI rfl) (yp (Za rfl rfl (by omega)) (yp (pI rfl) (zf (zT (za ?_))))))))))));refine⟨h+1,⟨⟨rfl,rfl,trivial⟩,by omega,by omega,fun j hj=>?_,.of⟩,by omega⟩;by_cases hjh:j+1<h
  ·exact h3 j hjh
  ·have:j=i:=by omega
   rw[this]; exact⟨b,V6 ht⟩
def QY(D:List (Option Bt))(h:Int):Int:=if(Zl D h).isSome then 0 else 5
def WT(D:List (Option Bt))(h:Int):List (Option Bt):=if(Zl D h).isSome then D.set (h-1).toNat none else D
theorem lg{b:Bt}(h:b.length≤4096):cost (b.length:Int)=(zZ b.length:Nat):=by
 unfold cost; rw[if_neg (by omega),Int.toNat_natCast]
theorem mq{ab N:Nat}{D:List (Option Bt)}{H:List Chunk}(hA:Ar ab N D H)(h:Int):
 Tri Tryz.prog 71 #[.pointer (some ⟨ab,0,none⟩),.int .i64 h] [H] (fun r S=>r= .int .i64 (QY D h)∧∃H',Ar ab N (WT D h) H'∧S=[H']):=by
 obtain⟨bb,kv,HK,T,B,used,top,hI,rfl,hK,rfl⟩:=hA;refine Tri.Vg (Tri.forget (zn Tryz.MR (Nat.le_of_ble_eq_true rfl) ?_));unfold Tryz.NZ;have hl:=hI.jy;have hbig:=hI.big;have hut:=hI.ut;have htn:=hI.tn;refine ze (z8 (yp pC (zf (za (ze (ze (z8 (yp (pP rfl) (yp (pI rfl) ?_)))))))));refine zh (zk (XJ (ab:=ab) (bv:= .slice (some ⟨bb,0,none⟩) N N) (used:=(used:Int)) (top:=(top:Int)) hK hl h) rfl rfl fun r S' h=>?_);obtain⟨rfl,rfl⟩:=h;rw[Xx];unfold QY WT;cases hb:Zl (ZX T) h with
 | none=>
  refine yp (Ze rfl) (zf (za (zI rfl (ze (z8 (yp pC (zf (za (zL (zX ?_))))))))));exact zK (rI rfl) ⟨_,zG.vX,rfl,_,⟨bb,kv,HK,T,B,used,top,hI,rfl,hK,rfl⟩,rfl⟩
 | some b=>
  obtain⟨i,p,rfl,ht⟩:=Vb hb;obtain⟨hI2,hcu⟩:=hI.free ht;obtain⟨h4,_,_⟩:=hI.inn i p b ht;have hk:=uD ht;obtain⟨hlt,hge⟩:=List.getElem?_eq_some_iff.1 hk;obtain⟨a,c,rfl⟩:=hK.isSlice;obtain⟨b2,sp,fz,hz,rfl,_,rfl,rfl⟩:=hK.at' (by intro h; simp[h] at hlt);refine yp (Ze rfl) (zf (za (zw rfl (zq (za (ze (zY (zi (pP rfl) (zi (zS rfl) (zi (zx rfl) (Zd rfl rfl (zi (pP rfl) (zi (zS rfl) (zi (zx rfl) (Zd rfl rfl (zi (pI rfl) (zi (Zt rfl rfl (by omega)) ?_)))))))))))))))));rw[show((i:Int)+1-1)=(i:Int) from by omega];refine zi (zN rfl rfl (by omega)) (zi (zx rfl) (Zd (v:= .int .i64 ((b.length:Nat):Int)) rfl ((wH (kk:=2) (j:=1) hlt rfl (by omega)).trans (by rw[hge]; rfl)) ?_));refine Zm (zk (Xc _) rfl rfl fun r S' h=>?_) zM;obtain⟨rfl,rfl⟩:=h;refine⟨by simp,?_⟩;rw[lg h4];refine zi (Zt rfl rfl (by omega)) (zi (zS rfl) (zi (zx rfl) ?_));rw[show((used:Int)-(zZ b.length:Nat))=((used-zZ b.length:Nat):Int) from by omega];refine zH (XQ rfl rfl (uM rfl) ?_) zM;refine zD (za (ze (z8 (yp (pP rfl) (yp (zS rfl) (yp (zx rfl) ?_))))));refine zh (zF rfl rfl ?_);refine yp (pI rfl) (yp (Zt rfl rfl (by omega)) (yp vF ?_));rw[show((i:Int)+1-1)=(i:Int) from by omega];refine yp (zN rfl rfl (by omega)) ?_;refine zh (Z7 (y:=((0:Int),(0:Int))) rfl (by simp; omega) rfl rfl hz ?_);have hK2:Zf 163 (.slice (some ⟨b2,0,none⟩) (Vj T).length ((Vj T).length+sp.length)) _ _:=Zf.setRow (ty:=163) (b:=b2) (y:=((0:Int),(0:Int))) hz hlt rfl;generalize ([(b2,Obj.cells (cells ((Vj T++sp).set i ((0:Int),(0:Int)))).toArray 163 fz)]:List Chunk)=HK2 at hK2 ⊢;generalize (Value.slice (some ⟨b2,0,none⟩) (Vj T).length ((Vj T).length+sp.length))=kv at hK2 ⊢;refine zf (za (ze (z8 (yp pC (zf (za (zL ?_)))))));exact zK (rI rfl) ⟨[ZM ab (.slice (some ⟨bb,0,none⟩) N N) kv ((used-zZ b.length:Nat):Int) (top:Int)++VK bb B++HK2],zG.vX,rfl,_,⟨bb,kv,HK2,T.set i none,B,used-zZ b.length,top,hI2,by rw[Vw]; rfl,by rw[XF]; exact hK2,rfl⟩,rfl⟩
def y5(D:List (Option Bt))(h:Int):Int × Bool:=match Zl D h with | some b=>(b.length,true) | none=>(0,false)
theorem lZ{ab N:Nat}{D:List (Option Bt)}{H:List Chunk}(hA:Ar ab N D H)(h:Int):
 Tri Tryz.prog 113 #[.pointer (some ⟨ab,0,none⟩),.int .i64 h] [H] (fun r S=>r= .tuple #[.int .i64 (y5 D h).1,.bool (y5 D h).2]∧S=[H]):=by
 obtain⟨bb,kv,HK,T,B,used,top,hI,rfl,hK,rfl⟩:=hA;refine Tri.Vg (Tri.forget (zn Tryz.Ib (Nat.le_of_ble_eq_true rfl) ?_));unfold Tryz.x113;refine ze (z8 (yp pC (yp pC (zf (za (ze (ze (z8 (yp (pP rfl) (yp (pI rfl) ?_))))))))));refine zh (zk (XJ (ab:=ab) (bv:= .slice (some ⟨bb,0,none⟩) N N) (used:=(used:Int)) (top:=(top:Int)) hK hI.jy h) rfl rfl fun r S' h=>?_);obtain⟨rfl,rfl⟩:=h;rw[Xx];unfold y5;cases hb:Zl (ZX T) h with
 | none=>
  refine yp (Ze rfl) (zf (za (zI rfl (ze (z8 (yp pC (yp pC (zf (za (zL (zX ?_)))))))))));exact zK (fU rfl rfl) ⟨_,zG.vX,rfl,rfl⟩
 | some b=>
  obtain⟨i,p,rfl,ht⟩:=Vb hb;have hl:=hI.jy;have hk:=uD ht;obtain⟨hlt,hge⟩:=List.getElem?_eq_some_iff.1 hk;obtain⟨a,c,rfl⟩:=hK.isSlice;obtain⟨b2,sp,fz,hz,rfl,_,rfl,rfl⟩:=hK.at' (by intro h; simp[h] at hlt);refine yp (Ze rfl) (zf (za (zw rfl (zq (za (ze (z8 (yp (pP rfl) (yp (zS rfl) (yp (zx rfl) ?_))))))))));refine zh (zF rfl rfl ?_);refine yp (pI rfl) (yp (Zt rfl rfl (by omega)) ?_);rw[show((i:Int)+1-1)=(i:Int) from by omega];refine yp (zN rfl rfl (by omega)) (yp (zx rfl) ?_);refine zh (zF (v:= .int .i64 ((b.length:Nat):Int)) rfl ((wH (kk:=2) (j:=1) hlt rfl (by omega)).trans (by rw[hge]; rfl)) ?_);refine yp (pI rfl) (yp pC (zf (za (zL ?_))));exact zK (fU rfl rfl) ⟨_,zG.vX,rfl,rfl⟩
theorem sD{E:Env}{S:zB}{t u:Tmp}{p:Option Addr}{n m:Nat}{k:IntKind}{a:Int}(hv:E t= .slice p n m)(hv':E u= .int k a):Xo Tryz.prog #[.tmp t,.tmp u] E S (.tuple #[.slice p n m,.int k a]):=res2 hv hv'
/-- what is wrong with so many bytes of a block from there on -/
def ZV(D:List (Option Bt))(h at_ n:Int):Int:=match Zl D h with
 | none=>5
 | some b=>if at_<0∨n<0∨(b.length:Int)<n∨(b.length:Int)-n<at_ then 1 else 0
theorem mg{ab bb N:Nat}{kv:Value}{used top:Nat}{T:Tab}{HK:List Chunk}{B:Bt}(hI:Inv N T B used top)(hK:Zf 163 kv (Vj T) HK)(h at_ n:Int):
 Tri Tryz.prog 110 #[.pointer (some ⟨ab,0,none⟩),.int .i64 h,.int .i64 at_,.int .i64 n] [ZM ab (.slice (some ⟨bb,0,none⟩) N N) kv (used:Int) (top:Int),HK]
  (fun r S=>((ZV (ZX T) h at_ n≠0∧r= .tuple #[.slice none 0 0,.int .i64 (ZV (ZX T) h at_ n)])∨(ZV (ZX T) h at_ n=0∧∃(i p:Nat) (b:Bt) (x y o c:Nat),h=(i:Int)+1∧T[i]?=some (some (p,b))∧at_=x∧n=y∧x+y≤b.length∧(0<y→o=p+8+x)∧o+y≤N∧r= .tuple #[.slice (some ⟨bb,o,none⟩) y c,.int .i64 0]))∧
   S=[ZM ab (.slice (some ⟨bb,0,none⟩) N N) kv (used:Int) (top:Int),HK]):=by
 refine Tri.forget (zn Tryz.Ie (Nat.le_of_ble_eq_true rfl) ?_);unfold Tryz.Eb;have hl:=hI.jy;have hbig:=hI.big;refine ze (z8 (yp pC (yp pC (zf (za (ze (ze (z8 (yp (pP rfl) (yp (pI rfl) ?_))))))))));refine zh (zk (XJ (ab:=ab) (bv:= .slice (some ⟨bb,0,none⟩) N N) (used:=(used:Int)) (top:=(top:Int)) hK hl h) rfl rfl fun r S' h=>?_);obtain⟨rfl,rfl⟩:=h;rw[Xx];cases hb:Zl (ZX T) h with
 | none=>
  refine yp (Ze rfl) (zf (za (zI rfl (ze (z8 (yp pC (yp pC (zf (za (zL (zX ?_)))))))))));have hp:ZV (ZX T) h at_ n=5:=by unfold ZV; rw[hb]
  exact zK (sD rfl rfl) ⟨_,.of,.inl ⟨by rw[hp]; decide,by rw[hp]⟩,rfl⟩
 | some b=>
  obtain⟨i,p,rfl,ht⟩:=Vb hb;obtain⟨h4,hpt,_⟩:=hI.inn i p b ht;have htn:=hI.tn;have hc:=(wK b.length h4).2.1;refine yp (Ze rfl) (zf (za (zw rfl (zq (za (ze (z8 (yp (pP rfl) (yp (pI rfl) ?_)))))))));refine zh (zk (KY (ab:=ab) (bb:=bb) (N:=N) (used:=(used:Int)) (top:=(top:Int)) hK (h:=(i:Int)+1) (i:=i) (q:=p+8) (n:=b.length) rfl ((uD ht).trans (by simp)) (by omega) (by omega) hl) rfl rfl fun r S' h=>?_);obtain⟨rfl,rfl⟩:=h;refine yp (pS rfl) (zf (za (ze (ze (z8 (yp (pI rfl) (yp (ZL rfl rfl) (yp (pB rfl) ?_))))))));have bad:(at_<0∨n<0∨(b.length:Int)<n∨(b.length:Int)-n<at_)→ZV (ZX T) ((i:Int)+1) at_ n=1:=fun h=>by unfold ZV; rw[hb]; exact if_pos h
  by_cases c1:at_<0
  ·rw[decide_eq_true c1];refine Z5 rfl (Z5 rfl (yp (zP rfl rfl) (yp (pB rfl) (Z5 rfl (Z5 rfl (Z5 rfl (Z5 rfl (yp (zP rfl rfl) (yp (pB rfl) (Z5 rfl (Z5 rfl (Z5 rfl (Z5 rfl (Z5 rfl (Z5 rfl (yp (zP rfl rfl) (zf (za (zI rfl (ze (z8 (yp pC (yp pC (zf (za (zL (zX ?_)))))))))))))))))))))))))));exact zK (sD rfl rfl) ⟨_,.of,.inl ⟨by rw[bad (.inl c1)]; decide,by rw[bad (.inl c1)]⟩,rfl⟩
  rw[decide_eq_false c1];refine Z0 rfl (Zc (pI rfl) (Z0 rfl (Zc (ZL rfl rfl) (yp (zU rfl rfl) (yp (pB rfl) ?_)))));by_cases c2:n<0
  ·rw[decide_eq_true c2];refine Z5 rfl (Z5 rfl (Z5 rfl (Z5 rfl (yp (zP rfl rfl) (yp (pB rfl) (Z5 rfl (Z5 rfl (Z5 rfl (Z5 rfl (Z5 rfl (Z5 rfl (yp (zP rfl rfl) (zf (za (zI rfl (ze (z8 (yp pC (yp pC (zf (za (zL (zX ?_)))))))))))))))))))))));exact zK (sD rfl rfl) ⟨_,.of,.inl ⟨by rw[bad (.inr (.inl c2))]; decide,by rw[bad (.inr (.inl c2))]⟩,rfl⟩
  rw[decide_eq_false c2];refine Z0 rfl (Zc (pI rfl) (Z0 rfl (Zc (pS rfl) (Z0 rfl (Zc (Zz rfl) (Z0 rfl (Zc (VE rfl rfl) (yp (zU rfl rfl) (yp (pB rfl) ?_)))))))));by_cases c3:(b.length:Int)<n
  ·rw[decide_eq_true c3];refine Z5 rfl (Z5 rfl (Z5 rfl (Z5 rfl (Z5 rfl (Z5 rfl (yp (zP rfl rfl) (zf (za (zI rfl (ze (z8 (yp pC (yp pC (zf (za (zL (zX ?_)))))))))))))))));exact zK (sD rfl rfl) ⟨_,.of,.inl ⟨by rw[bad (.inr (.inr (.inl c3)))]; decide,by rw[bad (.inr (.inr (.inl c3)))]⟩,rfl⟩
  rw[decide_eq_false c3];refine Z0 rfl (Zc (pI rfl) (Z0 rfl (Zc (pS rfl) (Z0 rfl (Zc (Zz rfl) (Z0 rfl (Zc (pI rfl) (Z0 rfl (Zc (Zt rfl rfl (by omega)) (Z0 rfl (Zc (VE rfl rfl) (yp (zU rfl rfl) (zf (za ?_))))))))))))));by_cases c4:(b.length:Int)-n<at_
  ·rw[decide_eq_true c4];refine zI rfl (ze (z8 (yp pC (yp pC (zf (za (zL (zX ?_))))))));exact zK (sD rfl rfl) ⟨_,.of,.inl ⟨by rw[bad (.inr (.inr (.inr c4)))]; decide,by rw[bad (.inr (.inr (.inr c4)))]⟩,rfl⟩
  rw[decide_eq_false c4];obtain⟨x,rfl⟩:=Int.eq_ofNat_of_zero_le (show 0≤at_ from by omega);obtain⟨y,rfl⟩:=Int.eq_ofNat_of_zero_le (show 0≤n from by omega);refine zw rfl (zq (za (ze (z8 (yp (pS rfl) (yp (pI rfl) (yp (pI rfl) (yp (pI rfl) (yp (Zi rfl rfl (by omega)) (yp (gJ (j:=x) (k:=x+y) rfl rfl rfl (by omega)) ?_))))))))));obtain⟨o,ho⟩:∃o,o=(if b.length=x then(if b.length=0 then 0 else p+8) else(if b.length=0 then 0 else p+8)+x*1):=⟨_,rfl⟩
  rw[←ho,show x+y-x=y from by omega];refine yp (pS rfl) (yp pC (zf (za (zL ?_))));have hp:ZV (ZX T) ((i:Int)+1) (x:Int) (y:Int)=0:=by
   unfold ZV; rw[hb]; exact if_neg (by omega)
  refine zK (sD rfl rfl) ⟨_,.of,.inr ⟨hp,i,p,b,x,y,o,b.length-x,rfl,ht,rfl,rfl,by omega,fun hy=>?_,?_,rfl⟩,rfl⟩
  ·rw[ho,if_neg (by omega),if_neg (by omega)]; omega
  ·rw[ho];split
   ·split<;>omega
   ·split<;>omega
/-- the bytes that are read -/
def UU(D:List (Option Bt))(h at_ n:Int):Bt:=if ZV D h at_ n=0 then(((Zl D h).getD []).drop at_.toNat).take n.toNat else []
theorem jD{bb o y c ty:Nat}{B Y:Bt}{S:zB}(hm:[(bb,Obj.cells (cells B).toArray ty)]∈S)(hy:Y.length=y)(h:∀k,k<y→B[o+k]?=Y[k]?):Src S (.slice (some ⟨bb,o,none⟩) y c) Y:=by
 rcases Nat.eq_zero_or_pos y with h0 | h0
 ·subst h0;obtain rfl:=List.length_eq_zero_iff.1 hy;exact .nil
 ·subst hy;refine .part hm ?_;have e:(B.drop o).take Y.length=Y:=by
   apply List.ext_getElem?;intro k;by_cases hk:k<Y.length
   ·rw[List.getElem?_take_of_lt hk,List.getElem?_drop,h k hk]
   ·rw[List.getElem?_eq_none (by rw[List.length_take]; omega),List.getElem?_eq_none (by omega)]
  show((cells B).drop o).take (Y.length*1)=_;have h1:=wZ B o;have h2:=WA (B.drop o) Y.length;rw[show Enc.k UInt8=1 from rfl] at h1 h2;rw[Nat.mul_one] at h1;rw[h1,h2,e]
theorem yS{v:Value}{L:Bt}{S:zB}(hS:Src S v L)(hnil:v= .slice none 0 0∨∃a c,v= .slice (some a) L.length c)(hlen:L.length<2 ^ 40):
 Tri Tryz.prog 149 #[v] S (fun r S'=>∃H',Zf 5 r L H'∧S'=H'::S):=
 kF (ty:=5) (k:=1) (bytes:=1) Tryz.GN rfl 0 rfl hS hnil hlen (by omega)
theorem qX{ab N:Nat}{D:List (Option Bt)}{H:List Chunk}(hA:Ar ab N D H)(h at_ n:Int):
 Tri Tryz.prog 114 #[.pointer (some ⟨ab,0,none⟩),.int .i64 h,.int .i64 at_,.int .i64 n] [H]
  (fun r S=>∃v Ho,r= .tuple #[v,.int .i64 (ZV D h at_ n)]∧Zf 5 v (UU D h at_ n) Ho∧S=[Ho,H]):=by
 obtain⟨bb,kv,HK,T,B,used,top,hI,rfl,hK,rfl⟩:=hA;refine Tri.Vg (Tri.forget (zn Tryz.Ia (Nat.le_of_ble_eq_true rfl) ?_));unfold Tryz.x114;refine ze (z8 (yp pC (yp pC (zf (za (ze (z8 (yp (pP rfl) (yp (pI rfl) (yp (pI rfl) (yp (pI rfl) ?_)))))))))));refine zh (zk (mg (ab:=ab) (bb:=bb) hI hK h at_ n) rfl rfl fun r S' h=>?_);obtain⟨hr,rfl⟩:=h;rcases hr with⟨hne,rfl⟩ | ⟨heq,i,p,b,x,y,o,c,rfl,ht,rfl,rfl,hxy,ho,hoN,rfl⟩
 ·refine yp (pU rfl) (yp (pExt rfl rfl) (yp (pExt rfl rfl) (yp (pS rfl) (yp (pI rfl) (zf (za (ze (z8 (yp (pS rfl) ?_)))))))));refine zh (zk (yS (L:=[]) (S:=[]) .nil (.inl rfl) (by simp)) rfl rfl fun r S' h=>?_);obtain⟨Ho,hLo,rfl⟩:=h;obtain⟨a,c,rfl⟩:=hLo.isSlice;refine yp (pI rfl) (yp (pS rfl) (yp (pI rfl) (zf (za (zL ?_)))));refine zK (sD rfl rfl) ⟨[Ho,ZM ab (.slice (some ⟨bb,0,none⟩) N N) kv (used:Int) (top:Int)++VK bb B++HK],.trans (.of (S0:=[Ho,ZM ab (.slice (some ⟨bb,0,none⟩) N N) kv (used:Int) (top:Int),VK bb B,HK])) ⟨[],by simp⟩,_,Ho,rfl,?_,rfl⟩;unfold UU; rw[if_neg hne]; exact hLo
 ·obtain⟨_,_,hin⟩:=hI.inn i p b ht;have h4:=(hI.inn i p b ht).1;have hY:((b.drop x).take y).length=y:=by rw[List.length_take,List.length_drop]; omega
  refine yp (pU rfl) (yp (pExt rfl rfl) (yp (pExt rfl rfl) (yp (pS rfl) (yp (pI rfl) (zf (za (ze (z8 (yp (pS rfl) ?_)))))))));refine zh (zk (yS (L:=(b.drop x).take y) (S:=[VK bb B]) (jD (bb:=bb) (o:=o) (B:=B) (ty:=5) (by simp) hY fun k hk=>?_) (.inr ⟨⟨bb,o,none⟩,c,by rw[hY]⟩) (by omega)) rfl rfl fun r S' h=>?_)
  ·rw[ho (by omega),List.getElem?_take_of_lt hk,List.getElem?_drop,show p+8+x+k=p+8+(x+k) from by omega];exact hin _ (by omega)
  obtain⟨Ho,hLo,rfl⟩:=h;obtain⟨a,c2,rfl⟩:=hLo.isSlice;refine yp (pI rfl) (yp (pS rfl) (yp (pI rfl) (zf (za (zL ?_)))));refine zK (sD rfl rfl) ⟨[Ho,ZM ab (.slice (some ⟨bb,0,none⟩) N N) kv (used:Int) (top:Int)++VK bb B++HK],.trans (.of (S0:=[Ho,ZM ab (.slice (some ⟨bb,0,none⟩) N N) kv (used:Int) (top:Int),VK bb B,HK])) ⟨[],by simp⟩,_,Ho,by rw[heq],?_,rfl⟩;unfold UU;rw[if_pos heq,KI,V6 ht];exact hLo
/-- what is written -/
def spl(b:Bt)(x:Nat)(Y:Bt):Bt:=b.take x++Y++b.drop (x+Y.length)
theorem UN{b Y:Bt}{x:Nat}(h:x+Y.length≤b.length):(spl b x Y).length=b.length:=by
 unfold spl; simp; omega
theorem Xz{b Y:Bt}{x:Nat}(h:x+Y.length≤b.length)(k:Nat):(spl b x Y)[k]?=if k<x then b[k]? else if k<x+Y.length then Y[k-x]? else b[k]?:=by
 have h1:(b.take x).length=x:=by rw[List.length_take]; omega
 unfold spl;split
 ·next h2=>rw[List.append_assoc,List.getElem?_append_left (by omega),List.getElem?_take_of_lt h2]
 ·split
  ·next h3=>rw[List.append_assoc,List.getElem?_append_right (by omega),List.getElem?_append_left (by omega),h1]
  ·next h3=>
   rw[List.getElem?_append_right (by simp; omega),List.getElem?_drop];congr 1;simp; omega
def um(D:List (Option Bt))(h at_:Int)(Y:Bt):List (Option Bt):=if ZV D h at_ Y.length=0 then D.set (h-1).toNat (some (spl ((Zl D h).getD []) at_.toNat Y)) else D
theorem YB{B Y:Bt}{o:Nat}(h:o+Y.length≤B.length):Zr (cells B).toArray.toList o (cells (Y.take Y.length))=cells (spl B o Y):=by
 have:=Wh B o Y h;rw[show Enc.k UInt8=1 from rfl,Nat.mul_one] at this;rw[List.take_length];exact this
theorem KX{ab N:Nat}{D:List (Option Bt)}{H:List Chunk}{S0:zB}(hA:Ar ab N D H)(h at_:Int){v:Value}{Y:Bt}(hY:Src S0 v Y)(_hl:Y.length≤maxLen):
 Tri Tryz.prog 64 #[.pointer (some ⟨ab,0,none⟩),.int .i64 h,.int .i64 at_,v] (H::S0)
  (fun r S=>r= .int .i64 (ZV D h at_ Y.length)∧∃H',Ar ab N (um D h at_ Y) H'∧S=H'::S0):=by
 obtain⟨bb,kv,HK,T,B,used,top,hI,rfl,hK,rfl⟩:=hA;refine Tri.Vg (Tri.forget (zn Tryz.MW (Nat.le_of_ble_eq_true rfl) ?_));unfold Tryz.O6;obtain⟨va,vc,rfl⟩:=hY.isSlice;refine ze (z8 (yp pC (zf (za (ze (z8 (yp (pP rfl) (yp (pI rfl) (yp (pI rfl) (yp (pS rfl) (yp (Zz rfl) ?_)))))))))));refine zh (zk (mg (ab:=ab) (bb:=bb) hI hK h at_ (Y.length:Nat)) rfl rfl fun r S' h=>?_);obtain⟨hr,rfl⟩:=h;rcases hr with⟨hne,rfl⟩ | ⟨heq,i,p,b,x,y,o,c,rfl,ht,rfl,hyl,hxy,ho,hoN,rfl⟩
 ·refine yp (pU rfl) (yp (pExt rfl rfl) (yp (pExt rfl rfl) (yp (pS rfl) (yp (pI rfl) (zf (za (ze (z8 (yp (pS rfl) (yp (pS rfl) ?_))))))))));refine zh (Ae rfl rfl (hY.more fun s hs=>by simp[hs]) rfl ?_);refine zf (za (ze (z8 (yp (pI rfl) (yp (pI rfl) (zf (za (zL ?_))))))));refine zK (rI rfl) ⟨(ZM ab (.slice (some ⟨bb,0,none⟩) N N) kv (used:Int) (top:Int)++VK bb B++HK)::S0,.trans (.of (S0:=ZM ab (.slice (some ⟨bb,0,none⟩) N N) kv (used:Int) (top:Int)::VK bb B::HK::S0)) ⟨[],by simp⟩,rfl,_,⟨bb,kv,HK,T,B,used,top,hI,?_,hK,rfl⟩,rfl⟩;unfold um; rw[if_neg hne]
 ·obtain rfl:Y.length=y:=by omega
  obtain⟨h4,hpt,hin⟩:=hI.inn i p b ht;have hBl:=hI.len;refine yp (pU rfl) (yp (pExt rfl rfl) (yp (pExt rfl rfl) (yp (pS rfl) (yp (pI rfl) (zf (za (ze (z8 (yp (pS rfl) (yp (pS rfl) ?_))))))))));refine zh (rM (b:=bb) (o:=o) (fz:=(0,0)) rfl rfl (hY.more fun s hs=>by simp[hs]) rfl (by simp[zJ,show Enc.k UInt8=1 from rfl]; omega) (.inl rfl) ?_);rw[YB (by omega)];refine zf (za (ze (z8 (yp (pI rfl) (yp (pI rfl) (zf (za (zL ?_))))))));have hsp:=Xz (b:=B) (Y:=Y) (x:=o) (by omega);have hI2:=hI.bytes (b':=spl b x Y) (B':=spl B o Y) ht (UN hxy) (UN (by omega)) (fun z hz=>?_) (fun z hz=>?_)
  rotate_left
  ·rw[hsp];rcases Nat.eq_zero_or_pos Y.length with h0 | h0
   ·split
    ·rfl
    ·rw[if_neg (by omega)]
   ·have:=ho h0;split
    ·rfl
    ·rw[if_neg (by omega)]
  ·rw[hsp,Xz hxy];rcases Nat.eq_zero_or_pos Y.length with h0 | h0
   ·have e1:(if p+8+z<o then B[p+8+z]? else if p+8+z<o+Y.length then Y[p+8+z-o]? else B[p+8+z]?)=B[p+8+z]?:=by
     split
     ·rfl
     ·rw[if_neg (by omega)]
    have e2:(if z<x then b[z]? else if z<x+Y.length then Y[z-x]? else b[z]?)=b[z]?:=by
     split
     ·rfl
     ·rw[if_neg (by omega)]
    rw[e1,e2]; exact hin z hz
   ·have:=ho h0;by_cases c1:z<x
    ·rw[if_pos c1,if_pos (by omega)]; exact hin z hz
    ·rw[if_neg c1,if_neg (by omega)];by_cases c2:z<x+Y.length
     ·rw[if_pos c2,if_pos (by omega)]; congr 1; omega
     ·rw[if_neg c2,if_neg (by omega)]; exact hin z hz
  have hks:Vj (T.set i (some (p,spl b x Y)))=Vj T:=by
   rw[XF];refine List.ext_getElem? fun j=>?_
   rw[List.getElem?_set];split
   ·next hij=>
    subst hij;rw[uD ht];split
    ·simp[ent,UN hxy]
    ·next hh=>rw[V3] at hh; exact absurd (List.getElem?_eq_some_iff.1 ht).1 hh
   ·rfl
  refine zK (rI rfl) ⟨(ZM ab (.slice (some ⟨bb,0,none⟩) N N) kv (used:Int) (top:Int)++VK bb (spl B o Y)++HK)::S0,.trans (.of (S0:=ZM ab (.slice (some ⟨bb,0,none⟩) N N) kv (used:Int) (top:Int)::VK bb (spl B o Y)::HK::S0)) ⟨[],by simp⟩,by rw[heq],_,⟨bb,kv,HK,T.set i (some (p,spl b x Y)),spl B o Y,used,top,hI2,?_,by rw[hks]; exact hK,rfl⟩,rfl⟩;unfold um;rw[if_pos heq,KI,V6 ht,Vw,show((i:Int)+1-1).toNat=i from by omega];rfl
theorem zG.re{S S1 S2 G:zB}(h:S1.flatten=S2.flatten)[k:Sub S S1 G]:zG S S2:=zG.trans (zG.of (h:=k)) ⟨[],by rw[h]; simp⟩
/-- all blocks: their handles and sizes -/
def hlist(i:Nat):List (Option Bt)→List (Int × Int)
 | []=>[]
 | none::l=>hlist (i+1) l
 | some b::l=>((i:Int)+1,(b.length:Int))::hlist (i+1) l
theorem V4:∀(A B:List (Option Bt)) (i:Nat),hlist i (A++B)=hlist i A++hlist (i+A.length) B
 | [],B,i=>rfl
 | none::A,B,i=>by
  have:=V4 A B (i+1);simp only[List.cons_append,hlist,this,List.length_cons];rw[show i+1+A.length=i+(A.length+1) from by omega]
 | some b::A,B,i=>by
  have:=V4 A B (i+1);simp only[List.cons_append,hlist,this,List.length_cons];rw[show i+1+A.length=i+(A.length+1) from by omega]
theorem iM{D:List (Option Bt)}{j:Nat}{o:Option Bt}(h:D[j]?=some o):hlist 0 D=hlist 0 (D.take j)++hlist j (o::D.drop (j+1))∧hlist 0 (D.take (j+1))=hlist 0 (D.take j)++hlist j [o]:=by
 obtain⟨hj,rfl⟩:=List.getElem?_eq_some_iff.1 h;have hl:(D.take j).length=j:=by rw[List.length_take]; omega
 constructor
 ·have:=V4 (D.take j) (D.drop j) 0;rw[List.take_append_drop,hl,Nat.zero_add,List.drop_eq_getElem_cons hj] at this;exact this
 ·have:=V4 (D.take j) [D[j]] 0;rw[hl,Nat.zero_add] at this;rw[←this,List.take_add_one,h];rfl
theorem X3:∀(D:List (Option Bt)) (i:Nat),(hlist i D).length≤D.length
 | [],_=>Nat.le_refl _
 | none::l,i=>by have:=X3 l (i+1); simp[hlist]; omega
 | some b::l,i=>by have:=X3 l (i+1); simp[hlist]; omega
theorem VZ:∀(D:List (Option Bt)) (i:Nat) (e:Int × Int),e∈hlist i D↔∃j b,D[j]?=some (some b)∧e=(((i+j:Nat):Int)+1,(b.length:Int))
 | [],i,e=>by simp[hlist]
 | none::l,i,e=>by
  rw[hlist,VZ l (i+1) e];constructor
  ·rintro⟨j,b,h,rfl⟩;exact⟨j+1,b,by simpa using h,by rw[show i+(j+1)=i+1+j from by omega]⟩
  ·rintro⟨j,b,h,rfl⟩;cases j with
   | zero=>simp at h
   | succ j=>exact⟨j,b,by simpa using h,by rw[show i+(j+1)=i+1+j from by omega]⟩
 | some c::l,i,e=>by
  rw[hlist,List.mem_cons,VZ l (i+1) e];constructor
  ·rintro(rfl | ⟨j,b,h,rfl⟩)
   ·exact⟨0,c,rfl,rfl⟩
   ·exact⟨j+1,b,by simpa using h,by rw[show i+(j+1)=i+1+j from by omega]⟩
  ·rintro⟨j,b,h,rfl⟩;cases j with
   | zero=>simp at h; subst h; exact .inl rfl
   | succ j=>exact .inr ⟨j,b,by simpa using h,by rw[show i+(j+1)=i+1+j from by omega]⟩
def hv(e:Int × Int):Array Value:= #[.int .i64 e.1,.int .i64 e.2]
theorem bV{p:Option Addr}:Tri Tryz.prog 145 #[.pointer p] [] (fun r S=>∃bx,r= .func (.func 163) #[] #[.pointer (some ⟨bx,0,none⟩)]∧S=[[(bx,.cells #[.pointer p] 26)]]):=by
 refine Tri.forget (zn Tryz.GV (Nat.le_of_ble_eq_true rfl) ?_);unfold Tryz.Dv;refine ze (z8 ?_);refine zh (mO (jI rfl) fun p1=>?_);refine yp pC (zf (za (ze (z8 (yp (gQ (jI rfl)) (yp (pF rfl) (zf (za (zL ?_)))))))));exact zK (rF rfl) ⟨_,.of,_,rfl,rfl⟩
theorem lC{v:Value}{L:List (Int × Int)}{H:List Chunk}(hS:Zf 163 v L H)(hlen:L.length<2 ^ 40):
 Tri Tryz.prog 164 #[v] [H] (fun r S'=>∃H',Zf 163 r L H'∧S'=[H',H]):=
 kF (ty:=163) (k:=2) (bytes:=16) Tryz.Gu rfl (0,0) rfl (hS.src (by simp)) hS.Fa hlen (by omega)
theorem bG{ab N bx:Nat}{D:List (Option Bt)}{H:List Chunk}{S0:zB}(hA:Ar ab N D H):
 Y8 Tryz.prog 163 #[] #[.pointer (some ⟨bx,0,none⟩)] [[(bx,.cells #[.pointer (some ⟨ab,0,none⟩)] 26)]] (H::S0)
  (fun pre x=>pre++[x]<+:(hlist 0 D).map hv) (fun xs=>xs=(hlist 0 D).map hv):=by
 obtain⟨bb,kv,HK,T,B,used,top,hI,rfl,hK,rfl⟩:=hA;have hl:=hI.jy;intro l c J Jx hJ0 hround;have e0:(#[]++ #[.func (.yield l) #[] #[]]++ #[.pointer (some ⟨bx,0,none⟩)]:Array Value)= #[.func (.yield l) #[] #[],.pointer (some ⟨bx,0,none⟩)]:=rfl;rw[e0];refine Tri.perm (S:=[[c],[(bx,.cells #[.pointer (some ⟨ab,0,none⟩)] 26)],ZM ab (.slice (some ⟨bb,0,none⟩) N N) kv (used:Int) (top:Int),VK bb B,HK]++S0) (by simp) ?_;refine Tri.forget (zn Tryz.Gv (Nat.le_of_ble_eq_true rfl) ?_);unfold Tryz.Dl;obtain⟨a0,c0,rfl⟩:=hK.isSlice;refine ze (ze (z8 ?_));refine zh (zF rfl rfl ?_);refine yp (wJ rfl rfl) (zf (za (zw rfl (zq (za (ze (z8 ?_)))))));refine zh (zF rfl rfl ?_);refine yp (zS rfl) (yp (zx rfl) ?_);refine zh (zF rfl rfl ?_);refine zh (zk (lC hK hl) rfl rfl fun v S' h=>?_);obtain⟨H1,hK1,rfl⟩:=h;obtain⟨a1,c1,rfl⟩:=hK1.isSlice;refine yp (Zz rfl) (yp pC (zf (za (zo ?_))));refine Z4 (σ:=Nat) (fun i E S=>Has E [(0,.func (.yield l) #[] #[]),(11,.slice a1 (Vj T).length c1),(12,.int .i64 ((Vj T).length:Int)),(13,.int .i64 i)]∧i≤T.length∧∃T',J ((hlist 0 ((ZX T).take i)).map hv) T'∧zG S (H1::T')) (fun i=>T.length-i) 0
  ⟨⟨rfl,rfl,rfl,rfl,trivial⟩,Nat.zero_le _,[c]::(ZM ab (.slice (some ⟨bb,0,none⟩) N N) (.slice a0 (Vj T).length c0) (used:Int) (top:Int)++VK bb B++HK)::S0,hJ0,zG.re (S1:=[H1,[c],ZM ab (.slice (some ⟨bb,0,none⟩) N N) (.slice a0 (Vj T).length c0) (used:Int) (top:Int),VK bb B,HK]++S0) (by simp)⟩ fun i E S ⟨hE,hi,T',hJ,hk⟩=>?_
 have hkl:=V3 T;obtain⟨E0,e0⟩:=zl hE; subst e0; clear hE;refine zm hk (ze (z8 (yp (ZL rfl rfl) (zf (za (ze ?_))))));refine zO rfl (fun h=>?_) (fun h=>?_)
 ·have hlt:i<(Vj T).length:=by omega
  obtain⟨bb2,sp,fz,hz,rfl,hm,hc,rfl⟩:=hK1.at' (by intro h; simp[h] at hlt);refine zq (za (ze (zo (ze (z8 (yp (pI rfl) (yp (zN rfl rfl (by omega)) ?_)))))));refine zh (wB (l:=enc (Vj T)[i]) rfl (vJ hlt rfl) rfl ?_);refine zh (Z8 fun p4=>?_);refine yp (pI rfl) ?_;refine zh (vQ (c':=[.int .i64 (Vj T)[i].1,.int .i64 (Vj T)[i].2]) rfl rfl rfl rfl rfl ?_);refine zf (za (ze (z8 (yp (zx rfl) ?_))));refine zh (zF rfl rfl ?_);refine yp (VE rfl rfl) (yp (pB rfl) ?_);have hTi:T[i]?=some (T[i]'(by omega)):=List.getElem?_eq_getElem _;generalize hte:T[i]'(by omega)=te at hTi;have hki:(Vj T)[i]=ent te:=by
   have:(Vj T)[i]?=some (ent te):=by unfold Vj; rw[List.getElem?_map,hTi]; rfl
   rw[List.getElem?_eq_getElem hlt] at this;exact Option.some.inj this
  have hDi:(ZX T)[i]?=some (te.map Prod.snd):=by unfold ZX; rw[List.getElem?_map,hTi]; rfl
  obtain⟨hs1,hs2⟩:=iM hDi;rw[hki];cases te with
  | none=>
   rw[decide_eq_false (show ¬(0:Int)<(ent none).1 from by decide)];refine Z5 rfl (Z5 rfl (Z5 rfl (Z5 rfl (Z5 rfl (Z5 rfl (Z5 rfl (yp (zU rfl rfl) (zf (za (zw rfl (zq (zT (za (z8 (yp (Za rfl rfl (by omega)) (yp (pI rfl) (zf (za ?_))))))))))))))))));refine⟨i+1,⟨⟨rfl,rfl,rfl,rfl,trivial⟩,by omega,T',?_,.of⟩,by omega⟩;rw[hs2]; simpa[hlist] using hJ
  | some pb=>
   obtain⟨p,b⟩:=pb;rw[decide_eq_true (show(0:Int)<(ent (some (p,b))).1 from by show(0:Int)<(p:Int)+8; omega)];refine Z0 rfl (Zc (pF rfl) (Z0 rfl (Zc (pI rfl) (Z0 rfl (Zc (Za rfl rfl (by omega)) (Z0 rfl (Zc (zx rfl) (Z0 rfl ?_))))))));refine(zF rfl rfl ?_);refine Z0 rfl ?_;have hV:(hlist 0 ((ZX T).take i)).map hv++[hv ((i:Int)+1,(b.length:Int))]<+:(hlist 0 (ZX T)).map hv:=by
    rw[hs1,List.map_append];exact⟨(hlist (i+1) ((ZX T).drop (i+1))).map hv,by simp[hlist]⟩
   refine Xw (hround _ _ T' hV hJ) rfl rfl fun bl T2 h=>?_
   rcases h with⟨rfl,hJ'⟩ | ⟨rfl,hJx⟩
   ·refine Z0 rfl (Zc (Ze rfl) (yp (zP rfl rfl) (zf (za (zw rfl (zq (zT (za (z8 (yp (Za rfl rfl (by omega)) (yp (pI rfl) (zf (za ?_)))))))))))));refine⟨i+1,⟨⟨rfl,rfl,rfl,rfl,trivial⟩,by omega,T2,?_,.of⟩,by omega⟩;rw[hs2,List.map_append]; exact hJ'
   ·refine Z0 rfl (Zc (Ze rfl) (yp (zP rfl rfl) (zf (za (zI rfl (zL (bret (zX (zX (bret ?_))))))))));exact zK ZG ⟨T2,.of,.inr ⟨_,hJx⟩⟩
 ·refine zV (zy (zy (zW ?_)));refine ZF ZG ⟨T',.of,.inl ⟨_,?_,hJ⟩⟩;rw[List.take_of_length_le (by rw[V5]; omega)]
/-! ### the order of the blocks -/
theorem Wk.BK{α:Type}(key:α→Int):Wk (fun a b=>key a<key b):=⟨fun _=>by omega,fun _ _ h=>by omega,fun _ _ _ h1 h2=>by omega⟩
theorem Fp:Ld (α:=Int) (fun a=> .load1 a) (fun a=> .int .i64 a):=⟨fun {R E a b off c ty fz x} ha hm hx=> .load1 ha hm (by
 have h:(c.toList.drop off).take 1=[Value.int .i64 x]:=hx;have:=congrArg (fun l=>l[0]?) h;simp at this;exact this),fun _=>rfl⟩
theorem EF:La Tryz.prog (fun a=> .load1 a) 1 165 185 186 187 188 189 190 191 192:=
 ⟨Tryz.Gt,Tryz.Ga,⟨_,Tryz.G9,Tryz.FN⟩,
  ⟨_,_,_,_,_,_,Tryz.G8,Tryz.sW,Tryz.YU,Tryz.YS,Tryz.sV⟩,
  ⟨_,_,_,_,Tryz.G7,Tryz.FM,Tryz.FL,Tryz.FI⟩,
  Tryz.G6,Tryz.G5,Tryz.FZ,Tryz.FY⟩
def qP(a b:Int):Int:=if a<b then-1 else if b<a then 1 else 0
theorem aA(a b:Int):qP a b<0↔a<b:=by
 unfold qP;split
 ·next h=>exact⟨fun _=>h,fun _=>by decide⟩
 ·split<;>omega
theorem IE(a:Int):Tri Tryz.prog 166 #[.int .i64 a] [] (fun r S=>r= .bool false∧S=[]):=by
 refine Tri.forget (zn Tryz.tq (Nat.le_of_ble_eq_true rfl) ?_);unfold Tryz.Ak;refine ze (z8 (yp pC (zf (za (ze (z8 (yp (pI rfl) (yp (pI rfl) (yp (UF rfl rfl) (yp (pB rfl) (zf (za (zL ?_)))))))))))));rw[decide_eq_true rfl];exact zK (rB rfl) ⟨_,.of,rfl,rfl⟩
theorem lu(a b:Int):Tri Tryz.prog 148 #[.int .i64 a,.int .i64 b] [] (fun r S=>r= .int .i64 (qP a b)∧S=[]):=by
 refine Tri.forget (zn Tryz.GQ (Nat.le_of_ble_eq_true rfl) ?_);unfold Tryz.Dr;refine ze (z8 (yp pC (zf (za (ze (z8 (yp (pI rfl) ?_)))))));refine zh (zk (IE a) rfl rfl fun r S' h=>?_);obtain⟨rfl,rfl⟩:=h;refine yp (pB rfl) (zf (za (ze (z8 (yp (pI rfl) ?_)))));refine zh (zk (IE b) rfl rfl fun r S' h=>?_);obtain⟨rfl,rfl⟩:=h;refine yp (pB rfl) (zf (za (ze (ze (z8 (yp (pB rfl) (zf (za (zw rfl (zq (za (ze (ze (z8 (yp (pB rfl) (zf (za (zw rfl (zq (za (ze (ze (z8 (yp (pI rfl) (yp (pI rfl) (yp (ZL rfl rfl) (zf (za ?_))))))))))))))))))))))))))));refine zO rfl (fun h=>?_) (fun h=>?_)
 ·refine ze (z8 (yp pC (zf (za (zL (zX ?_))))));exact zK (rI rfl) ⟨_,.of,by rw[qP,if_pos h],rfl⟩
 refine zq (za (ze (ze (z8 (yp (pI rfl) (yp (pI rfl) (yp (VE rfl rfl) (zf (za ?_)))))))));refine zO rfl (fun h2=>?_) (fun h2=>?_)
 ·refine ze (z8 (yp pC (zf (za (zL (zX ?_))))));exact zK (rI rfl) ⟨_,.of,by rw[qP,if_neg h,if_pos h2],rfl⟩
 refine zq (za (ze (z8 (yp pC (zf (za (zL ?_)))))));exact zK (rI rfl) ⟨_,.of,by rw[qP,if_neg h,if_neg h2],rfl⟩
/-- where a handle's block stands -/
def pos(T:Tab)(h:Int):Int:=match (T[(h-1).toNat]?).join with | some (p,_)=>p | none=>0
def CS(T:Tab)(h:Int):Prop:=∃(i p:Nat) (b:Bt),h=(i:Int)+1∧T[i]?=some (some (p,b))
theorem pos_at{T:Tab}{i p:Nat}{b:Bt}(h:T[i]?=some (some (p,b))):pos T ((i:Int)+1)=p:=by
 unfold pos;rw[show((i:Int)+1-1).toNat=i from by omega,h]; rfl
theorem IK{ab p1:Nat}{bv kv:Value}{used top:Int}{T:Tab}{HK:List Chunk}(hK:Zf 163 kv (Vj T) HK)(hlen:(Vj T).length<2 ^ 40):
 Cm Tryz.prog 147 #[.pointer (some ⟨p1,0,none⟩)] ([(p1,.cells #[.pointer (some ⟨ab,0,none⟩)] 26)]++ZM ab bv kv used top++HK) (fun a=> .int .i64 a) (CS T) (fun x y=>pos T x<pos T y):=by
 refine⟨Wk.BK _,fun x y hx hy=>?_⟩;obtain⟨i,p,b,rfl,hi⟩:=hx;obtain⟨j,q,c,rfl,hj⟩:=hy;rw[pos_at hi,pos_at hj];refine Tri.Vg (Tri.forget (zn Tryz.GR (Nat.le_of_ble_eq_true rfl) ?_));unfold Tryz.Dt;have hki:=uD hi;have hkj:=uD hj;obtain⟨hlti,hgi⟩:=List.getElem?_eq_some_iff.1 hki;obtain⟨hltj,hgj⟩:=List.getElem?_eq_some_iff.1 hkj;obtain⟨a,cc,rfl⟩:=hK.isSlice;obtain⟨b2,sp,fz,hz,rfl,_,rfl,rfl⟩:=hK.at' (by intro h; simp[h] at hlti);refine ze (z8 (yp pC (zf (za (ze (zY (Zd rfl rfl (zi (zS rfl) (zi (zx rfl) (Zd rfl rfl (zi (pI rfl) (zi (Zt rfl rfl (by omega)) ?_))))))))))));rw[show((i:Int)+1-1)=(i:Int) from by omega];refine zi (zN rfl rfl (by omega)) (zi (zx rfl) (Zd (v:= .int .i64 ((p:Int)+8)) rfl ((wH (kk:=2) (j:=0) hlti rfl (by omega)).trans (by rw[hgi]; rfl)) (Zd rfl rfl (zi (zS rfl) (zi (zx rfl) (Zd rfl rfl (zi (pI rfl) (zi (Zt rfl rfl (by omega)) ?_))))))));rw[show((j:Int)+1-1)=(j:Int) from by omega];refine zi (zN rfl rfl (by omega)) (zi (zx rfl) (Zd (v:= .int .i64 ((q:Int)+8)) rfl ((wH (kk:=2) (j:=0) hltj rfl (by omega)).trans (by rw[hgj]; rfl)) ?_));refine zH (zk (lu _ _) rfl rfl fun r S' h=>?_) zM;obtain⟨rfl,rfl⟩:=h;refine zi (pI rfl) (zD (za (zL ?_)));refine zK (rI rfl) ⟨_,zG.vX,⟨_,rfl,?_⟩,rfl⟩;rw[aA]; omega
end Go.Proofs.YtekgciopamkjlaaGreat
