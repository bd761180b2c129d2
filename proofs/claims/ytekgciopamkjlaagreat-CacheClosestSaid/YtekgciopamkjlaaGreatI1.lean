/- The table of names (chapter 7): contracts of its functions. The table of names (chapter 7): uses, names, Add and Drop. The table of names (chapter 7): Add and Drop. The table of names (chapter 7): what Add does. The table of names (chapter 7): Drop; awake. The table of names (chapter 7): Add, once more. The table of names (chapter 7), beside the document's: what Add and Drop leave. -/
import Derived.Test.YtekgciopamkjlaaGreatN1
import Derived.Test.YtekgciopamkjlaaGreatFIntern
namespace Go.Proofs.YtekgciopamkjlaaGreat
open Go.Xs
open Enc (enc)
theorem J5:Tryz.prog.underlying 123=some (.map 9 3):=by kernel_rfl
theorem J6:Tryz.prog.underlying 124=some (.map 3 4):=by kernel_rfl
theorem yu:Tryz.prog.underlying 9=some .string:=by kernel_rfl
theorem J4:Tryz.prog.underlying 3=some (.int .i64):=by kernel_rfl
theorem aD:(Tryz.prog.info? 3).bind (·.zero)=some (.int .i64 0):=by kernel_rfl
theorem Yd:(Tryz.prog.info? 4).bind (·.zero)=some (.bool false):=by kernel_rfl
abbrev WW(tb ab ib lb:Nat):List Chunk:=[(tb,.cells #[.pointer (some ⟨ab,0,none⟩),.map (some ib),.map (some lb)] 126)]
/-- the table, as one piece of memory -/
def Tb(tb ab:Nat)(L:List Nm)(T:List Chunk):Prop:=
 ∃(ib lb:Nat) (HI HG:List Chunk),Mp ib (UA L) L.length HI∧Mp lb (V5 L) L.length HG∧T=WW tb ab ib lb++HI++HG
/-- the names stand in the arena, and blocks of others; nothing else does -/
structure Vi(D:List (Option Bt))(L:List Nm)(B:List (Int × Bs)):Prop where
 dis:y8 L
 blk:∀e∈L,Zt D e.id=some (u6 e.u++e.n)
 oth:∀x∈B,Zt D x.1=some x.2∧∀e∈L,e.id≠x.1
 all:∀i b,Zt D i=some b→(∃e∈L,e.id=i)∨∃x∈B,x.1=i
 us:∀e∈L,e.u<2 ^ 60
 fold:∀e∈L,wm e.n=true∧zM e.n=e.n
theorem J9{tb ab ib lb:Nat}:Tri Tryz.prog 69 #[.pointer (some ⟨tb,0,none⟩)] [WW tb ab ib lb] (fun r S=>r= .bool false∧S=[WW tb ab ib lb]):=by
 refine Tri.forget (zq Tryz.Si (Nat.le_of_ble_eq_true rfl) ?_);unfold Tryz.TT;refine ze (z8 (yp pC (zf (za (ze (z8 (yp (pP rfl) (yp (wh rfl rfl) (yp (pB rfl) (zK rfl (zQ (pP rfl) (zK rfl (zQ (zX rfl) (zK rfl (zQ (zx rfl) (zK rfl ?_))))))))))))))));refine(zy rfl rfl ?_);refine zK rfl (zQ (wh rfl rfl) (yp (zD rfl rfl) (yp (pB rfl) (zf (za (zJ ?_))))));exact zI (rB rfl) ⟨_,.of,rfl,rfl⟩
theorem Tb.mk{tb ab ib lb:Nat}{L:List Nm}{HI HG:List Chunk}(h1:Mp ib (UA L) L.length HI)(h2:Mp lb (V5 L) L.length HG):Tb tb ab L (WW tb ab ib lb++HI++HG):=⟨ib,lb,HI,HG,h1,h2,rfl⟩
theorem Li{ab:Nat}:Tri Tryz.prog 49 #[.pointer (some ⟨ab,0,none⟩)] [] (fun r S=>∃tb T,r= .pointer (some ⟨tb,0,none⟩)∧Tb tb ab [] T∧S=[T]):=by
 refine Tri.forget (zq Tryz.SG (Nat.le_of_ble_eq_true rfl) ?_);unfold Tryz.x49;refine ze (z8 (yp pC (zf (za (ze (z8 (yp (pP rfl) ?_)))))));refine zh (jU ByteArray Int fun ib HI hI=>?_);refine zh (jU Int Bool fun lb HG hG=>?_);refine yp (fq (qE rfl) (scM rfl) (scM rfl)) ?_;refine zh (ZC rfl fun p7=>?_);refine yp (pP rfl) (zf (za (zJ ?_)));exact zI (rP rfl) ⟨[WW p7 ab ib lb++HI++HG],zG.Vq,p7,_,rfl,Tb.mk (L:=[]) hI hG,rfl⟩
/-- the one of these letters -/
def uq(L:List Nm)(n:Bs):Option Nm:=(uQ n L).bind fun j=>L[j]?
def KD(L:List Nm)(i:Int):Option Nm:=(U2 i L).bind fun j=>L[j]?
theorem ER{tb ab:Nat}{L:List Nm}{T:List Chunk}(hT:Tb tb ab L T)(Y:Bs)(hY:Y.length<2 ^ 62):Tri Tryz.prog 100 #[.pointer (some ⟨tb,0,none⟩),sv Y] [T]
 (fun r S=>r= .tuple #[.int .i64 (((uq L (zM Y)).map (·.id)).getD 0),.bool (uq L (zM Y)).isSome]∧S=[T]):=by
 obtain⟨ib,lb,HI,HG,hI,hG,rfl⟩:=hT;refine Tri.Vy (Tri.forget (zq Tryz.OI (Nat.le_of_ble_eq_true rfl) ?_));unfold Tryz.Lf;refine ze (z8 (yp pC (yp pC (zf (za (ze (ze (z8 (yp (pP rfl) ?_)))))))));refine zh (zk (J9 (tb:=tb) (ab:=ab) (ib:=ib) (lb:=lb)) rfl rfl fun r S' h=>?_);obtain⟨rfl,rfl⟩:=h;refine zf (za (zo rfl (zl (za (ze (Z6 (zi (pP rfl) (zi (zX rfl) (zi (zx rfl) (Zb rfl rfl (zi (pT rfl) ?_)))))))))));refine Zd (zk (JA Y hY) rfl rfl fun r S' h=>?_) zN;obtain⟨rfl,rfl⟩:=h;refine⟨by simp,?_⟩;have hid:UA L ⟨(zM Y).toArray⟩=(uq L (zM Y)).map (·.id):=by
  unfold UA uq;cases uQ (zM Y) L<;>rfl
 refine zO (mH (v:= .int .i64 (((uq L (zM Y)).map (·.id)).getD 0)) (bl:=(uq L (zM Y)).isSome) hI (by simp) (⟨(zM Y).toArray⟩:ByteArray) J5 yu aD rfl rfl ?_ ?_ ?_) zN
 ·rw[hid]; cases uq L (zM Y)<;>rfl
 ·rw[hid]; cases uq L (zM Y)<;>rfl
 refine zi (pU rfl) (zi (pExt rfl rfl) (zi (pExt rfl rfl) (zi (pI rfl) (zi (pB rfl) (zH (za (ze (z8 (yp (pI rfl) (yp (pB rfl) (yp (pI rfl) (yp (pB rfl) (zf (za (zJ ?_)))))))))))))));exact zI (dZ rfl rfl) ⟨_,zG.Vq,rfl,rfl⟩
theorem ES{tb ab:Nat}{L:List Nm}{T:List Chunk}(hT:Tb tb ab L T)(Y:Bs)(hY:Y.length<2 ^ 62):Tri Tryz.prog 56 #[.pointer (some ⟨tb,0,none⟩),sv Y] [T]
 (fun r S=>r= .int .i64 (if(uq L (zM Y)).isSome=true∨wm Y=false then 0 else cost (8+Y.length))∧S=[T]):=by
 refine Tri.forget (zq Tryz.Sy (Nat.le_of_ble_eq_true rfl) ?_);unfold Tryz.x56;refine ze (z8 (yp pC (zf (za (ze (ze (z8 (yp (pP rfl) (yp (pT rfl) ?_)))))))));refine zh (zk (ER hT Y hY) rfl rfl fun r S' h=>?_);obtain⟨rfl,rfl⟩:=h;cases hb:(uq L (zM Y)).isSome with
 | true=>
  refine yp (pU rfl) (yp (pExt rfl rfl) (yp (pExt rfl rfl) (yp (pI rfl) (yp (pB rfl) (zf (za (ze (z8 (yp (pB rfl) (yp (pB rfl) (zP rfl (zP rfl (zP rfl (yp (zw rfl rfl) (zf (za (zC rfl (ze (z8 (yp pC (zf (za (zJ (zV ?_))))))))))))))))))))))));exact zI (rI rfl) ⟨_,.of,by rw[if_pos (.inl rfl)],rfl⟩
 | false=>
  refine yp (pU rfl) (yp (pExt rfl rfl) (yp (pExt rfl rfl) (yp (pI rfl) (yp (pB rfl) (zf (za (ze (z8 (yp (pB rfl) (yp (pB rfl) (zK rfl (zQ (pT rfl) (zK rfl ?_)))))))))))));refine zk (VG Y hY) rfl rfl fun r S' h=>?_
  obtain⟨rfl,rfl⟩:=h;cases hv:wm Y with
  | false=>
   refine zK rfl (zQ (Za rfl) (yp (zD rfl rfl) (zf (za (zC rfl (ze (z8 (yp pC (zf (za (zJ (zV ?_))))))))))));exact zI (rI rfl) ⟨_,.of,by rw[if_pos (.inr rfl)],rfl⟩
  | true=>
   refine zK rfl (zQ (Za rfl) (yp (zD rfl rfl) (zf (za (zo rfl (zl (za (ze (z8 (yp (pT rfl) (yp (Wm rfl) ?_)))))))))));rw[Xt];refine yp (vJ rfl rfl (by omega)) ?_;refine zh (zk (yO (8+(Y.length:Int))) rfl rfl fun r S' h=>?_);obtain⟨rfl,rfl⟩:=h;refine yp (pI rfl) (zf (za (zJ ?_)));exact zI (rI rfl) ⟨_,.of,by rw[if_neg (by simp)],rfl⟩
theorem Dx{E:Env}{x y:Operand}{a s:Nat}(h1:ev E x= .int .i64 (a:Int))(h2:ev E y= .int .i64 (s:Int))(hs:s≤64)(h:a*2 ^ s<2 ^ 63):zB (ev E) (.bin .shl x y)=some (.int .i64 ((a*2 ^ s:Nat):Int)):=by
 have hm:Nat.min ((s:Int).toNat) IntKind.i64.bits=s:=by show Nat.min s 64=s; exact Nat.min_eq_left hs
 have e:(a:Int)*2 ^ s=((a*2 ^ s:Nat):Int):=by push_cast; rfl
 simp only[zB,h1,h2,vE,V7,hm,e];rw[wrap_i64 (by have:((a*2 ^ s:Nat):Int)<((2 ^ 63:Nat):Int):=Int.ofNat_lt.2 h; omega)];simp
theorem pR{E:Env}{x y:Operand}{a b:Nat}(h1:ev E x= .int .i64 (a:Int))(h2:ev E y= .int .i64 (b:Int))(h:(a ||| b)<2 ^ 63)(ha:a<2 ^ 63)(hb:b<2 ^ 63):zB (ev E) (.bin .or x y)=some (.int .i64 ((a ||| b:Nat):Int)):=by
 have e:Uw .or .i64 (a:Int) (b:Int)=((a ||| b:Nat):Int):=by
  unfold Uw;simp only;have e1:(BitVec.ofInt IntKind.i64.bits (a:Int) ||| BitVec.ofInt IntKind.i64.bits (b:Int)).toNat=a ||| b:=by
   show(BitVec.ofInt 64 (a:Int) ||| BitVec.ofInt 64 (b:Int)).toNat=a ||| b;rw[BitVec.toNat_or,BitVec.toNat_ofInt,BitVec.toNat_ofInt];congr 1
   ·omega
   ·omega
  rw[e1,wrap_i64 (by omega)]
 simp[zB,h1,h2,vE,V7,e]
theorem r9{a b i:Nat}(h:a<2 ^ i):a ||| (b*2 ^ i)=a+b*2 ^ i:=by
 rw[Nat.or_comm,Nat.mul_comm b, ←Nat.two_pow_add_eq_or_of_lt h b,Nat.add_comm]
theorem Ki{L:List Nm}{i:Int}{e:Nm}(h:KD L i=some e):∃j,U2 i L=some j∧L[j]?=some e∧e.id=i:=by
 unfold KD at h;cases hx:U2 i L with
 | none=>rw[hx] at h; cases h
 | some j=>
  obtain⟨e',h1,h2⟩:=xI hx;rw[hx] at h;simp only[Option.bind_some,h1] at h;obtain rfl:=Option.some.inj h;exact⟨j,rfl,h1,h2⟩
theorem QN{L:List Nm}{i:Int}(h:KD L i=none):U2 i L=none:=by
 unfold KD at h;cases hx:U2 i L with
 | none=>rfl
 | some j=>
  obtain⟨e',h1,h2⟩:=xI hx;rw[hx] at h;simp only[Option.bind_some,h1] at h;cases h
theorem jM(L:List Nm)(i:Int):((V5 L i).map Vv.vv).getD (.bool false)= .bool (KD L i).isSome:=by
 cases hb:KD L i with
 | none=>unfold V5; rw[QN hb]; rfl
 | some e=>obtain⟨j,h1,_,_⟩:=Ki hb; unfold V5; rw[h1]; rfl
theorem qd{L:List Nm}{i:Int}{e:Nm}(h:KD L i=some e):e∈L∧e.id=i:=by
 obtain⟨j,_,h2,h3⟩:=Ki h;exact⟨List.mem_of_getElem? h2,h3⟩
/-- the first eight bytes of a name's block, the others -/
theorem lJ{D:List (Option Bt)}{i:Int}{u:Nat}{n:Bs}(h:Zt D i=some (u6 u++n)):wM D i 0 8=0∧Xy D i 0 8=u6 u:=by
 have hl:(u6 u++n).length=8+n.length:=by rw[List.length_append,ZX]
 have hp:wM D i 0 8=0:=by unfold wM; rw[h]; exact if_neg (by omega)
 refine⟨hp,?_⟩;unfold Xy;rw[if_pos hp,h];show((u6 u++n).drop 0).take 8=u6 u;rw[List.drop_zero, ←ZX u,List.take_left]
theorem lI{D:List (Option Bt)}{i:Int}{u:Nat}{n:Bs}(h:Zt D i=some (u6 u++n)):wM D i 8 (n.length:Int)=0∧Xy D i 8 (n.length:Int)=n:=by
 have hl:(u6 u++n).length=8+n.length:=by rw[List.length_append,ZX]
 have hp:wM D i 8 (n.length:Int)=0:=by unfold wM; rw[h]; exact if_neg (by omega)
 refine⟨hp,?_⟩;unfold Xy;rw[if_pos hp,h];show((u6 u++n).drop 8).take (n.length:Int).toNat=n;have:(u6 u++n).drop 8=n:=by
  have:=List.drop_left (l₁:=u6 u) (l₂:=n);rw[ZX] at this; exact this
 rw[this,Int.toNat_natCast,List.take_length]
theorem nJ{tb ab N:Nat}{D:List (Option Bt)}{H:List Chunk}{L:List Nm}{T:List Chunk}{B:List (Int × Bs)}(hT:Tb tb ab L T)(hA:Ar ab N D H)(hI:Vi D L B)(i:Int):Tri Tryz.prog 103 #[.pointer (some ⟨tb,0,none⟩),.int .i64 i] [T,H]
 (fun r S=>r= .int .i64 (((KD L i).map (·.u)).getD 0:Nat)∧S=[T,H]):=by
 obtain⟨ib,lb,HI,HG,hMI,hMG,rfl⟩:=hT;refine Tri.forget (Tri.perm (S:=[WW tb ab ib lb,HI,HG,H]) (by simp) (zq Tryz.OG (Nat.le_of_ble_eq_true rfl) ?_));unfold Tryz.Le;have hback:∀{S':zL},zG S' [WW tb ab ib lb,HI,HG,H]→zG S' [WW tb ab ib lb++HI++HG,H]:=fun h=>h.trans ⟨[],by simp⟩
 refine ze (z8 (yp pC (zf (za (ze (ze (z8 (yp (pP rfl) ?_))))))));refine zh (zk (J9 (tb:=tb) (ab:=ab) (ib:=ib) (lb:=lb)) rfl rfl fun r S' h=>?_);obtain⟨rfl,rfl⟩:=h;refine yp (pB rfl) (zK rfl (zQ (pP rfl) (zK rfl (zQ (zX rfl) (zK rfl (zQ (zx rfl) (zK rfl ?_)))))));refine(zy rfl rfl ?_);refine zK rfl (zQ (pI rfl) (zK rfl (uM hMG (by simp) i J6 J4 Yd rfl rfl (jM L i) ?_)));cases hb:KD L i with
 | none=>
  refine zK rfl (zQ (Za rfl) (yp (zD rfl rfl) (zf (za (zC rfl (ze (z8 (yp pC (zf (za (zJ (zV ?_))))))))))));exact zI (rI rfl) ⟨_,hback .of,rfl,rfl⟩
 | some e=>
  obtain⟨hem,rfl⟩:=qd hb;have hblk:=hI.blk e hem;have hu:=hI.us e hem;obtain⟨hp8,hr8⟩:=lJ hblk;refine zK rfl (zQ (Za rfl) (yp (zD rfl rfl) (zf (za (zo rfl (zl (za (ze (z8 (yp (pP rfl) (yp (zX rfl) (yp (zx rfl) ?_))))))))))));refine zh (zy rfl rfl ?_);refine yp (pI rfl) ?_;refine zh (zk (d9 hA e.id 0 8) rfl rfl fun r S' h=>?_);obtain⟨v,Ho,rfl,hLo,rfl⟩:=h;rw[hp8];rw[hr8] at hLo;obtain⟨va,vc,rfl⟩:=hLo.isSlice;have hl8:=ZX e.u;rw[hl8] at hLo;rw[hl8];refine yp (pU rfl) (yp (pExt rfl rfl) (yp (pExt rfl rfl) (yp (pS rfl) (yp (pI rfl) (zf (za (ze (z8 (yp pC (zf (za (ze (ze (z8 (yp (pS rfl) (yp (Zp rfl) (yp pC (zf (za (zu ?_))))))))))))))))))));refine Z7 (σ:=Nat) (fun k E S=>Has E [(7,.int .i64 ((e.u%2 ^ (8*k):Nat):Int)),(30,.slice va 8 vc),(31,.int .i64 8),(32,.int .i64 (k:Int))]∧k≤8∧zG S [Ho,WW tb ab ib lb,HI,HG,H]) (fun k=>8-k) 0 ⟨⟨by rw[Nat.mul_zero,Nat.pow_zero,Nat.mod_one]; rfl,rfl,rfl,rfl,trivial⟩,Nat.zero_le _,.of⟩ fun k E S ⟨hE,hk,hJ⟩=>?_
  obtain⟨E0,e0⟩:=zm hE; subst e0; clear hE;refine zn hJ (ze (z8 (yp (ZE rfl rfl) (zf (za (ze ?_))))));refine zR rfl (fun h=>?_) (fun h=>?_)
  ·have hlt:k<8:=by omega
   have hg:=fK e.u k hlt;have hkl:k<(u6 e.u).length:=by omega
   obtain⟨b,sp,fz,hz,hae,_,hce,rfl⟩:=hLo.at' (by intro h; rw[h] at hl8; simp at hl8);subst hae;have hld:((cells (u6 e.u++sp)).toArray.toList)[0+k*1+0]?=some (.int .u8 ((UInt8.ofNat (e.u/2 ^ (8*k))).toNat:Int)):=(wZ (kk:=1) (j:=0) hkl rfl (by omega)).trans (by rw[List.getElem?_eq_getElem hkl] at hg; rw[Option.some.inj hg]; rfl);have hby:(UInt8.ofNat (e.u/2 ^ (8*k))).toNat=e.u/2 ^ (8*k)%256:=by simp
   have hmod:e.u%2 ^ (8*(k+1))=e.u%2 ^ (8*k)+e.u/2 ^ (8*k)%256*2 ^ (8*k):=by
    have e1:2 ^ (8*(k+1))=2 ^ (8*k)*256:=by rw[show 8*(k+1)=8*k+8 from by omega,Nat.pow_add]
    rw[e1,Nat.mod_mul,Nat.mul_comm (e.u/2 ^ (8*k)%256)]
   have hsm:e.u%2 ^ (8*(k+1))<2 ^ 60:=Nat.lt_of_le_of_lt (Nat.mod_le _ _) hu;have hlt2:e.u%2 ^ (8*k)<2 ^ (8*k):=Nat.mod_lt _ (Nat.pow_pos (by decide));have hor:=r9 (b:=e.u/2 ^ (8*k)%256) hlt2;rw[←hmod] at hor;have hpr:e.u/2 ^ (8*k)%256*2 ^ (8*k)≤e.u%2 ^ (8*(k+1)):=by rw[hmod]; exact Nat.le_add_left _ _
   have hpl:e.u%2 ^ (8*k)≤e.u%2 ^ (8*(k+1)):=by rw[hmod]; exact Nat.le_add_right _ _
   refine zl (za (ze (zu (ze (z8 (yp (pI rfl) (yp (zT rfl rfl (by omega)) ?_)))))));refine zh (zy (v:= .int .u8 ((UInt8.ofNat (e.u/2 ^ (8*k))).toNat:Int)) rfl hld ?_);refine yp (pI rfl) (yp (pI rfl) (zf (za (z8 (yp (pI rfl) (yp (pI rfl) (yp (kG rfl) ?_)))))));rw[hby];refine yp (pI rfl) (yp (VZ (j:=8) (k:=k) rfl rfl (by omega)) (yp (Dx rfl rfl (by omega) (by omega)) (yp (pR rfl rfl (by rw[hor]; omega) (by omega) (by omega)) ?_)));rw[hor];refine yp (pI rfl) (zf (zW (za (z8 (yp (Z8 rfl rfl (by omega)) (yp (pI rfl) (zf (za ?_))))))));exact⟨k+1,⟨⟨rfl,rfl,rfl,rfl,trivial⟩,by omega,.of⟩,by omega⟩
  ·have hk8:k=8:=by omega
   subst hk8;have hmodu:e.u%2 ^ (8*8)=e.u:=Nat.mod_eq_of_lt (by omega);rw[hmodu];refine zZ (zA (zA (Z0 (za (ze (z8 (yp (pI rfl) (yp (pI rfl) (zf (za (zJ ?_)))))))))));exact zI (rI rfl) ⟨_,hback .of,rfl,rfl⟩
theorem aP{tb ab N:Nat}{D:List (Option Bt)}{H:List Chunk}{L:List Nm}{T:List Chunk}{B:List (Int × Bs)}(hT:Tb tb ab L T)(hA:Ar ab N D H)(hI:Vi D L B)(i:Int):Tri Tryz.prog 109 #[.pointer (some ⟨tb,0,none⟩),.int .i64 i] [T,H]
 (fun r S=>r= .tuple #[sv (((KD L i).map (·.n)).getD []),.bool (KD L i).isSome]∧S=[T,H]):=by
 obtain⟨ib,lb,HI,HG,hMI,hMG,rfl⟩:=hT;refine Tri.forget (Tri.perm (S:=[WW tb ab ib lb,HI,HG,H]) (by simp) (zq Tryz.OA (Nat.le_of_ble_eq_true rfl) ?_));unfold Tryz.L6;have hback:∀{S':zL},zG S' [WW tb ab ib lb,HI,HG,H]→zG S' [WW tb ab ib lb++HI++HG,H]:=fun h=>h.trans ⟨[],by simp⟩
 refine ze (z8 (yp pC (yp pC (zf (za (ze (ze (z8 (yp (pP rfl) ?_)))))))));refine zh (zk (J9 (tb:=tb) (ab:=ab) (ib:=ib) (lb:=lb)) rfl rfl fun r S' h=>?_);obtain⟨rfl,rfl⟩:=h;refine yp (pB rfl) (zK rfl (zQ (pP rfl) (zK rfl (zQ (zX rfl) (zK rfl (zQ (zx rfl) (zK rfl ?_)))))));refine(zy rfl rfl ?_);refine zK rfl (zQ (pI rfl) (zK rfl (uM hMG (by simp) i J6 J4 Yd rfl rfl (jM L i) ?_)));have rTB:∀{E:Env} {S:zL} {t u:Tmp} {s:ByteArray} {b:Bool},E t= .string s→E u= .bool b→Y4 Tryz.prog #[.tmp t,.tmp u] E S (.tuple #[.string s,.bool b]):=fun h1 h2=>res2 h1 h2
 cases hb:KD L i with
 | none=>
  refine zK rfl (zQ (Za rfl) (yp (zD rfl rfl) (zf (za (zC rfl (ze (z8 (yp pC (yp pC (zf (za (zJ (zV ?_)))))))))))));exact zI (rTB rfl rfl) ⟨_,hback .of,rfl,rfl⟩
 | some e=>
  obtain⟨hem,rfl⟩:=qd hb;have hblk:=hI.blk e hem;have hnl:=(hA.ok).each;obtain⟨hpn,hrn⟩:=lI hblk;have hsz:YV D e.id=(((8+e.n.length:Nat):Int),true):=by
   unfold YV; rw[hblk]; simp only; rw[List.length_append,ZX]
  obtain⟨q,_,hq⟩:=U6 hblk;have h4:=hnl q _ hq;rw[List.length_append,ZX] at h4;refine zK rfl (zQ (Za rfl) (yp (zD rfl rfl) (zf (za (zo rfl (zl (za (ze (z8 (yp (pP rfl) (yp (zX rfl) (yp (zx rfl) ?_))))))))))));refine zh (zy rfl rfl ?_);refine yp (pI rfl) ?_;refine zh (zk (Ai hA e.id) rfl rfl fun r S' h=>?_);obtain⟨rfl,rfl⟩:=h;rw[hsz];refine yp (pU rfl) (yp (pExt rfl rfl) (yp (pExt rfl rfl) (yp (pI rfl) (yp (pB rfl) (zf (za (ze (z8 (yp (pP rfl) (yp (zX rfl) (yp (zx rfl) ?_)))))))))));refine zh (zy rfl rfl ?_);refine yp (pI rfl) (yp (pI rfl) (yp (Zy rfl rfl (by omega)) ?_));rw[show((8+e.n.length:Nat):Int)-8=(e.n.length:Int) from by omega];refine zh (zk (d9 hA e.id 8 (e.n.length:Int)) rfl rfl fun r S' h=>?_);obtain⟨v,Ho,rfl,hLo,rfl⟩:=h;rw[hpn];rw[hrn] at hLo;obtain⟨va,vc,rfl⟩:=hLo.isSlice;refine yp (pU rfl) (yp (pExt rfl rfl) (yp (pExt rfl rfl) (yp (pS rfl) (yp (pI rfl) (zf (za (ze (z8 (yp (pS rfl) ?_)))))))));refine zh (YN rfl (hLo.src (by simp)) ?_);refine yp (pI rfl) (yp (wB rfl rfl) (yp (pT rfl) (yp (pB rfl) (zf (za (zJ ?_))))));exact zI (rTB rfl rfl) ⟨_,hback .of,rfl,rfl⟩
theorem Qg{E:Env}{x y:Operand}{a s:Nat}(h1:ev E x= .int .i64 (a:Int))(h2:ev E y= .int .i64 (s:Int))(hs:s≤64):zB (ev E) (.bin .shr x y)=some (.int .i64 ((a/2 ^ s:Nat):Int)):=by
 rw[pK h1 h2 (by omega)];have hm:Nat.min ((s:Int).toNat) IntKind.i64.bits=s:=by show Nat.min s 64=s; exact Nat.min_eq_left hs
 rw[hm,Int.fdiv_eq_ediv_of_nonneg _ (by exact Int.pow_nonneg (by decide))];congr 2
theorem LZ{E:Env}{x:Operand}{a:Nat}(h1:ev E x= .int .i64 (a:Int)):zB (ev E) (.conv .u8 x)=some (.int .u8 ((UInt8.ofNat a).toNat:Int)):=by
 rw[G6 h1,YS];have:(UInt8.ofNat a).toNat=a%256:=by simp
 rw[this]; congr 2
def Kl(n k:Nat):Bs:=(u6 n).take k++List.replicate (8-k) 0
theorem QW{n k:Nat}(h:k≤8):(Kl n k).length=8:=by simp[Kl,ZX]; omega
theorem Ag(n:Nat):Kl n 8=u6 n:=by
 unfold Kl;rw[List.take_of_length_le (by rw[ZX]; exact Nat.le_refl _)]; simp
theorem Af{n k:Nat}(h:k<8):(Kl n k).set k (UInt8.ofNat (n/2 ^ (8*k)))=Kl n (k+1):=by
 refine List.ext_getElem? fun j=>?_
 have hg:=fK n k h;have hl:=ZX n;have hget:∀k j,k≤8→(Kl n k)[j]?=if j<k then(u6 n)[j]? else if j<8 then some 0 else none:=fun k j hk=>by
  unfold Kl;rw[List.getElem?_append,List.length_take,hl,Nat.min_eq_left hk,List.getElem?_take,List.getElem?_replicate];by_cases h1:j<k
  ·rw[if_pos h1,if_pos h1,if_pos h1]
  ·rw[if_neg h1,if_neg h1];by_cases h2:j<8
   ·rw[if_pos h2,if_pos (by omega)]
   ·rw[if_neg h2,if_neg (by omega)]
 rw[List.getElem?_set,hget _ _ (by omega),hget _ _ (by omega),QW (by omega)];by_cases hj:k=j
 ·subst hj;rw[if_pos rfl,if_pos h,if_pos (by omega),hg]
 ·rw[if_neg hj];by_cases h1:j<k
  ·rw[if_pos h1,if_pos (by omega)]
  ·rw[if_neg h1,if_neg (show ¬j<k+1 from by omega)]
theorem cZ{D:List (Option Bt)}{i:Int}{u v:Nat}{n:Bs}(h:Zt D i=some (u6 u++n)):wM D i 0 ((u6 v).length:Nat)=0∧Ub D i 0 (u6 v)=D.set (i-1).toNat (some (u6 v++n)):=by
 have hl:(u6 u++n).length=8+n.length:=by rw[List.length_append,ZX]
 have hl8:=ZX v;have hp:wM D i 0 ((u6 v).length:Nat)=0:=by unfold wM; rw[h]; exact if_neg (by omega)
 refine⟨hp,?_⟩;unfold Ub;rw[if_pos hp,h];refine congrArg (fun z=>D.set (i-1).toNat (some z)) ?_;show spl (u6 u++n) 0 (u6 v)=_;unfold spl;have:(u6 u++n).drop 8=n:=by
  have:=List.drop_left (l₁:=u6 u) (l₂:=n);rw[ZX] at this; exact this
 rw[List.take_zero,hl8,Nat.zero_add,this]; rfl
set_option maxRecDepth 10000 in
theorem Dl{tb ab ib lb N:Nat}{D:List (Option Bt)}{H:List Chunk}(hA:Ar ab N D H){i:Int}{u:Nat}{n:Bs}(hb:Zt D i=some (u6 u++n))(v:Nat)(_hv:v<2 ^ 60):Tri Tryz.prog 102 #[.pointer (some ⟨tb,0,none⟩),.int .i64 i,.int .i64 (v:Int)] [WW tb ab ib lb,H]
 (fun r S=>r= .tuple #[]∧∃H',Ar ab N (D.set (i-1).toNat (some (u6 v++n))) H'∧S=[WW tb ab ib lb,H']):=by
 refine Tri.forget (zq Tryz.OH (Nat.le_of_ble_eq_true rfl) ?_);unfold Tryz.x102;have hz8:([.int .u8 0,.int .u8 0,.int .u8 0,.int .u8 0,.int .u8 0,.int .u8 0,.int .u8 0,.int .u8 0]:List Value)=cells (Kl v 0):=rfl;rw[hz8];refine ze (z8 ?_);refine zh (Z5 fun p6=>?_);refine zf (za (ze (ze (z8 (yp pC (zf (za (zu ?_))))))));refine Z7 (σ:=Nat) (fun k E S=>Has E [(0,.pointer (some ⟨tb,0,none⟩)),(1,.int .i64 i),(2,.int .i64 (v:Int)),(6,.pointer (some ⟨p6,0,none⟩)),(8,.int .i64 (k:Int))]∧k≤8∧zG S [[(p6,.cells (cells (Kl v k)).toArray 203)],WW tb ab ib lb,H]) (fun k=>8-k) 0 ⟨⟨rfl,rfl,rfl,rfl,rfl,trivial⟩,Nat.zero_le _,.of⟩ fun k E S ⟨hE,hk,hJ⟩=>?_
 have hal:=QW (n:=v) hk;obtain⟨E0,e0⟩:=zm hE; subst e0; clear hE;refine zn hJ (ze (z8 (yp (ZE rfl rfl) (zf (za (ze ?_))))));refine zR rfl (fun h=>?_) (fun h=>?_)
 ·have hlt:k<8:=by omega
  refine zl (za (ze (zu (ze (z8 (yp (pI rfl) (yp (pI rfl) (zf (za (z8 (yp (pI rfl) (yp (pI rfl) (yp (pI rfl) (yp (VZ (j:=8) (k:=k) rfl rfl (by omega)) (yp (Qg rfl rfl (by omega)) (yp (LZ rfl) (yp (pAx (k:=(k:Int)) rfl rfl (by omega)) ?_)))))))))))))))));rw[Int.toNat_natCast];refine zh (Zc (M:=Kl v k) (i:=k) (y:=UInt8.ofNat (v/2 ^ (8*k))) rfl (by omega) rfl rfl (.inl rfl) ?_);rw[Af hlt];refine zf (zW (za (z8 (yp (Z8 rfl rfl (by omega)) (yp (pI rfl) (zf (za ?_)))))));exact⟨k+1,⟨⟨rfl,rfl,rfl,rfl,rfl,trivial⟩,by omega,.of⟩,by omega⟩
 ·have hk8:k=8:=by omega
  subst hk8;rw[Ag];obtain⟨hp,hw⟩:=cZ (v:=v) hb;refine zZ (zA (zA (Z0 (za (Z6 (zi (pP rfl) (zi (zX rfl) (zi (zx rfl) (Zb rfl rfl (zi (pI rfl) (zi (v:= .slice (some ⟨p6,0,none⟩) 8 8) rfl ?_)))))))))));refine zO (zk (ql (S0:=[[(p6,.cells (cells (u6 v)).toArray 203)]]) hA i 0 (Y:=u6 v) (.Rx List.mem_cons_self (ZX v).symm) (by rw[ZX]; decide)) rfl rfl fun r S' h=>?_) zN;obtain⟨rfl,H2,hA2,rfl⟩:=h;rw[hw] at hA2;refine zH ?_;exact ZO ZQ ⟨_,.of,rfl,H2,hA2,rfl⟩
/-- which blocks there are, and how big -/
def mh(D:List (Option Bt)):List (Option Nat):=D.map (Option.map List.length)
theorem Yj{D:List (Option Bt)}{h:Int}{b Y:Bt}(hg:Zt D h=some b)(hl:Y.length=b.length):mh (D.set (h-1).toNat (some Y))=mh D:=by
 obtain⟨j,rfl,hj⟩:=U6 hg;rw[show((j:Int)+1-1).toNat=j from by omega];unfold mh;refine List.ext_getElem? fun i=>?_
 rw[List.getElem?_map,List.getElem?_map,List.getElem?_set];split
 ·next h=>subst h; rw[if_pos (List.getElem?_eq_some_iff.1 hj).1,hj]; simp[hl]
 ·rfl
/-! ### small letters once and again -/
theorem Cc(b:UInt8):low (low b)=low b:=by
 unfold low;by_cases h:65≤b.toNat∧b.toNat≤90
 ·rw[if_pos h];have:(UInt8.ofNat (b.toNat+32)).toNat=(b.toNat+32)%256:=by simp
  rw[if_neg (by rw[this]; omega)]
 ·rw[if_neg h,if_neg h]
theorem fQ:∀(f:Nat) (Y:Bs) (a:Nat),Ua f (Y.map low) a=Ua f Y a
 | 0,_,_=>rfl
 | f+1,Y,a=>by
  unfold Ua;rw[List.getElem?_map];cases hy:Y[a]? with
  | none=>rfl
  | some b=>
   simp only[Option.map_some];have hlow:(low b).toNat=b.toNat∨(63<(low b).toNat∧63<b.toNat):=by
    unfold low;by_cases h:65≤b.toNat∧b.toNat≤90
    ·rw[if_pos h];have:(UInt8.ofNat (b.toNat+32)).toNat=(b.toNat+32)%256:=by simp
     right; omega
    ·rw[if_neg h]; exact .inl rfl
   by_cases h1:255≤a
   ·rw[if_pos h1,if_pos h1]
   ·rw[if_neg h1,if_neg h1];rcases hlow with h | ⟨h2,h3⟩
    ·rw[h,fQ f Y]
    ·rw[if_neg (show ¬(low b).toNat=0 from by omega),if_pos h2,if_neg (show ¬b.toNat=0 from by omega),if_pos h3]
theorem dN(Y:Bs):wm (Y.map low)=wm Y:=by
 unfold wm lead;rw[fQ,List.length_map]
theorem uX(Y:Bs):wm (zM Y)=wm Y:=by
 unfold zM;split
 ·exact dN Y
 ·rfl
theorem yH(Y:Bs):zM (zM Y)=zM Y:=by
 unfold zM;by_cases h:wm Y=true
 ·rw[if_pos h,if_pos (by rw[dN]; exact h),List.map_map];exact List.map_congr_left fun b _=>Cc b
 ·rw[if_neg h,if_neg h]
/-! ### Add -/
def vW(N:Nat)(D:List (Option Bt))(L:List Nm)(Y:Bs):Int:=if wm Y=false then 2 else if(uq L (zM Y)).isSome then 0 else ZV N D (8+(Y.length:Int))
def wu(D:List (Option Bt))(L:List Nm)(n:Bs):List Nm:=match uQ n L with
 | some j=>(match L[j]? with | some e=>reuse L j e (e.u+1) | none=>L)
 | none=>L++[⟨((hnd D:Nat):Int),n,1⟩]
def UZ(D:List (Option Bt))(L:List Nm)(n:Bs):Int:=((uq L n).map (·.id)).getD ((hnd D:Nat):Int)
def vX(D:List (Option Bt))(L:List Nm)(n:Bs):List (Option Bt):=if(uq L n).isSome then D else ZW D (8+n.length)
theorem Vu{L:List Nm}{n:Bs}{e:Nm}(h:uq L n=some e):∃j,uQ n L=some j∧L[j]?=some e∧e.n=n:=by
 unfold uq at h;cases hx:uQ n L with
 | none=>rw[hx] at h; cases h
 | some j=>
  obtain⟨e',h1,h2⟩:=XF hx;rw[hx] at h;simp only[Option.bind_some,h1] at h;obtain rfl:=Option.some.inj h;exact⟨j,rfl,h1,h2⟩
theorem vV{L:List Nm}{n:Bs}(h:uq L n=none):uQ n L=none:=by
 unfold uq at h;cases hx:uQ n L with
 | none=>rfl
 | some j=>
  obtain⟨e',h1,h2⟩:=XF hx;rw[hx] at h;simp only[Option.bind_some,h1] at h;cases h
/-- a name's uses change, in the arena and in the list -/
theorem Vi.reuse{D:List (Option Bt)}{L:List Nm}{B:List (Int × Bs)}(h:Vi D L B){j:Nat}{e:Nm}{v:Nat}(he:L[j]?=some e)(hv:v<2 ^ 60):Vi (D.set (e.id-1).toNat (some (u6 v++e.n))) (reuse L j e v) B:=by
 have hem:=List.mem_of_getElem? he;have hb:=h.blk e hem;refine⟨h.dis.reuse he,fun x hx=>?_,fun x hx=>⟨?_,fun y hy=>?_⟩,fun i b hib=>?_,fun x hx=>?_,fun x hx=>?_⟩
 ·rw[vQ hb];obtain⟨i,hi⟩:=List.mem_iff_getElem?.1 hx;unfold Proofs.YtekgciopamkjlaaGreat.reuse at hi;rw[List.getElem?_set] at hi;split at hi
  ·next hij=>
   subst hij;rw[if_pos (List.getElem?_eq_some_iff.1 he).1] at hi;obtain rfl:=(Option.some.inj hi).symm;rw[if_pos rfl]
  ·next hij=>
   have hne:x.id≠e.id:=fun h2=>by
    have h3:(L.map (·.id))[i]?=some e.id:=by rw[List.getElem?_map,hi,Option.map_some,h2]
    have h4:(L.map (·.id))[j]?=some e.id:=by rw[List.getElem?_map,he,Option.map_some]
    exact hij ((List.getElem?_inj (List.getElem?_eq_some_iff.1 h3).1 h.dis.ids).1 (h3.trans h4.symm)).symm
   rw[if_neg hne];exact h.blk x (List.mem_of_getElem? hi)
 ·rw[vQ hb,if_neg fun h2=>(h.oth x hx).2 e hem h2.symm]; exact(h.oth x hx).1
 ·obtain⟨z,hz,h2,_⟩:=U3 he hy;rw[←h2]; exact(h.oth x hx).2 z hz
 ·rw[vQ hb] at hib;have hin:∀y∈L,y.id=i→∃x∈Proofs.YtekgciopamkjlaaGreat.reuse L j e v,x.id=i:=fun y hy hyi=>by
   obtain⟨x,hx,h2,_⟩:=V8 (u:=v) he hy;exact⟨x,hx,h2.trans hyi⟩
  by_cases h2:i=e.id
  ·exact .inl (hin e hem h2.symm)
  ·rw[if_neg h2] at hib;rcases h.all i b hib with⟨y,hy,hyi⟩ | hx
   ·exact .inl (hin y hy hyi)
   ·exact .inr hx
 ·unfold Proofs.YtekgciopamkjlaaGreat.reuse at hx;rcases List.mem_or_eq_of_mem_set hx with hx | rfl
  ·exact h.us x hx
  ·exact hv
 ·obtain⟨y,hy,_,h2⟩:=U3 he hx;rw[←h2]; exact h.fold y hy
/-- a new name, not yet used -/
theorem Vi.new{D:List (Option Bt)}{L:List Nm}{B:List (Int × Bs)}(h:Vi D L B){n:Bs}(hn:uQ n L=none)(hv:wm n=true)(hf:zM n=n):
 Vi ((ZW D (8+n.length)).set (hnd D-1) (some (u6 0++n))) (L++[⟨((hnd D:Nat):Int),n,0⟩]) B:=by
 have hno:Zt D ((hnd D:Nat):Int)=none:=by
  have:=Vr D;have hp:=Wx D;rw[show((hnd D:Nat):Int)=((hnd D-1:Nat):Int)+1 from by omega,ZR]; exact this
 have hid:∀x∈L,x.id≠((hnd D:Nat):Int):=fun x hx e=>by
  have:=h.blk x hx;rw[e,hno] at this; cases this
 have hg:=WL D (8+n.length);have hidx:(((hnd D:Nat):Int)-1).toNat=hnd D-1:=by have:=Wx D; omega
 have hset:=fun k=>vQ (Y:=u6 0++n) hg k
 rw[hidx] at hset;refine⟨h.dis.add hid (VU hn),fun x hx=>?_,fun x hx=>?_,fun i b hib=>?_,fun x hx=>?_,fun x hx=>?_⟩
 ·rw[hset];rcases List.mem_append.1 hx with hx | hx
  ·rw[if_neg (hid x hx),ZJ (hid x hx)]; exact h.blk x hx
  ·rw[List.mem_singleton.1 hx,if_pos rfl]
 ·obtain⟨h1,h2⟩:=h.oth x hx;have hne:x.1≠((hnd D:Nat):Int):=fun e=>by rw[e,hno] at h1; cases h1
  refine⟨?_,fun e he=>?_⟩
  ·rw[hset,if_neg hne,ZJ hne]; exact h1
  ·rcases List.mem_append.1 he with he | he
   ·exact h2 e he
   ·rw[List.mem_singleton.1 he]; exact fun h3=>hne h3.symm
 ·rw[hset] at hib;by_cases h2:i=((hnd D:Nat):Int)
  ·exact .inl ⟨⟨((hnd D:Nat):Int),n,0⟩,by simp,h2.symm⟩
  ·rw[if_neg h2,ZJ h2] at hib;rcases h.all i b hib with⟨y,hy,hyi⟩ | hx
   ·exact .inl ⟨y,List.mem_append.2 (.inl hy),hyi⟩
   ·exact .inr hx
 ·rcases List.mem_append.1 hx with hx | hx
  ·exact h.us x hx
  ·rw[List.mem_singleton.1 hx]; exact Nat.pow_pos (by decide)
 ·rcases List.mem_append.1 hx with hx | hx
  ·exact h.fold x hx
  ·rw[List.mem_singleton.1 hx]; exact⟨hv,hf⟩
theorem Tb.reuse{tb ab:Nat}{L:List Nm}{T:List Chunk}(h:Tb tb ab L T)(hd:y8 L){j:Nat}{e:Nm}{v:Nat}(he:L[j]?=some e):Tb tb ab (reuse L j e v) T:=by
 obtain⟨ib,lb,HI,HG,h1,h2,rfl⟩:=h;refine⟨ib,lb,HI,HG,?_,?_,rfl⟩
 ·rw[bO hd he]; unfold Proofs.YtekgciopamkjlaaGreat.reuse; rw[List.length_set]; exact h1
 ·rw[aj he]; unfold Proofs.YtekgciopamkjlaaGreat.reuse; rw[List.length_set]; exact h2
theorem l5{Y:Bs}(h:wm Y=true):wm (zM Y)=true∧zM (zM Y)=zM Y:=⟨by rw[uX]; exact h,yH Y⟩
set_option maxRecDepth 10000 in
set_option maxHeartbeats 1000000 in
theorem Lj{tb ab N:Nat}{D:List (Option Bt)}{H:List Chunk}{L:List Nm}{T:List Chunk}{B:List (Int × Bs)}(hT:Tb tb ab L T)(hA:Ar ab N D H)(hI:Vi D L B)(hu:∀e∈L,e.u+1<2 ^ 60)(Y:Bs)(hY:Y.length<2 ^ 62):
 Tri Tryz.prog 61 #[.pointer (some ⟨tb,0,none⟩),sv Y] [T,H] (fun r S=>
  (vW N D L Y≠0∧r= .tuple #[.int .i64 0,.int .i64 (vW N D L Y)]∧S=[T,H])∨
  (vW N D L Y=0∧∃(T' H':List Chunk) (D':List (Option Bt)),r= .tuple #[.int .i64 (UZ D L (zM Y)),.int .i64 0]∧Tb tb ab (wu D L (zM Y)) T'∧Ar ab N D' H'∧Vi D' (wu D L (zM Y)) B∧mh D'=mh (vX D L (zM Y))∧S=[T',H'])):=by
 obtain⟨ib,lb,HI,HG,hMI,hMG,rfl⟩:=hT;refine Tri.forget (Tri.perm (S:=[WW tb ab ib lb,HI,HG,H]) (by simp) (zq Tryz.Sn (Nat.le_of_ble_eq_true rfl) ?_));unfold Tryz.x61;have hback:∀{S':zL},zG S' [WW tb ab ib lb,HI,HG,H]→zG S' [WW tb ab ib lb++HI++HG,H]:=fun h=>h.trans ⟨[],by simp⟩
 refine ze (z8 (yp pC (yp pC (zf (za (ze (zu (ze (z8 (yp (pT rfl) ?_))))))))));refine zh (zk (VG Y hY) rfl rfl fun r S' h=>?_);obtain⟨rfl,rfl⟩:=h;cases hv:wm Y with
 | false=>
  have hE:vW N D L Y=2:=by unfold vW; rw[if_pos hv]
  refine yp (Za rfl) (yp (pB rfl) (zf (za (zC rfl (ze (z8 (yp pC (yp pC (zf (za (zJ (bret (zV ?_)))))))))))));exact zI (Kz rfl rfl) ⟨_,hback .of,.inl ⟨by rw[hE]; decide,by rw[hE],rfl⟩⟩
 | true=>
 obtain⟨hvn,hfn⟩:=l5 hv;have hfl:=Wp Y;have h255:=Wt hv;refine yp (Za rfl) (yp (pB rfl) (zf (za (zo rfl (ze (z8 (yp (pP rfl) ?_)))))));refine zh (zk (J9 (tb:=tb) (ab:=ab) (ib:=ib) (lb:=lb)) rfl rfl fun r S' h=>?_);obtain⟨rfl,rfl⟩:=h;refine yp (pB rfl) (zf (za (zo rfl (zl (zW (za (ze (z8 (yp (pT rfl) ?_)))))))));refine zh (zk (JA Y hY) rfl rfl fun r S' h=>?_);obtain⟨rfl,rfl⟩:=h;have hid:UA L ⟨(zM Y).toArray⟩=(uq L (zM Y)).map (·.id):=by
  unfold UA uq;cases uQ (zM Y) L<;>rfl
 generalize hn:zM Y=n at*
 refine yp (pT rfl) (zf (za (ze (z8 (yp (pP rfl) (yp (zX rfl) (yp (zx rfl) ?_)))))));refine zh (zy rfl rfl ?_);refine yp (pT rfl) ?_;refine zh (mH (v:= .int .i64 (((uq L n).map (·.id)).getD 0)) (bl:=(uq L n).isSome) hMI (by simp) (⟨n.toArray⟩:ByteArray) J5 yu aD rfl rfl ?_ ?_ ?_)
 ·rw[hid]; cases uq L n<;>rfl
 ·rw[hid]; cases uq L n<;>rfl
 refine yp (pU rfl) (yp (pExt rfl rfl) (yp (pExt rfl rfl) (yp (pI rfl) (yp (pB rfl) (zf (za ?_))))));refine uy (fun E S'=>∃(ib lb:Nat) (L1:List Nm) (HI HG H1:List Chunk) (D1:List (Option Bt)) (j:Nat) (e:Nm),Has E [(0,.pointer (some ⟨tb,0,none⟩)),(6,.int .i64 e.id)]∧Mp ib (UA L1) L1.length HI∧Mp lb (V5 L1) L1.length HG∧Ar ab N D1 H1∧Vi D1 L1 B∧L1[j]?=some e∧e.u+1<2 ^ 60∧
  vW N D L Y=0∧e.id=UZ D L n∧reuse L1 j e (e.u+1)=wu D L n∧mh D1=mh (vX D L n)∧zG S' [WW tb ab ib lb,HI,HG,H1]) ?_ ?_
 ·cases hb:uq L n with
  | some e=>
   obtain⟨j,h1,h2,h3⟩:=Vu hb;have hE:vW N D L Y=0:=by unfold vW; rw[if_neg (by rw[hv]; decide),hn,hb]; rfl
   refine ze (z8 (yp (pB rfl) (yp (Za rfl) (zf (za (zo rfl (zl (za ?_))))))));refine⟨ib,lb,L,HI,HG,H,D,j,e,⟨rfl,rfl,trivial⟩,hMI,hMG,hA,hI,h2,hu e (List.mem_of_getElem? h2),hE,?_,?_,?_,.of⟩
   ·unfold UZ; rw[hb]; rfl
   ·unfold wu; rw[h1]; simp only[h2]
   ·unfold vX; rw[hb]; rfl
  | none=>
   have h1:=vV hb;have hEa:vW N D L Y=ZV N D (8+(n.length:Int)):=by unfold vW; rw[if_neg (by rw[hv]; decide),hn,hb,if_neg (by decide),hfl]
   refine ze (z8 (yp (pB rfl) (yp (Za rfl) (zf (za (zC rfl (ze (z8 (yp (pP rfl) (yp (zX rfl) (yp (zx rfl) ?_)))))))))));refine zh (zy rfl rfl ?_);refine yp (pT rfl) (yp (Wm rfl) ?_);rw[Xt];refine yp (vJ rfl rfl (by omega)) ?_;refine zh (zk (qo hA ((8+n.length:Nat):Int)) rfl rfl fun r S' h=>?_);rw[show((8+n.length:Nat):Int)=8+(n.length:Int) from by omega] at h;rcases h with⟨he,rfl,rfl⟩ | ⟨he,m,H1,hm,rfl,hA1,rfl⟩
   ·rw[←hEa] at he ⊢;refine yp (pU rfl) (yp (pExt rfl rfl) (yp (pExt rfl rfl) (yp (pI rfl) (yp (pI rfl) (zf (za (ze (ze (z8 (yp (pI rfl) (yp (WU rfl rfl) (zf (za ?_)))))))))))));refine wV rfl (fun _=>?_) (fun h2=>absurd h2 he);refine ze (z8 (yp (pI rfl) (yp pC (yp (pI rfl) (zf (za (zJ (zV (zV ?_)))))))));exact zI (Kz rfl rfl) ⟨_,hback .of,.inl ⟨he,rfl,rfl⟩⟩
   obtain rfl:m=8+n.length:=by omega
   have hnew:=hI.new h1 hvn (by rw[←hn]; exact yH Y);have hno:Zt D ((hnd D:Nat):Int)=none:=by
    have:=Vr D;have hp:=Wx D;rw[show((hnd D:Nat):Int)=((hnd D-1:Nat):Int)+1 from by omega,ZR]; exact this
   have hidn:∀x∈L,x.id≠(⟨((hnd D:Nat):Int),n,0⟩:Nm).id:=fun x hx e=>by
    have:=hI.blk x hx;rw[e,hno] at this; cases this
   have hnn:∀x∈L,x.n≠(⟨((hnd D:Nat):Int),n,0⟩:Nm).n:=VU h1;have hf1:=sj hI.dis hidn hnn;have hf2:=lV (L:=L) (e:=⟨((hnd D:Nat):Int),n,0⟩);have hi0:UA L ⟨n.toArray⟩=none:=by rw[hid,hb]; rfl
   have ha0:V5 L ((hnd D:Nat):Int)=none:=by
    cases hx:V5 L ((hnd D:Nat):Int) with
    | none=>rfl
    | some b=>obtain⟨_,x,hx1,hx2⟩:=vN.1 hx; exact absurd hx2 (hidn x hx1)
   refine yp (pU rfl) (yp (pExt rfl rfl) (yp (pExt rfl rfl) (yp (pI rfl) (yp (pI rfl) (zf (za (ze ?_)))))))
   skip
   refine ze (z8 (yp (pI rfl) (yp (WU rfl rfl) (zf (za (zo rfl (zl (za (ze (wU (R:=[WW tb ab ib lb]) (by simp) (zi (pP rfl) (zi (zX rfl) (zi (zx rfl) (Zb rfl rfl (zi (pT rfl) (zi (pP rfl) (zi (zX rfl) (zi (zx rfl) (Zb rfl rfl (zi (pI rfl) (zi (pI rfl) (zi (pI rfl) (zi (pI rfl) ?_)))))))))))))))))))))));refine zO (KO (z0:=(0:Int)) hMI (⟨n.toArray⟩:ByteArray) J5 yu aD rfl rfl fun s1 HI1 hS1=>?_) zN;refine zi (pExt rfl rfl) ?_;refine zO (yP (v:=((hnd D:Nat):Int)) hS1 rfl rfl rfl fun HI2 hMI2=>?_) zN;refine zO (KO (z0:=false) hMG ((hnd D:Nat):Int) J6 J4 Yd rfl rfl fun s2 HG1 hS2=>?_) zN;refine zi (pExt rfl rfl) ?_;refine zO (yP (v:=true) hS2 rfl rfl rfl fun HG2 hMG2=>?_) zN;rw[iR] at hMI2 hMG2;have hc1:Y8 (UA L) (⟨n.toArray⟩:ByteArray) L.length=(L++[(⟨((hnd D:Nat):Int),n,0⟩:Nm)]).length:=by unfold Y8; rw[hi0]; simp
   have hc2:Y8 (V5 L) ((hnd D:Nat):Int) L.length=(L++[(⟨((hnd D:Nat):Int),n,0⟩:Nm)]).length:=by unfold Y8; rw[ha0]; simp
   rw[hc1, ←hf1] at hMI2;rw[hc2, ←hf2] at hMG2;refine zH (za (z8 (yp (pP rfl) (yp (zX rfl) (yp (zx rfl) ?_)))));refine zh (zy rfl rfl ?_);refine yp (pI rfl) (yp (pT rfl) ?_);refine zh (EA rfl fun v Hs hLs=>?_);have hLs:Zg 5 v n Hs:=hLs
   skip
   have hg:=WL D (8+n.length);have hp:wM (ZW D (8+n.length)) ((hnd D:Nat):Int) 8 (n.length:Nat)=0:=by
    unfold wM; rw[hg]; exact if_neg (by rw[mD]; omega)
   have hw:Ub (ZW D (8+n.length)) ((hnd D:Nat):Int) 8 n=(ZW D (8+n.length)).set (hnd D-1) (some (u6 0++n)):=by
    unfold Ub;rw[if_pos hp,hg];have hidx:(((hnd D:Nat):Int)-1).toNat=hnd D-1:=by have:=Wx D; omega
    rw[hidx];refine congrArg (fun z=>(ZW D (8+n.length)).set (hnd D-1) (some z)) ?_;show spl (zeros (8+n.length)) 8 n=u6 0++n;unfold spl zeros;rw[List.take_replicate,List.drop_replicate,Nat.min_eq_left (by omega),Nat.sub_self,List.replicate_zero,List.append_nil];rfl
   refine zh (zk (ql (S0:=[Hs]) hA1 ((hnd D:Nat):Int) 8 (Y:=n) (hLs.src (by simp)) (by show n.length≤9223372036854775807; omega)) rfl rfl fun r S' h=>?_);obtain⟨rfl,H2,hA2,rfl⟩:=h;rw[hw] at hA2;refine zf (za ?_);refine⟨ib,lb,L++[⟨((hnd D:Nat):Int),n,0⟩],HI2,HG2,H2,_,L.length,⟨((hnd D:Nat):Int),n,0⟩,⟨rfl,rfl,trivial⟩,hMI2,hMG2,hA2,hnew,by simp,(by show 0+1<2 ^ 60; decide),by rw[hEa]; exact he,?_,?_,?_,.of⟩
   ·unfold UZ; rw[hb]; rfl
   ·unfold wu reuse; rw[h1]; simp
   ·have hlen:(u6 0++n).length=(zeros (8+n.length)).length:=by rw[List.length_append,ZX,mD]
    have hidx:(((hnd D:Nat):Int)-1).toNat=hnd D-1:=by have:=Wx D; omega
    have:=Yj (Y:=u6 0++n) hg hlen;rw[hidx] at this;rw[this]; unfold vX; rw[hb]; rfl
 clear hback hMI hMG;intro E S' ⟨ib,lb,L1,HI1,HG1,H1,D1,j,e,hE,hMI1,hMG1,hA1,hI1,hj,heu,hE0,hea,hre,hsh,hJ⟩;have hem:=List.mem_of_getElem? hj;have hblk:=hI1.blk e hem;obtain⟨E0,e0⟩:=zm hE; subst e0; clear hE;refine zn hJ (zn (zG.re (S1:=[WW tb ab ib lb,HI1,HG1,H1]) (S2:=[WW tb ab ib lb++HI1++HG1,H1]) (by simp)) ?_);have hby:KD L1 e.id=some e:=by unfold KD; rw[fG hI1.dis.ids hj]; exact hj
 refine ze (z8 (yp (pP rfl) (yp (pI rfl) (yp (pP rfl) (yp (pI rfl) ?_)))));refine zh (zk (nJ (Tb.mk hMI1 hMG1) hA1 hI1 e.id) rfl rfl fun r S' h=>?_);obtain⟨rfl,rfl⟩:=h;rw[hby];refine YK (zG.re (S1:=[WW tb ab ib lb++HI1++HG1,H1]) (S2:=[WW tb ab ib lb,HI1,HG1,H1]) (by simp)) ?_;have heu2:e.u<2 ^ 60:=by omega
 show YL _ _ _ _ _ (Zm _ (.int .i64 (e.u:Int)) _) _;refine yp (Z8 rfl rfl (by omega)) ?_;refine zh (zk (Dl (tb:=tb) (ib:=ib) (lb:=lb) hA1 hblk (e.u+1) heu) rfl rfl fun r S' h=>?_);obtain⟨rfl,H2,hA2,rfl⟩:=h;have hlen:(u6 (e.u+1)++e.n).length=(u6 e.u++e.n).length:=by rw[List.length_append,List.length_append,ZX,ZX]
 have hI2:=hI1.reuse hj heu;have hT2:=Tb.reuse (v:=e.u+1) (Tb.mk (tb:=tb) (ab:=ab) hMI1 hMG1) hI1.dis hj;have hs2:=Yj hblk hlen;rw[hre] at hI2 hT2;refine zf (za (ze (z8 (yp (pI rfl) (yp (pI rfl) (yp pC (zf (za (zJ ?_)))))))));exact zI (Kz rfl rfl) ⟨[WW tb ab ib lb++HI1++HG1,H2],zG.re (S1:=[WW tb ab ib lb,HI1,HG1,H2]) (by simp),.inr ⟨hE0,_,H2,_,by rw[hea],hT2,hA2,hI2,hs2.trans hsh,rfl⟩⟩
def Pos(L:List Nm):Prop:=∀e∈L,1≤e.u
def gI(L:List Nm)(i:Int):Int:=if(KD L i).isSome then 0 else 5
def Vs(L:List Nm)(i:Int):List Nm:=match U2 i L with
 | some j=>(match L[j]? with | some e=>if e.u=1 then L.eraseIdx j else reuse L j e (e.u-1) | none=>L)
 | none=>L
def xZ(D:List (Option Bt))(L:List Nm)(i:Int):List (Option Bt):=match KD L i with
 | some e=>if e.u=1 then V3 D i else D
 | none=>D
theorem jw{D:List (Option Bt)}{i:Int}{b:Bt}(hb:Zt D i=some b):Zt (V3 D i) i=none:=by
 obtain⟨j,rfl,hj⟩:=U6 hb;unfold V3;rw[hb,if_pos (show(some b).isSome=true from rfl),ZR,show((j:Int)+1-1).toNat=j from by omega,List.getElem?_set_self (List.getElem?_eq_some_iff.1 hj).1]; rfl
theorem Vi.drop{D:List (Option Bt)}{L:List Nm}{B:List (Int × Bs)}(h:Vi D L B){j:Nat}{e:Nm}(he:L[j]?=some e):Vi (V3 D e.id) (L.eraseIdx j) B:=by
 have hb:=h.blk e (List.mem_of_getElem? he);have hself:=jw hb;refine⟨h.dis.erase j,fun x hx=>?_,fun x hx=>⟨?_,fun y hy=>?_⟩,fun i b hib=>?_,fun x hx=>?_,fun x hx=>?_⟩
 ·obtain⟨h1,h2,_⟩:=vM h.dis he hx;rw[wR h2]; exact h.blk x h1
 ·rw[wR fun h2=>(h.oth x hx).2 e (List.mem_of_getElem? he) h2.symm]; exact(h.oth x hx).1
 ·exact(h.oth x hx).2 y (vM h.dis he hy).1
 ·by_cases h2:i=e.id
  ·rw[h2,hself] at hib; cases hib
  ·rw[wR h2] at hib;rcases h.all i b hib with⟨y,hy,hyi⟩ | hx
   ·exact .inl ⟨y,mem_erase he hy (.inl fun h3=>h2 (hyi.symm.trans h3)),hyi⟩
   ·exact .inr hx
 ·exact h.us x (vM h.dis he hx).1
 ·exact h.fold x (vM h.dis he hx).1
theorem sJ{D:List (Option Bt)}{i:Int}{b Y:Bt}(hb:Zt D i=some b):V3 (D.set (i-1).toNat (some Y)) i=V3 D i:=by
 have h1:=vQ (Y:=Y) hb i;rw[if_pos rfl] at h1;unfold V3;rw[h1,hb,if_pos (show(some Y).isSome=true from rfl),if_pos (show(some b).isSome=true from rfl),List.set_set]
set_option maxRecDepth 10000 in
set_option maxHeartbeats 1000000 in
theorem nK{tb ab N:Nat}{D:List (Option Bt)}{H:List Chunk}{L:List Nm}{T:List Chunk}{B:List (Int × Bs)}(hT:Tb tb ab L T)(hA:Ar ab N D H)(hI:Vi D L B)(hP:Pos L)(i:Int):
 Tri Tryz.prog 63 #[.pointer (some ⟨tb,0,none⟩),.int .i64 i] [T,H] (fun r S=>r= .int .i64 (gI L i)∧∃(T' H':List Chunk) (D':List (Option Bt)),Tb tb ab (Vs L i) T'∧Ar ab N D' H'∧Vi D' (Vs L i) B∧mh D'=mh (xZ D L i)∧S=[T',H']):=by
 refine Tri.forget (zq Tryz.Sl (Nat.le_of_ble_eq_true rfl) ?_);unfold Tryz.TW;refine ze (z8 (yp pC (zf (za (ze (z8 (yp (pP rfl) (yp (pI rfl) ?_))))))));refine zh (zk (aP hT hA hI i) rfl rfl fun r S' h=>?_);obtain⟨rfl,rfl⟩:=h;cases hb:KD L i with
 | none=>
  have h1:=QN hb;refine yp (pU rfl) (yp (pExt rfl rfl) (yp (pExt rfl rfl) (yp (pT rfl) (yp (pB rfl) (zf (za (ze (ze (z8 (yp (pB rfl) (yp (Za rfl) (zf (za (zC rfl (ze (z8 (yp pC (zf (za (zJ (zV ?_)))))))))))))))))))));refine zI (rI rfl) ⟨_,.of,by unfold gI; rw[hb]; rfl,T,H,D,?_,hA,?_,?_,rfl⟩
  ·unfold Vs; rw[h1]; exact hT
  ·unfold Vs; rw[h1]; exact hI
  ·unfold xZ; rw[hb]
 | some e=>
  obtain⟨j,h1,h2,rfl⟩:=Ki hb;have hem:=List.mem_of_getElem? h2;have hpos:=hP e hem;have hblk:=hI.blk e hem;have hus:=hI.us e hem;have hu1:e.u-1<2 ^ 60:=by omega
  have hlen:(u6 (e.u-1)++e.n).length=(u6 e.u++e.n).length:=by rw[List.length_append,List.length_append,ZX,ZX]
  have hR:gI L e.id=0:=by unfold gI; rw[hb]; rfl
  have hLd:Vs L e.id=if e.u=1 then L.eraseIdx j else reuse L j e (e.u-1):=by unfold Vs; rw[h1]; simp only[h2]
  have hDd:xZ D L e.id=if e.u=1 then V3 D e.id else D:=by unfold xZ; rw[hb]
  refine yp (pU rfl) (yp (pExt rfl rfl) (yp (pExt rfl rfl) (yp (pT rfl) (yp (pB rfl) (zf (za (ze (ze (z8 (yp (pB rfl) (yp (Za rfl) (zf (za (zo rfl (zl (za (ze (z8 (yp (pP rfl) (yp (pI rfl) ?_))))))))))))))))))));refine zh (zk (nJ hT hA hI e.id) rfl rfl fun r S' h=>?_);obtain⟨rfl,rfl⟩:=h;rw[hb];have hT0:=hT;obtain⟨ib,lb,HI,HG,hMI,hMG,rfl⟩:=hT;refine YK (zG.re (S1:=[WW tb ab ib lb++HI++HG,H]) (S2:=[WW tb ab ib lb,HI,HG,H]) (by simp)) ?_;show YL _ _ _ _ _ (Zm _ (.int .i64 (e.u:Int)) _) _;refine yp (Zz rfl rfl (by omega)) (yp (pI rfl) (zf (za (ze (z8 (yp (pP rfl) (yp (pI rfl) (yp (pI rfl) ?_))))))));refine zh (zk (Dl (tb:=tb) (ib:=ib) (lb:=lb) hA hblk (e.u-1) hu1) rfl rfl fun r S' h=>?_);obtain⟨rfl,H2,hA2,rfl⟩:=h;refine zf (za (ze (ze (z8 (yp (pI rfl) (yp (wB rfl rfl) (zf (za ?_))))))));by_cases hu:e.u=1
  ·rw[if_pos hu] at hLd hDd;rw[decide_eq_true (show((e.u-1:Nat):Int)=0 from by omega)];refine zC rfl (ze (z8 (yp (pP rfl) (yp (zX rfl) (yp (zx rfl) ?_)))));refine zh (zy rfl rfl ?_);refine yp (pT rfl) ?_;refine zh (mG hMI (⟨e.n.toArray⟩:ByteArray) J5 yu rfl rfl fun HI2 hMI2=>?_);refine zf (za (ze (z8 (yp (pP rfl) (yp (zX rfl) (yp (zx rfl) ?_))))));refine zh (zy rfl rfl ?_);refine yp (pI rfl) ?_;refine zh (mG hMG e.id J6 J4 rfl rfl fun HG2 hMG2=>?_);refine zf (za (z8 (yp (pP rfl) (yp (zX rfl) (yp (zx rfl) ?_)))));refine zh (zy rfl rfl ?_);refine yp (pI rfl) ?_;refine zh (zk (Ao hA2 e.id) rfl rfl fun r S' h=>?_);obtain⟨rfl,H3,hA3,rfl⟩:=h;rw[sJ hblk] at hA3;have hc1:JC (UA L) (⟨e.n.toArray⟩:ByteArray) L.length=(L.eraseIdx j).length:=by
    unfold JC;rw[(uf hI.dis).2 ⟨e,hem,rfl,rfl⟩,List.length_eraseIdx,if_pos (List.getElem?_eq_some_iff.1 h2).1]; rfl
   have hc2:JC (V5 L) e.id L.length=(L.eraseIdx j).length:=by
    unfold JC;rw[vN.2 ⟨rfl,e,hem,rfl⟩,List.length_eraseIdx,if_pos (List.getElem?_eq_some_iff.1 h2).1]; rfl
   rw[hc1, ←bP hI.dis h2] at hMI2;rw[hc2, ←ak hI.dis h2] at hMG2;refine zf (za (ze (z8 (yp pC (zf (za (zJ ?_)))))));exact zI (rI rfl) ⟨[WW tb ab ib lb++HI2++HG2,H3],zG.re (S1:=[WW tb ab ib lb,HI2,HG2,H3]) (by simp),by rw[hR],_,H3,_,hLd▸Tb.mk hMI2 hMG2,hA3,hLd▸hI.drop h2,by rw[hDd],rfl⟩
  ·rw[if_neg hu] at hLd hDd;rw[decide_eq_false (show ¬((e.u-1:Nat):Int)=0 from by omega)];refine zo rfl (zl (za (ze (z8 (yp pC (zf (za (zJ ?_))))))));exact zI (rI rfl) ⟨[WW tb ab ib lb++HI++HG,H2],zG.re (S1:=[WW tb ab ib lb,HI,HG,H2]) (by simp),by rw[hR],_,H2,_,hLd▸Tb.reuse hT0 hI.dis h2,hA2,hLd▸hI.reuse h2 hu1,by rw[hDd]; exact Yj hblk hlen,rfl⟩
theorem Vi.nil:Vi [] [] []:=⟨⟨List.nodup_nil,List.nodup_nil⟩,fun e he=>by simp at he,fun e he=>by simp at he,fun i b h=>by unfold Zt at h; split at h<;>simp at h,fun e he=>by simp at he,fun e he=>by simp at he⟩
theorem Pos.nil:Pos []:=fun e he=>by simp at he
theorem cK{L:List Nm}{e:Nm}(he:e∈L):(uq L e.n).isSome=true:=by
 cases hb:uq L e.n with
 | some x=>rfl
 | none=>exact absurd rfl (VU (vV hb) e he)
theorem Aw{D:List (Option Bt)}{L:List Nm}{n:Bs}{k:Nat}(h:∀e∈L,e.u≤k):∀e∈wu D L n,e.u≤k+1:=fun e he=>by
 cases hb:uq L n with
 | some x=>
  obtain⟨j,h1,h2,rfl⟩:=Vu hb;have:wu D L x.n=reuse L j x (x.u+1):=by unfold wu; rw[h1]; simp only[h2]
  rw[this] at he;unfold reuse at he;rcases List.mem_or_eq_of_mem_set he with he | rfl
  ·have:=h e he; omega
  ·have:=h x (List.mem_of_getElem? h2); show x.u+1≤k+1; omega
 | none=>
  have:wu D L n=L++[⟨((hnd D:Nat):Int),n,1⟩]:=by unfold wu; rw[vV hb]
  rw[this] at he;rcases List.mem_append.1 he with he | he
  ·have:=h e he; omega
  ·rw[List.mem_singleton.1 he]; show 1≤k+1; omega
theorem Ay{D:List (Option Bt)}{L:List Nm}{n:Bs}(h:Pos L):Pos (wu D L n):=fun e he=>by
 cases hb:uq L n with
 | some x=>
  obtain⟨j,h1,h2,rfl⟩:=Vu hb;have:wu D L x.n=reuse L j x (x.u+1):=by unfold wu; rw[h1]; simp only[h2]
  rw[this] at he;unfold reuse at he;rcases List.mem_or_eq_of_mem_set he with he | rfl
  ·exact h e he
  ·show 1≤x.u+1; omega
 | none=>
  have:wu D L n=L++[⟨((hnd D:Nat):Int),n,1⟩]:=by unfold wu; rw[vV hb]
  rw[this] at he;rcases List.mem_append.1 he with he | he
  ·exact h e he
  ·rw[List.mem_singleton.1 he]; exact Nat.le_refl _
theorem l9{L:List Nm}{i:Int}(h:Pos L):Pos (Vs L i):=fun e he=>by
 unfold Vs at he;split at he
 ·split at he
  ·next x hx=>
   split at he
   ·exact h e ((List.eraseIdx_sublist _ _).subset he)
   ·next hu=>
    unfold reuse at he;rcases List.mem_or_eq_of_mem_set he with he | rfl
    ·exact h e he
    ·have:=h x (List.mem_of_getElem? hx); show 1≤x.u-1; omega
  ·exact h e he
 ·exact h e he
end Go.Proofs.YtekgciopamkjlaaGreat
