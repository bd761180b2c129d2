/- The table of names (chapter 7): contracts of its functions. The table of names (chapter 7): uses, names, Add and Drop. The table of names (chapter 7): Add and Drop. The table of names (chapter 7): what Add does. The table of names (chapter 7): Drop; awake. The table of names (chapter 7): Add, once more. The table of names (chapter 7), beside the document's: what Add and Drop leave. -/
import Derived.Test.YtekgciopamkjlaaGreatN1
import Derived.Test.YtekgciopamkjlaaGreatFIntern
namespace Go.Proofs.YtekgciopamkjlaaGreat
open Go.Xs
open Enc (enc)
theorem kX:Tryz.prog.underlying 123=some (.map 9 3):=by kernel_rfl
theorem kY:Tryz.prog.underlying 124=some (.map 3 4):=by kernel_rfl
theorem xX:Tryz.prog.underlying 9=some .string:=by kernel_rfl
theorem kW:Tryz.prog.underlying 3=some (.int .i64):=by kernel_rfl
theorem JG:(Tryz.prog.info? 3).bind (·.zero)=some (.int .i64 0):=by kernel_rfl
theorem XA:(Tryz.prog.info? 4).bind (·.zero)=some (.bool false):=by kernel_rfl
abbrev Wm(tb ab ib lb:Nat):List Chunk:=[(tb,.cells #[.pointer (some ⟨ab,0,none⟩),.map (some ib),.map (some lb)] 126)]
/-- the table, as one piece of memory -/
def Tb(tb ab:Nat)(L:List Nm)(T:List Chunk):Prop:=
 ∃(ib lb:Nat) (HI HG:List Chunk),Mp ib (uR L) L.length HI∧Mp lb (WO L) L.length HG∧T=Wm tb ab ib lb++HI++HG
/-- the names stand in the arena, and blocks of others; nothing else does -/
structure WZ(D:List (Option Bt))(L:List Nm)(B:List (Int × Bs)):Prop where
 dis:xS L
 blk:∀e∈L,Zk D e.id=some (Vl e.u++e.n)
 oth:∀x∈B,Zk D x.1=some x.2∧∀e∈L,e.id≠x.1
 all:∀i b,Zk D i=some b→(∃e∈L,e.id=i)∨∃x∈B,x.1=i
 us:∀e∈L,e.u<2 ^ 60
 fold:∀e∈L,WQ e.n=true∧zA e.n=e.n
theorem K3{tb ab ib lb:Nat}:zP Tryz.prog 69 #[.pointer (some ⟨tb,0,none⟩)] [Wm tb ab ib lb] (fun r S=>r= .bool false∧S=[Wm tb ab ib lb]):=by
 refine zP.forget (zl Tryz.LM (Nat.le_of_ble_eq_true rfl) ?_);unfold Tryz.MR;refine ze (z8 (yp pC (zf (za (ze (z8 (yp (pP rfl) (yp (wz rfl rfl) (yp (pB rfl) (zY rfl (Z7 (pP rfl) (zY rfl (Z7 (zM rfl) (zY rfl (Z7 (zn rfl) (zY rfl ?_))))))))))))))));refine(zB rfl rfl ?_);refine zY rfl (Z7 (wz rfl rfl) (yp (zQ rfl rfl) (yp (pB rfl) (zf (za (zH ?_))))));exact zG (rB rfl) ⟨_,.of,rfl,rfl⟩
theorem Tb.mk{tb ab ib lb:Nat}{L:List Nm}{HI HG:List Chunk}(h1:Mp ib (uR L) L.length HI)(h2:Mp lb (WO L) L.length HG):Tb tb ab L (Wm tb ab ib lb++HI++HG):=⟨ib,lb,HI,HG,h1,h2,rfl⟩
theorem Dy{ab:Nat}:zP Tryz.prog 49 #[.pointer (some ⟨ab,0,none⟩)] [] (fun r S=>∃tb T,r= .pointer (some ⟨tb,0,none⟩)∧Tb tb ab [] T∧S=[T]):=by
 refine zP.forget (zl Tryz.M6 (Nat.le_of_ble_eq_true rfl) ?_);unfold Tryz.Nc;refine ze (z8 (yp pC (zf (za (ze (z8 (yp (pP rfl) ?_)))))));refine zh (kR ByteArray Int fun ib HI hI=>?_);refine zh (kR Int Bool fun lb HG hG=>?_);refine yp (QM (j5 rfl) (Nt rfl) (Nt rfl)) ?_;refine zh (Zp rfl fun p7=>?_);refine yp (pP rfl) (zf (za (zH ?_)));exact zG (rP rfl) ⟨[Wm p7 ab ib lb++HI++HG],zD.vV,p7,_,rfl,Tb.mk (L:=[]) hI hG,rfl⟩
/-- the one of these letters -/
def Vp(L:List Nm)(n:Bs):Option Nm:=(VF n L).bind fun j=>L[j]?
def Yi(L:List Nm)(i:Int):Option Nm:=(VQ i L).bind fun j=>L[j]?
theorem tJ{tb ab:Nat}{L:List Nm}{T:List Chunk}(hT:Tb tb ab L T)(Y:Bs)(hY:Y.length<2 ^ 62):zP Tryz.prog 100 #[.pointer (some ⟨tb,0,none⟩),sv Y] [T]
 (fun r S=>r= .tuple #[.int .i64 (((Vp L (zA Y)).map (·.id)).getD 0),.bool (Vp L (zA Y)).isSome]∧S=[T]):=by
 obtain⟨ib,lb,HI,HG,hI,hG,rfl⟩:=hT;refine zP.Vh (zP.forget (zl Tryz.GY (Nat.le_of_ble_eq_true rfl) ?_));unfold Tryz.Dv;refine ze (z8 (yp pC (yp pC (zf (za (ze (ze (z8 (yp (pP rfl) ?_)))))))));refine zh (zk (K3 (tb:=tb) (ab:=ab) (ib:=ib) (lb:=lb)) rfl rfl fun r S' h=>?_);obtain⟨rfl,rfl⟩:=h;refine zf (za (zx rfl (zq (za (ze (Z4 (zi (pP rfl) (zi (zM rfl) (zi (zn rfl) (Z9 rfl rfl (zi (pT rfl) ?_)))))))))));refine Zf (zk (Kz Y hY) rfl rfl fun r S' h=>?_) zO;obtain⟨rfl,rfl⟩:=h;refine⟨by simp,?_⟩;have hid:uR L ⟨(zA Y).toArray⟩=(Vp L (zA Y)).map (·.id):=by
  unfold uR Vp;cases VF (zA Y) L<;>rfl
 refine zN (dK (v:= .int .i64 (((Vp L (zA Y)).map (·.id)).getD 0)) (bl:=(Vp L (zA Y)).isSome) hI (by simp) (⟨(zA Y).toArray⟩:ByteArray) kX xX JG rfl rfl ?_ ?_ ?_) zO
 ·rw[hid]; cases Vp L (zA Y)<;>rfl
 ·rw[hid]; cases Vp L (zA Y)<;>rfl
 refine zi (pU rfl) (zi (pExt rfl rfl) (zi (pExt rfl rfl) (zi (pI rfl) (zi (pB rfl) (zJ (za (ze (z8 (yp (pI rfl) (yp (pB rfl) (yp (pI rfl) (yp (pB rfl) (zf (za (zH ?_)))))))))))))));exact zG (nM rfl rfl) ⟨_,zD.vV,rfl,rfl⟩
theorem tK{tb ab:Nat}{L:List Nm}{T:List Chunk}(hT:Tb tb ab L T)(Y:Bs)(hY:Y.length<2 ^ 62):zP Tryz.prog 56 #[.pointer (some ⟨tb,0,none⟩),sv Y] [T]
 (fun r S=>r= .int .i64 (if(Vp L (zA Y)).isSome=true∨WQ Y=false then 0 else cost (8+Y.length))∧S=[T]):=by
 refine zP.forget (zl Tryz.LX (Nat.le_of_ble_eq_true rfl) ?_);unfold Tryz.MZ;refine ze (z8 (yp pC (zf (za (ze (ze (z8 (yp (pP rfl) (yp (pT rfl) ?_)))))))));refine zh (zk (tJ hT Y hY) rfl rfl fun r S' h=>?_);obtain⟨rfl,rfl⟩:=h;cases hb:(Vp L (zA Y)).isSome with
 | true=>
  refine yp (pU rfl) (yp (pExt rfl rfl) (yp (pExt rfl rfl) (yp (pI rfl) (yp (pB rfl) (zf (za (ze (z8 (yp (pB rfl) (yp (pB rfl) (zW rfl (zW rfl (zW rfl (yp (zK rfl rfl) (zf (za (zF rfl (ze (z8 (yp pC (zf (za (zH (zX ?_))))))))))))))))))))))));exact zG (rI rfl) ⟨_,.of,by rw[if_pos (.inl rfl)],rfl⟩
 | false=>
  refine yp (pU rfl) (yp (pExt rfl rfl) (yp (pExt rfl rfl) (yp (pI rfl) (yp (pB rfl) (zf (za (ze (z8 (yp (pB rfl) (yp (pB rfl) (zY rfl (Z7 (pT rfl) (zY rfl ?_)))))))))))));refine zk (uw Y hY) rfl rfl fun r S' h=>?_
  obtain⟨rfl,rfl⟩:=h;cases hv:WQ Y with
  | false=>
   refine zY rfl (Z7 (Zd rfl) (yp (zQ rfl rfl) (zf (za (zF rfl (ze (z8 (yp pC (zf (za (zH (zX ?_))))))))))));exact zG (rI rfl) ⟨_,.of,by rw[if_pos (.inr rfl)],rfl⟩
  | true=>
   refine zY rfl (Z7 (Zd rfl) (yp (zQ rfl rfl) (zf (za (zx rfl (zq (za (ze (z8 (yp (pT rfl) (yp (uX rfl) ?_)))))))))));rw[Qo];refine yp (Vq rfl rfl (by omega)) ?_;refine zh (zk (Xg (8+(Y.length:Int))) rfl rfl fun r S' h=>?_);obtain⟨rfl,rfl⟩:=h;refine yp (pI rfl) (zf (za (zH ?_)));exact zG (rI rfl) ⟨_,.of,by rw[if_neg (by simp)],rfl⟩
theorem rQ{E:Env}{x y:Operand}{a s:Nat}(h1:ev E x= .int .i64 (a:Int))(h2:ev E y= .int .i64 (s:Int))(hs:s≤64)(h:a*2 ^ s<2 ^ 63):zm (ev E) (.bin .shl x y)=some (.int .i64 ((a*2 ^ s:Nat):Int)):=by
 have hm:Nat.min ((s:Int).toNat) IntKind.i64.bits=s:=by show Nat.min s 64=s; exact Nat.min_eq_left hs
 have e:(a:Int)*2 ^ s=((a*2 ^ s:Nat):Int):=by push_cast; rfl
 simp only[zm,h1,h2,WA,vE,hm,e];rw[wrap_i64 (by have:((a*2 ^ s:Nat):Int)<((2 ^ 63:Nat):Int):=Int.ofNat_lt.2 h; omega)];simp
theorem gI{E:Env}{x y:Operand}{a b:Nat}(h1:ev E x= .int .i64 (a:Int))(h2:ev E y= .int .i64 (b:Int))(h:(a ||| b)<2 ^ 63)(ha:a<2 ^ 63)(hb:b<2 ^ 63):zm (ev E) (.bin .or x y)=some (.int .i64 ((a ||| b:Nat):Int)):=by
 have e:uM .or .i64 (a:Int) (b:Int)=((a ||| b:Nat):Int):=by
  unfold uM;simp only;have e1:(BitVec.ofInt IntKind.i64.bits (a:Int) ||| BitVec.ofInt IntKind.i64.bits (b:Int)).toNat=a ||| b:=by
   show(BitVec.ofInt 64 (a:Int) ||| BitVec.ofInt 64 (b:Int)).toNat=a ||| b;rw[BitVec.toNat_or,BitVec.toNat_ofInt,BitVec.toNat_ofInt];congr 1
   ·omega
   ·omega
  rw[e1,wrap_i64 (by omega)]
 simp[zm,h1,h2,WA,vE,e]
theorem gP{a b i:Nat}(h:a<2 ^ i):a ||| (b*2 ^ i)=a+b*2 ^ i:=by
 rw[Nat.or_comm,Nat.mul_comm b, ←Nat.two_pow_add_eq_or_of_lt h b,Nat.add_comm]
theorem Y3{L:List Nm}{i:Int}{e:Nm}(h:Yi L i=some e):∃j,VQ i L=some j∧L[j]?=some e∧e.id=i:=by
 unfold Yi at h;cases hx:VQ i L with
 | none=>rw[hx] at h; cases h
 | some j=>
  obtain⟨e',h1,h2⟩:=Ue hx;rw[hx] at h;simp only[Option.bind_some,h1] at h;obtain rfl:=Option.some.inj h;exact⟨j,rfl,h1,h2⟩
theorem Jl{L:List Nm}{i:Int}(h:Yi L i=none):VQ i L=none:=by
 unfold Yi at h;cases hx:VQ i L with
 | none=>rfl
 | some j=>
  obtain⟨e',h1,h2⟩:=Ue hx;rw[hx] at h;simp only[Option.bind_some,h1] at h;cases h
theorem kK(L:List Nm)(i:Int):((WO L i).map Vv.vv).getD (.bool false)= .bool (Yi L i).isSome:=by
 cases hb:Yi L i with
 | none=>unfold WO; rw[Jl hb]; rfl
 | some e=>obtain⟨j,h1,_,_⟩:=Y3 hb; unfold WO; rw[h1]; rfl
theorem KR{L:List Nm}{i:Int}{e:Nm}(h:Yi L i=some e):e∈L∧e.id=i:=by
 obtain⟨j,_,h2,h3⟩:=Y3 h;exact⟨List.mem_of_getElem? h2,h3⟩
/-- the first eight bytes of a name's block, the others -/
theorem bW{D:List (Option Bt)}{i:Int}{u:Nat}{n:Bs}(h:Zk D i=some (Vl u++n)):ZR D i 0 8=0∧xg D i 0 8=Vl u:=by
 have hl:(Vl u++n).length=8+n.length:=by rw[List.length_append,ZF]
 have hp:ZR D i 0 8=0:=by unfold ZR; rw[h]; exact if_neg (by omega)
 refine⟨hp,?_⟩;unfold xg;rw[if_pos hp,h];show((Vl u++n).drop 0).take 8=Vl u;rw[List.drop_zero, ←ZF u,List.take_left]
theorem bV{D:List (Option Bt)}{i:Int}{u:Nat}{n:Bs}(h:Zk D i=some (Vl u++n)):ZR D i 8 (n.length:Int)=0∧xg D i 8 (n.length:Int)=n:=by
 have hl:(Vl u++n).length=8+n.length:=by rw[List.length_append,ZF]
 have hp:ZR D i 8 (n.length:Int)=0:=by unfold ZR; rw[h]; exact if_neg (by omega)
 refine⟨hp,?_⟩;unfold xg;rw[if_pos hp,h];show((Vl u++n).drop 8).take (n.length:Int).toNat=n;have:(Vl u++n).drop 8=n:=by
  have:=List.drop_left (l₁:=Vl u) (l₂:=n);rw[ZF] at this; exact this
 rw[this,Int.toNat_natCast,List.take_length]
theorem eH{tb ab N:Nat}{D:List (Option Bt)}{H:List Chunk}{L:List Nm}{T:List Chunk}{B:List (Int × Bs)}(hT:Tb tb ab L T)(hA:Ar ab N D H)(hI:WZ D L B)(i:Int):zP Tryz.prog 103 #[.pointer (some ⟨tb,0,none⟩),.int .i64 i] [T,H]
 (fun r S=>r= .int .i64 (((Yi L i).map (·.u)).getD 0:Nat)∧S=[T,H]):=by
 obtain⟨ib,lb,HI,HG,hMI,hMG,rfl⟩:=hT;refine zP.forget (zP.perm (S:=[Wm tb ab ib lb,HI,HG,H]) (by simp) (zl Tryz.GV (Nat.le_of_ble_eq_true rfl) ?_));unfold Tryz.Dt;have hback:∀{S':zw},zD S' [Wm tb ab ib lb,HI,HG,H]→zD S' [Wm tb ab ib lb++HI++HG,H]:=fun h=>h.trans ⟨[],by simp⟩
 refine ze (z8 (yp pC (zf (za (ze (ze (z8 (yp (pP rfl) ?_))))))));refine zh (zk (K3 (tb:=tb) (ab:=ab) (ib:=ib) (lb:=lb)) rfl rfl fun r S' h=>?_);obtain⟨rfl,rfl⟩:=h;refine yp (pB rfl) (zY rfl (Z7 (pP rfl) (zY rfl (Z7 (zM rfl) (zY rfl (Z7 (zn rfl) (zY rfl ?_)))))));refine(zB rfl rfl ?_);refine zY rfl (Z7 (pI rfl) (zY rfl (VB hMG (by simp) i kY kW XA rfl rfl (kK L i) ?_)));cases hb:Yi L i with
 | none=>
  refine zY rfl (Z7 (Zd rfl) (yp (zQ rfl rfl) (zf (za (zF rfl (ze (z8 (yp pC (zf (za (zH (zX ?_))))))))))));exact zG (rI rfl) ⟨_,hback .of,rfl,rfl⟩
 | some e=>
  obtain⟨hem,rfl⟩:=KR hb;have hblk:=hI.blk e hem;have hu:=hI.us e hem;obtain⟨hp8,hr8⟩:=bW hblk;refine zY rfl (Z7 (Zd rfl) (yp (zQ rfl rfl) (zf (za (zx rfl (zq (za (ze (z8 (yp (pP rfl) (yp (zM rfl) (yp (zn rfl) ?_))))))))))));refine zh (zB rfl rfl ?_);refine yp (pI rfl) ?_;refine zh (zk (qX hA e.id 0 8) rfl rfl fun r S' h=>?_);obtain⟨v,Ho,rfl,hLo,rfl⟩:=h;rw[hp8];rw[hr8] at hLo;obtain⟨va,vc,rfl⟩:=hLo.isSlice;have hl8:=ZF e.u;rw[hl8] at hLo;rw[hl8];refine yp (pU rfl) (yp (pExt rfl rfl) (yp (pExt rfl rfl) (yp (pS rfl) (yp (pI rfl) (zf (za (ze (z8 (yp pC (zf (za (ze (ze (z8 (yp (pS rfl) (yp (ZM rfl) (yp pC (zf (za (zy ?_))))))))))))))))))));refine Zb (σ:=Nat) (fun k E S=>Has E [(7,.int .i64 ((e.u%2 ^ (8*k):Nat):Int)),(30,.slice va 8 vc),(31,.int .i64 8),(32,.int .i64 (k:Int))]∧k≤8∧zD S [Ho,Wm tb ab ib lb,HI,HG,H]) (fun k=>8-k) 0 ⟨⟨by rw[Nat.mul_zero,Nat.pow_zero,Nat.mod_one]; rfl,rfl,rfl,rfl,trivial⟩,Nat.zero_le _,.of⟩ fun k E S ⟨hE,hk,hJ⟩=>?_
  obtain⟨E0,e0⟩:=zu hE; subst e0; clear hE;refine zo hJ (ze (z8 (yp (ZP rfl rfl) (zf (za (ze ?_))))));refine zR rfl (fun h=>?_) (fun h=>?_)
  ·have hlt:k<8:=by omega
   have hg:=QU e.u k hlt;have hkl:k<(Vl e.u).length:=by omega
   obtain⟨b,sp,fz,hz,hae,_,hce,rfl⟩:=hLo.at' (by intro h; rw[h] at hl8; simp at hl8);subst hae;have hld:((cells (Vl e.u++sp)).toArray.toList)[0+k*1+0]?=some (.int .u8 ((UInt8.ofNat (e.u/2 ^ (8*k))).toNat:Int)):=(wJ (kk:=1) (j:=0) hkl rfl (by omega)).trans (by rw[List.getElem?_eq_getElem hkl] at hg; rw[Option.some.inj hg]; rfl);have hby:(UInt8.ofNat (e.u/2 ^ (8*k))).toNat=e.u/2 ^ (8*k)%256:=by simp
   have hmod:e.u%2 ^ (8*(k+1))=e.u%2 ^ (8*k)+e.u/2 ^ (8*k)%256*2 ^ (8*k):=by
    have e1:2 ^ (8*(k+1))=2 ^ (8*k)*256:=by rw[show 8*(k+1)=8*k+8 from by omega,Nat.pow_add]
    rw[e1,Nat.mod_mul,Nat.mul_comm (e.u/2 ^ (8*k)%256)]
   have hsm:e.u%2 ^ (8*(k+1))<2 ^ 60:=Nat.lt_of_le_of_lt (Nat.mod_le _ _) hu;have hlt2:e.u%2 ^ (8*k)<2 ^ (8*k):=Nat.mod_lt _ (Nat.pow_pos (by decide));have hor:=gP (b:=e.u/2 ^ (8*k)%256) hlt2;rw[←hmod] at hor;have hpr:e.u/2 ^ (8*k)%256*2 ^ (8*k)≤e.u%2 ^ (8*(k+1)):=by rw[hmod]; exact Nat.le_add_left _ _
   have hpl:e.u%2 ^ (8*k)≤e.u%2 ^ (8*(k+1)):=by rw[hmod]; exact Nat.le_add_right _ _
   refine zq (za (ze (zy (ze (z8 (yp (pI rfl) (yp (zV rfl rfl (by omega)) ?_)))))));refine zh (zB (v:= .int .u8 ((UInt8.ofNat (e.u/2 ^ (8*k))).toNat:Int)) rfl hld ?_);refine yp (pI rfl) (yp (pI rfl) (zf (za (z8 (yp (pI rfl) (yp (pI rfl) (yp (jO rfl) ?_)))))));rw[hby];refine yp (pI rfl) (yp (xw (j:=8) (k:=k) rfl rfl (by omega)) (yp (rQ rfl rfl (by omega) (by omega)) (yp (gI rfl rfl (by rw[hor]; omega) (by omega) (by omega)) ?_)));rw[hor];refine yp (pI rfl) (zf (zT (za (z8 (yp (Zj rfl rfl (by omega)) (yp (pI rfl) (zf (za ?_))))))));exact⟨k+1,⟨⟨rfl,rfl,rfl,rfl,trivial⟩,by omega,.of⟩,by omega⟩
  ·have hk8:k=8:=by omega
   subst hk8;have hmodu:e.u%2 ^ (8*8)=e.u:=Nat.mod_eq_of_lt (by omega);rw[hmodu];refine Z0 (zI (zI (Z5 (za (ze (z8 (yp (pI rfl) (yp (pI rfl) (zf (za (zH ?_)))))))))));exact zG (rI rfl) ⟨_,hback .of,rfl,rfl⟩
theorem JL{tb ab N:Nat}{D:List (Option Bt)}{H:List Chunk}{L:List Nm}{T:List Chunk}{B:List (Int × Bs)}(hT:Tb tb ab L T)(hA:Ar ab N D H)(hI:WZ D L B)(i:Int):zP Tryz.prog 109 #[.pointer (some ⟨tb,0,none⟩),.int .i64 i] [T,H]
 (fun r S=>r= .tuple #[sv (((Yi L i).map (·.n)).getD []),.bool (Yi L i).isSome]∧S=[T,H]):=by
 obtain⟨ib,lb,HI,HG,hMI,hMG,rfl⟩:=hT;refine zP.forget (zP.perm (S:=[Wm tb ab ib lb,HI,HG,H]) (by simp) (zl Tryz.GL (Nat.le_of_ble_eq_true rfl) ?_));unfold Tryz.Dm;have hback:∀{S':zw},zD S' [Wm tb ab ib lb,HI,HG,H]→zD S' [Wm tb ab ib lb++HI++HG,H]:=fun h=>h.trans ⟨[],by simp⟩
 refine ze (z8 (yp pC (yp pC (zf (za (ze (ze (z8 (yp (pP rfl) ?_)))))))));refine zh (zk (K3 (tb:=tb) (ab:=ab) (ib:=ib) (lb:=lb)) rfl rfl fun r S' h=>?_);obtain⟨rfl,rfl⟩:=h;refine yp (pB rfl) (zY rfl (Z7 (pP rfl) (zY rfl (Z7 (zM rfl) (zY rfl (Z7 (zn rfl) (zY rfl ?_)))))));refine(zB rfl rfl ?_);refine zY rfl (Z7 (pI rfl) (zY rfl (VB hMG (by simp) i kY kW XA rfl rfl (kK L i) ?_)));have rTB:∀{E:Env} {S:zw} {t u:Tmp} {s:ByteArray} {b:Bool},E t= .string s→E u= .bool b→Xu Tryz.prog #[.tmp t,.tmp u] E S (.tuple #[.string s,.bool b]):=fun h1 h2=>res2 h1 h2
 cases hb:Yi L i with
 | none=>
  refine zY rfl (Z7 (Zd rfl) (yp (zQ rfl rfl) (zf (za (zF rfl (ze (z8 (yp pC (yp pC (zf (za (zH (zX ?_)))))))))))));exact zG (rTB rfl rfl) ⟨_,hback .of,rfl,rfl⟩
 | some e=>
  obtain⟨hem,rfl⟩:=KR hb;have hblk:=hI.blk e hem;have hnl:=(hA.ok).each;obtain⟨hpn,hrn⟩:=bV hblk;have hsz:y7 D e.id=(((8+e.n.length:Nat):Int),true):=by
   unfold y7; rw[hblk]; simp only; rw[List.length_append,ZF]
  obtain⟨q,_,hq⟩:=VY hblk;have h4:=hnl q _ hq;rw[List.length_append,ZF] at h4;refine zY rfl (Z7 (Zd rfl) (yp (zQ rfl rfl) (zf (za (zx rfl (zq (za (ze (z8 (yp (pP rfl) (yp (zM rfl) (yp (zn rfl) ?_))))))))))));refine zh (zB rfl rfl ?_);refine yp (pI rfl) ?_;refine zh (zk (lQ hA e.id) rfl rfl fun r S' h=>?_);obtain⟨rfl,rfl⟩:=h;rw[hsz];refine yp (pU rfl) (yp (pExt rfl rfl) (yp (pExt rfl rfl) (yp (pI rfl) (yp (pB rfl) (zf (za (ze (z8 (yp (pP rfl) (yp (zM rfl) (yp (zn rfl) ?_)))))))))));refine zh (zB rfl rfl ?_);refine yp (pI rfl) (yp (pI rfl) (yp (ZG rfl rfl (by omega)) ?_));rw[show((8+e.n.length:Nat):Int)-8=(e.n.length:Int) from by omega];refine zh (zk (qX hA e.id 8 (e.n.length:Int)) rfl rfl fun r S' h=>?_);obtain⟨v,Ho,rfl,hLo,rfl⟩:=h;rw[hpn];rw[hrn] at hLo;obtain⟨va,vc,rfl⟩:=hLo.isSlice;refine yp (pU rfl) (yp (pExt rfl rfl) (yp (pExt rfl rfl) (yp (pS rfl) (yp (pI rfl) (zf (za (ze (z8 (yp (pS rfl) ?_)))))))));refine zh (aR rfl (hLo.src (by simp)) ?_);refine yp (pI rfl) (yp (WT rfl rfl) (yp (pT rfl) (yp (pB rfl) (zf (za (zH ?_))))));exact zG (rTB rfl rfl) ⟨_,hback .of,rfl,rfl⟩
theorem jL{E:Env}{x y:Operand}{a s:Nat}(h1:ev E x= .int .i64 (a:Int))(h2:ev E y= .int .i64 (s:Int))(hs:s≤64):zm (ev E) (.bin .shr x y)=some (.int .i64 ((a/2 ^ s:Nat):Int)):=by
 rw[gF h1 h2 (by omega)];have hm:Nat.min ((s:Int).toNat) IntKind.i64.bits=s:=by show Nat.min s 64=s; exact Nat.min_eq_left hs
 rw[hm,Int.fdiv_eq_ediv_of_nonneg _ (by exact Int.pow_nonneg (by decide))];congr 2
theorem Ei{E:Env}{x:Operand}{a:Nat}(h1:ev E x= .int .i64 (a:Int)):zm (ev E) (.conv .u8 x)=some (.int .u8 ((UInt8.ofNat a).toNat:Int)):=by
 rw[AF h1,y5];have:(UInt8.ofNat a).toNat=a%256:=by simp
 rw[this]; congr 2
def Y6(n k:Nat):Bs:=(Vl n).take k++List.replicate (8-k) 0
theorem Jq{n k:Nat}(h:k≤8):(Y6 n k).length=8:=by simp[Y6,ZF]; omega
theorem lM(n:Nat):Y6 n 8=Vl n:=by
 unfold Y6;rw[List.take_of_length_le (by rw[ZF]; exact Nat.le_refl _)]; simp
theorem lK{n k:Nat}(h:k<8):(Y6 n k).set k (UInt8.ofNat (n/2 ^ (8*k)))=Y6 n (k+1):=by
 refine List.ext_getElem? fun j=>?_
 have hg:=QU n k h;have hl:=ZF n;have hget:∀k j,k≤8→(Y6 n k)[j]?=if j<k then(Vl n)[j]? else if j<8 then some 0 else none:=fun k j hk=>by
  unfold Y6;rw[List.getElem?_append,List.length_take,hl,Nat.min_eq_left hk,List.getElem?_take,List.getElem?_replicate];by_cases h1:j<k
  ·rw[if_pos h1,if_pos h1,if_pos h1]
  ·rw[if_neg h1,if_neg h1];by_cases h2:j<8
   ·rw[if_pos h2,if_pos (by omega)]
   ·rw[if_neg h2,if_neg (by omega)]
 rw[List.getElem?_set,hget _ _ (by omega),hget _ _ (by omega),Jq (by omega)];by_cases hj:k=j
 ·subst hj;rw[if_pos rfl,if_pos h,if_pos (by omega),hg]
 ·rw[if_neg hj];by_cases h1:j<k
  ·rw[if_pos h1,if_pos (by omega)]
  ·rw[if_neg h1,if_neg (show ¬j<k+1 from by omega)]
theorem qW{D:List (Option Bt)}{i:Int}{u v:Nat}{n:Bs}(h:Zk D i=some (Vl u++n)):ZR D i 0 ((Vl v).length:Nat)=0∧uj D i 0 (Vl v)=D.set (i-1).toNat (some (Vl v++n)):=by
 have hl:(Vl u++n).length=8+n.length:=by rw[List.length_append,ZF]
 have hl8:=ZF v;have hp:ZR D i 0 ((Vl v).length:Nat)=0:=by unfold ZR; rw[h]; exact if_neg (by omega)
 refine⟨hp,?_⟩;unfold uj;rw[if_pos hp,h];refine congrArg (fun z=>D.set (i-1).toNat (some z)) ?_;show spl (Vl u++n) 0 (Vl v)=_;unfold spl;have:(Vl u++n).drop 8=n:=by
  have:=List.drop_left (l₁:=Vl u) (l₂:=n);rw[ZF] at this; exact this
 rw[List.take_zero,hl8,Nat.zero_add,this]; rfl
set_option maxRecDepth 10000 in
theorem rE{tb ab ib lb N:Nat}{D:List (Option Bt)}{H:List Chunk}(hA:Ar ab N D H){i:Int}{u:Nat}{n:Bs}(hb:Zk D i=some (Vl u++n))(v:Nat)(_hv:v<2 ^ 60):zP Tryz.prog 102 #[.pointer (some ⟨tb,0,none⟩),.int .i64 i,.int .i64 (v:Int)] [Wm tb ab ib lb,H]
 (fun r S=>r= .tuple #[]∧∃H',Ar ab N (D.set (i-1).toNat (some (Vl v++n))) H'∧S=[Wm tb ab ib lb,H']):=by
 refine zP.forget (zl Tryz.GX (Nat.le_of_ble_eq_true rfl) ?_);unfold Tryz.x102;have hz8:([.int .u8 0,.int .u8 0,.int .u8 0,.int .u8 0,.int .u8 0,.int .u8 0,.int .u8 0,.int .u8 0]:List Value)=cells (Y6 v 0):=rfl;rw[hz8];refine ze (z8 ?_);refine zh (Z6 fun p6=>?_);refine zf (za (ze (ze (z8 (yp pC (zf (za (zy ?_))))))));refine Zb (σ:=Nat) (fun k E S=>Has E [(0,.pointer (some ⟨tb,0,none⟩)),(1,.int .i64 i),(2,.int .i64 (v:Int)),(6,.pointer (some ⟨p6,0,none⟩)),(8,.int .i64 (k:Int))]∧k≤8∧zD S [[(p6,.cells (cells (Y6 v k)).toArray 203)],Wm tb ab ib lb,H]) (fun k=>8-k) 0 ⟨⟨rfl,rfl,rfl,rfl,rfl,trivial⟩,Nat.zero_le _,.of⟩ fun k E S ⟨hE,hk,hJ⟩=>?_
 have hal:=Jq (n:=v) hk;obtain⟨E0,e0⟩:=zu hE; subst e0; clear hE;refine zo hJ (ze (z8 (yp (ZP rfl rfl) (zf (za (ze ?_))))));refine zR rfl (fun h=>?_) (fun h=>?_)
 ·have hlt:k<8:=by omega
  refine zq (za (ze (zy (ze (z8 (yp (pI rfl) (yp (pI rfl) (zf (za (z8 (yp (pI rfl) (yp (pI rfl) (yp (pI rfl) (yp (xw (j:=8) (k:=k) rfl rfl (by omega)) (yp (jL rfl rfl (by omega)) (yp (Ei rfl) (yp (ND (k:=(k:Int)) rfl rfl (by omega)) ?_)))))))))))))))));rw[Int.toNat_natCast];refine zh (Zl (M:=Y6 v k) (i:=k) (y:=UInt8.ofNat (v/2 ^ (8*k))) rfl (by omega) rfl rfl (.inl rfl) ?_);rw[lK hlt];refine zf (zT (za (z8 (yp (Zj rfl rfl (by omega)) (yp (pI rfl) (zf (za ?_)))))));exact⟨k+1,⟨⟨rfl,rfl,rfl,rfl,rfl,trivial⟩,by omega,.of⟩,by omega⟩
 ·have hk8:k=8:=by omega
  subst hk8;rw[lM];obtain⟨hp,hw⟩:=qW (v:=v) hb;refine Z0 (zI (zI (Z5 (za (Z4 (zi (pP rfl) (zi (zM rfl) (zi (zn rfl) (Z9 rfl rfl (zi (pI rfl) (zi (v:= .slice (some ⟨p6,0,none⟩) 8 8) rfl ?_)))))))))));refine zN (zk (KU (S0:=[[(p6,.cells (cells (Vl v)).toArray 203)]]) hA i 0 (Y:=Vl v) (.La List.mem_cons_self (ZF v).symm) (by rw[ZF]; decide)) rfl rfl fun r S' h=>?_) zO;obtain⟨rfl,H2,hA2,rfl⟩:=h;rw[hw] at hA2;refine zJ ?_;exact ZW w9 ⟨_,.of,rfl,H2,hA2,rfl⟩
/-- which blocks there are, and how big -/
def dz(D:List (Option Bt)):List (Option Nat):=D.map (Option.map List.length)
theorem XF{D:List (Option Bt)}{h:Int}{b Y:Bt}(hg:Zk D h=some b)(hl:Y.length=b.length):dz (D.set (h-1).toNat (some Y))=dz D:=by
 obtain⟨j,rfl,hj⟩:=VY hg;rw[show((j:Int)+1-1).toNat=j from by omega];unfold dz;refine List.ext_getElem? fun i=>?_
 rw[List.getElem?_map,List.getElem?_map,List.getElem?_set];split
 ·next h=>subst h; rw[if_pos (List.getElem?_eq_some_iff.1 hj).1,hj]; simp[hl]
 ·rfl
/-! ### small letters once and again -/
theorem nW(b:UInt8):low (low b)=low b:=by
 unfold low;by_cases h:65≤b.toNat∧b.toNat≤90
 ·rw[if_pos h];have:(UInt8.ofNat (b.toNat+32)).toNat=(b.toNat+32)%256:=by simp
  rw[if_neg (by rw[this]; omega)]
 ·rw[if_neg h,if_neg h]
theorem QW:∀(f:Nat) (Y:Bs) (a:Nat),Xx f (Y.map low) a=Xx f Y a
 | 0,_,_=>rfl
 | f+1,Y,a=>by
  unfold Xx;rw[List.getElem?_map];cases hy:Y[a]? with
  | none=>rfl
  | some b=>
   simp only[Option.map_some];have hlow:(low b).toNat=b.toNat∨(63<(low b).toNat∧63<b.toNat):=by
    unfold low;by_cases h:65≤b.toNat∧b.toNat≤90
    ·rw[if_pos h];have:(UInt8.ofNat (b.toNat+32)).toNat=(b.toNat+32)%256:=by simp
     right; omega
    ·rw[if_neg h]; exact .inl rfl
   by_cases h1:255≤a
   ·rw[if_pos h1,if_pos h1]
   ·rw[if_neg h1,if_neg h1];rcases hlow with h | ⟨h2,h3⟩
    ·rw[h,QW f Y]
    ·rw[if_neg (show ¬(low b).toNat=0 from by omega),if_pos h2,if_neg (show ¬b.toNat=0 from by omega),if_pos h3]
theorem Ql(Y:Bs):WQ (Y.map low)=WQ Y:=by
 unfold WQ lead;rw[QW,List.length_map]
theorem VK(Y:Bs):WQ (zA Y)=WQ Y:=by
 unfold zA;split
 ·exact Ql Y
 ·rfl
theorem Xb(Y:Bs):zA (zA Y)=zA Y:=by
 unfold zA;by_cases h:WQ Y=true
 ·rw[if_pos h,if_pos (by rw[Ql]; exact h),List.map_map];exact List.map_congr_left fun b _=>nW b
 ·rw[if_neg h,if_neg h]
/-! ### Add -/
def WJ(N:Nat)(D:List (Option Bt))(L:List Nm)(Y:Bs):Int:=if WQ Y=false then 2 else if(Vp L (zA Y)).isSome then 0 else ZC N D (8+(Y.length:Int))
def ZI(D:List (Option Bt))(L:List Nm)(n:Bs):List Nm:=match VF n L with
 | some j=>(match L[j]? with | some e=>reuse L j e (e.u+1) | none=>L)
 | none=>L++[⟨((hnd D:Nat):Int),n,1⟩]
def U6(D:List (Option Bt))(L:List Nm)(n:Bs):Int:=((Vp L n).map (·.id)).getD ((hnd D:Nat):Int)
def WK(D:List (Option Bt))(L:List Nm)(n:Bs):List (Option Bt):=if(Vp L n).isSome then D else ZE D (8+n.length)
theorem vN{L:List Nm}{n:Bs}{e:Nm}(h:Vp L n=some e):∃j,VF n L=some j∧L[j]?=some e∧e.n=n:=by
 unfold Vp at h;cases hx:VF n L with
 | none=>rw[hx] at h; cases h
 | some j=>
  obtain⟨e',h1,h2⟩:=xD hx;rw[hx] at h;simp only[Option.bind_some,h1] at h;obtain rfl:=Option.some.inj h;exact⟨j,rfl,h1,h2⟩
theorem WI{L:List Nm}{n:Bs}(h:Vp L n=none):VF n L=none:=by
 unfold Vp at h;cases hx:VF n L with
 | none=>rfl
 | some j=>
  obtain⟨e',h1,h2⟩:=xD hx;rw[hx] at h;simp only[Option.bind_some,h1] at h;cases h
/-- a name's uses change, in the arena and in the list -/
theorem WZ.reuse{D:List (Option Bt)}{L:List Nm}{B:List (Int × Bs)}(h:WZ D L B){j:Nat}{e:Nm}{v:Nat}(he:L[j]?=some e)(hv:v<2 ^ 60):WZ (D.set (e.id-1).toNat (some (Vl v++e.n))) (reuse L j e v) B:=by
 have hem:=List.mem_of_getElem? he;have hb:=h.blk e hem;refine⟨h.dis.reuse he,fun x hx=>?_,fun x hx=>⟨?_,fun y hy=>?_⟩,fun i b hib=>?_,fun x hx=>?_,fun x hx=>?_⟩
 ·rw[WE hb];obtain⟨i,hi⟩:=List.mem_iff_getElem?.1 hx;unfold Proofs.YtekgciopamkjlaaGreat.reuse at hi;rw[List.getElem?_set] at hi;split at hi
  ·next hij=>
   subst hij;rw[if_pos (List.getElem?_eq_some_iff.1 he).1] at hi;obtain rfl:=(Option.some.inj hi).symm;rw[if_pos rfl]
  ·next hij=>
   have hne:x.id≠e.id:=fun h2=>by
    have h3:(L.map (·.id))[i]?=some e.id:=by rw[List.getElem?_map,hi,Option.map_some,h2]
    have h4:(L.map (·.id))[j]?=some e.id:=by rw[List.getElem?_map,he,Option.map_some]
    exact hij ((List.getElem?_inj (List.getElem?_eq_some_iff.1 h3).1 h.dis.ids).1 (h3.trans h4.symm)).symm
   rw[if_neg hne];exact h.blk x (List.mem_of_getElem? hi)
 ·rw[WE hb,if_neg fun h2=>(h.oth x hx).2 e hem h2.symm]; exact(h.oth x hx).1
 ·obtain⟨z,hz,h2,_⟩:=VT he hy;rw[←h2]; exact(h.oth x hx).2 z hz
 ·rw[WE hb] at hib;have hin:∀y∈L,y.id=i→∃x∈Proofs.YtekgciopamkjlaaGreat.reuse L j e v,x.id=i:=fun y hy hyi=>by
   obtain⟨x,hx,h2,_⟩:=WR (u:=v) he hy;exact⟨x,hx,h2.trans hyi⟩
  by_cases h2:i=e.id
  ·exact .inl (hin e hem h2.symm)
  ·rw[if_neg h2] at hib;rcases h.all i b hib with⟨y,hy,hyi⟩ | hx
   ·exact .inl (hin y hy hyi)
   ·exact .inr hx
 ·unfold Proofs.YtekgciopamkjlaaGreat.reuse at hx;rcases List.mem_or_eq_of_mem_set hx with hx | rfl
  ·exact h.us x hx
  ·exact hv
 ·obtain⟨y,hy,_,h2⟩:=VT he hx;rw[←h2]; exact h.fold y hy
/-- a new name, not yet used -/
theorem WZ.new{D:List (Option Bt)}{L:List Nm}{B:List (Int × Bs)}(h:WZ D L B){n:Bs}(hn:VF n L=none)(hv:WQ n=true)(hf:zA n=n):
 WZ ((ZE D (8+n.length)).set (hnd D-1) (some (Vl 0++n))) (L++[⟨((hnd D:Nat):Int),n,0⟩]) B:=by
 have hno:Zk D ((hnd D:Nat):Int)=none:=by
  have:=vJ D;have hp:=wR D;rw[show((hnd D:Nat):Int)=((hnd D-1:Nat):Int)+1 from by omega,ZB]; exact this
 have hid:∀x∈L,x.id≠((hnd D:Nat):Int):=fun x hx e=>by
  have:=h.blk x hx;rw[e,hno] at this; cases this
 have hg:=W9 D (8+n.length);have hidx:(((hnd D:Nat):Int)-1).toNat=hnd D-1:=by have:=wR D; omega
 have hset:=fun k=>WE (Y:=Vl 0++n) hg k
 rw[hidx] at hset;refine⟨h.dis.add hid (Va hn),fun x hx=>?_,fun x hx=>?_,fun i b hib=>?_,fun x hx=>?_,fun x hx=>?_⟩
 ·rw[hset];rcases List.mem_append.1 hx with hx | hx
  ·rw[if_neg (hid x hx),Zx (hid x hx)]; exact h.blk x hx
  ·rw[List.mem_singleton.1 hx,if_pos rfl]
 ·obtain⟨h1,h2⟩:=h.oth x hx;have hne:x.1≠((hnd D:Nat):Int):=fun e=>by rw[e,hno] at h1; cases h1
  refine⟨?_,fun e he=>?_⟩
  ·rw[hset,if_neg hne,Zx hne]; exact h1
  ·rcases List.mem_append.1 he with he | he
   ·exact h2 e he
   ·rw[List.mem_singleton.1 he]; exact fun h3=>hne h3.symm
 ·rw[hset] at hib;by_cases h2:i=((hnd D:Nat):Int)
  ·exact .inl ⟨⟨((hnd D:Nat):Int),n,0⟩,by simp,h2.symm⟩
  ·rw[if_neg h2,Zx h2] at hib;rcases h.all i b hib with⟨y,hy,hyi⟩ | hx
   ·exact .inl ⟨y,List.mem_append.2 (.inl hy),hyi⟩
   ·exact .inr hx
 ·rcases List.mem_append.1 hx with hx | hx
  ·exact h.us x hx
  ·rw[List.mem_singleton.1 hx]; exact Nat.pow_pos (by decide)
 ·rcases List.mem_append.1 hx with hx | hx
  ·exact h.fold x hx
  ·rw[List.mem_singleton.1 hx]; exact⟨hv,hf⟩
theorem Tb.reuse{tb ab:Nat}{L:List Nm}{T:List Chunk}(h:Tb tb ab L T)(hd:xS L){j:Nat}{e:Nm}{v:Nat}(he:L[j]?=some e):Tb tb ab (reuse L j e v) T:=by
 obtain⟨ib,lb,HI,HG,h1,h2,rfl⟩:=h;refine⟨ib,lb,HI,HG,?_,?_,rfl⟩
 ·rw[qy hd he]; unfold Proofs.YtekgciopamkjlaaGreat.reuse; rw[List.length_set]; exact h1
 ·rw[Ju he]; unfold Proofs.YtekgciopamkjlaaGreat.reuse; rw[List.length_set]; exact h2
theorem bO{Y:Bs}(h:WQ Y=true):WQ (zA Y)=true∧zA (zA Y)=zA Y:=⟨by rw[VK]; exact h,Xb Y⟩
set_option maxRecDepth 10000 in
set_option maxHeartbeats 1000000 in
theorem Dz{tb ab N:Nat}{D:List (Option Bt)}{H:List Chunk}{L:List Nm}{T:List Chunk}{B:List (Int × Bs)}(hT:Tb tb ab L T)(hA:Ar ab N D H)(hI:WZ D L B)(hu:∀e∈L,e.u+1<2 ^ 60)(Y:Bs)(hY:Y.length<2 ^ 62):
 zP Tryz.prog 61 #[.pointer (some ⟨tb,0,none⟩),sv Y] [T,H] (fun r S=>
  (WJ N D L Y≠0∧r= .tuple #[.int .i64 0,.int .i64 (WJ N D L Y)]∧S=[T,H])∨
  (WJ N D L Y=0∧∃(T' H':List Chunk) (D':List (Option Bt)),r= .tuple #[.int .i64 (U6 D L (zA Y)),.int .i64 0]∧Tb tb ab (ZI D L (zA Y)) T'∧Ar ab N D' H'∧WZ D' (ZI D L (zA Y)) B∧dz D'=dz (WK D L (zA Y))∧S=[T',H'])):=by
 obtain⟨ib,lb,HI,HG,hMI,hMG,rfl⟩:=hT;refine zP.forget (zP.perm (S:=[Wm tb ab ib lb,HI,HG,H]) (by simp) (zl Tryz.LW (Nat.le_of_ble_eq_true rfl) ?_));unfold Tryz.MX;have hback:∀{S':zw},zD S' [Wm tb ab ib lb,HI,HG,H]→zD S' [Wm tb ab ib lb++HI++HG,H]:=fun h=>h.trans ⟨[],by simp⟩
 refine ze (z8 (yp pC (yp pC (zf (za (ze (zy (ze (z8 (yp (pT rfl) ?_))))))))));refine zh (zk (uw Y hY) rfl rfl fun r S' h=>?_);obtain⟨rfl,rfl⟩:=h;cases hv:WQ Y with
 | false=>
  have hE:WJ N D L Y=2:=by unfold WJ; rw[if_pos hv]
  refine yp (Zd rfl) (yp (pB rfl) (zf (za (zF rfl (ze (z8 (yp pC (yp pC (zf (za (zH (bret (zX ?_)))))))))))));exact zG (jK rfl rfl) ⟨_,hback .of,.inl ⟨by rw[hE]; decide,by rw[hE],rfl⟩⟩
 | true=>
 obtain⟨hvn,hfn⟩:=bO hv;have hfl:=wM Y;have h255:=Ws hv;refine yp (Zd rfl) (yp (pB rfl) (zf (za (zx rfl (ze (z8 (yp (pP rfl) ?_)))))));refine zh (zk (K3 (tb:=tb) (ab:=ab) (ib:=ib) (lb:=lb)) rfl rfl fun r S' h=>?_);obtain⟨rfl,rfl⟩:=h;refine yp (pB rfl) (zf (za (zx rfl (zq (zT (za (ze (z8 (yp (pT rfl) ?_)))))))));refine zh (zk (Kz Y hY) rfl rfl fun r S' h=>?_);obtain⟨rfl,rfl⟩:=h;have hid:uR L ⟨(zA Y).toArray⟩=(Vp L (zA Y)).map (·.id):=by
  unfold uR Vp;cases VF (zA Y) L<;>rfl
 generalize hn:zA Y=n at*
 refine yp (pT rfl) (zf (za (ze (z8 (yp (pP rfl) (yp (zM rfl) (yp (zn rfl) ?_)))))));refine zh (zB rfl rfl ?_);refine yp (pT rfl) ?_;refine zh (dK (v:= .int .i64 (((Vp L n).map (·.id)).getD 0)) (bl:=(Vp L n).isSome) hMI (by simp) (⟨n.toArray⟩:ByteArray) kX xX JG rfl rfl ?_ ?_ ?_)
 ·rw[hid]; cases Vp L n<;>rfl
 ·rw[hid]; cases Vp L n<;>rfl
 refine yp (pU rfl) (yp (pExt rfl rfl) (yp (pExt rfl rfl) (yp (pI rfl) (yp (pB rfl) (zf (za ?_))))));refine Xi (fun E S'=>∃(ib lb:Nat) (L1:List Nm) (HI HG H1:List Chunk) (D1:List (Option Bt)) (j:Nat) (e:Nm),Has E [(0,.pointer (some ⟨tb,0,none⟩)),(6,.int .i64 e.id)]∧Mp ib (uR L1) L1.length HI∧Mp lb (WO L1) L1.length HG∧Ar ab N D1 H1∧WZ D1 L1 B∧L1[j]?=some e∧e.u+1<2 ^ 60∧
  WJ N D L Y=0∧e.id=U6 D L n∧reuse L1 j e (e.u+1)=ZI D L n∧dz D1=dz (WK D L n)∧zD S' [Wm tb ab ib lb,HI,HG,H1]) ?_ ?_
 ·cases hb:Vp L n with
  | some e=>
   obtain⟨j,h1,h2,h3⟩:=vN hb;have hE:WJ N D L Y=0:=by unfold WJ; rw[if_neg (by rw[hv]; decide),hn,hb]; rfl
   refine ze (z8 (yp (pB rfl) (yp (Zd rfl) (zf (za (zx rfl (zq (za ?_))))))));refine⟨ib,lb,L,HI,HG,H,D,j,e,⟨rfl,rfl,trivial⟩,hMI,hMG,hA,hI,h2,hu e (List.mem_of_getElem? h2),hE,?_,?_,?_,.of⟩
   ·unfold U6; rw[hb]; rfl
   ·unfold ZI; rw[h1]; simp only[h2]
   ·unfold WK; rw[hb]; rfl
  | none=>
   have h1:=WI hb;have hEa:WJ N D L Y=ZC N D (8+(n.length:Int)):=by unfold WJ; rw[if_neg (by rw[hv]; decide),hn,hb,if_neg (by decide),hfl]
   refine ze (z8 (yp (pB rfl) (yp (Zd rfl) (zf (za (zF rfl (ze (z8 (yp (pP rfl) (yp (zM rfl) (yp (zn rfl) ?_)))))))))));refine zh (zB rfl rfl ?_);refine yp (pT rfl) (yp (uX rfl) ?_);rw[Qo];refine yp (Vq rfl rfl (by omega)) ?_;refine zh (zk (KW hA ((8+n.length:Nat):Int)) rfl rfl fun r S' h=>?_);rw[show((8+n.length:Nat):Int)=8+(n.length:Int) from by omega] at h;rcases h with⟨he,rfl,rfl⟩ | ⟨he,m,H1,hm,rfl,hA1,rfl⟩
   ·rw[←hEa] at he ⊢;refine yp (pU rfl) (yp (pExt rfl rfl) (yp (pExt rfl rfl) (yp (pI rfl) (yp (pI rfl) (zf (za (ze (ze (z8 (yp (pI rfl) (yp (uO rfl rfl) (zf (za ?_)))))))))))));refine Ve rfl (fun _=>?_) (fun h2=>absurd h2 he);refine ze (z8 (yp (pI rfl) (yp pC (yp (pI rfl) (zf (za (zH (zX (zX ?_)))))))));exact zG (jK rfl rfl) ⟨_,hback .of,.inl ⟨he,rfl,rfl⟩⟩
   obtain rfl:m=8+n.length:=by omega
   have hnew:=hI.new h1 hvn (by rw[←hn]; exact Xb Y);have hno:Zk D ((hnd D:Nat):Int)=none:=by
    have:=vJ D;have hp:=wR D;rw[show((hnd D:Nat):Int)=((hnd D-1:Nat):Int)+1 from by omega,ZB]; exact this
   have hidn:∀x∈L,x.id≠(⟨((hnd D:Nat):Int),n,0⟩:Nm).id:=fun x hx e=>by
    have:=hI.blk x hx;rw[e,hno] at this; cases this
   have hnn:∀x∈L,x.n≠(⟨((hnd D:Nat):Int),n,0⟩:Nm).n:=Va h1;have hf1:=iF hI.dis hidn hnn;have hf2:=cZ (L:=L) (e:=⟨((hnd D:Nat):Int),n,0⟩);have hi0:uR L ⟨n.toArray⟩=none:=by rw[hid,hb]; rfl
   have ha0:WO L ((hnd D:Nat):Int)=none:=by
    cases hx:WO L ((hnd D:Nat):Int) with
    | none=>rfl
    | some b=>obtain⟨_,x,hx1,hx2⟩:=Wy.1 hx; exact absurd hx2 (hidn x hx1)
   refine yp (pU rfl) (yp (pExt rfl rfl) (yp (pExt rfl rfl) (yp (pI rfl) (yp (pI rfl) (zf (za (ze ?_)))))))
   skip
   refine ze (z8 (yp (pI rfl) (yp (uO rfl rfl) (zf (za (zx rfl (zq (za (ze (wU (R:=[Wm tb ab ib lb]) (by simp) (zi (pP rfl) (zi (zM rfl) (zi (zn rfl) (Z9 rfl rfl (zi (pT rfl) (zi (pP rfl) (zi (zM rfl) (zi (zn rfl) (Z9 rfl rfl (zi (pI rfl) (zi (pI rfl) (zi (pI rfl) (zi (pI rfl) ?_)))))))))))))))))))))));refine zN (Yp (z0:=(0:Int)) hMI (⟨n.toArray⟩:ByteArray) kX xX JG rfl rfl fun s1 HI1 hS1=>?_) zO;refine zi (pExt rfl rfl) ?_;refine zN (Xh (v:=((hnd D:Nat):Int)) hS1 rfl rfl rfl fun HI2 hMI2=>?_) zO;refine zN (Yp (z0:=false) hMG ((hnd D:Nat):Int) kY kW XA rfl rfl fun s2 HG1 hS2=>?_) zO;refine zi (pExt rfl rfl) ?_;refine zN (Xh (v:=true) hS2 rfl rfl rfl fun HG2 hMG2=>?_) zO;rw[bG] at hMI2 hMG2;have hc1:Xw (uR L) (⟨n.toArray⟩:ByteArray) L.length=(L++[(⟨((hnd D:Nat):Int),n,0⟩:Nm)]).length:=by unfold Xw; rw[hi0]; simp
   have hc2:Xw (WO L) ((hnd D:Nat):Int) L.length=(L++[(⟨((hnd D:Nat):Int),n,0⟩:Nm)]).length:=by unfold Xw; rw[ha0]; simp
   rw[hc1, ←hf1] at hMI2;rw[hc2, ←hf2] at hMG2;refine zJ (za (z8 (yp (pP rfl) (yp (zM rfl) (yp (zn rfl) ?_)))));refine zh (zB rfl rfl ?_);refine yp (pI rfl) (yp (pT rfl) ?_);refine zh (BR rfl fun v Hs hLs=>?_);have hLs:Zc 5 v n Hs:=hLs
   skip
   have hg:=W9 D (8+n.length);have hp:ZR (ZE D (8+n.length)) ((hnd D:Nat):Int) 8 (n.length:Nat)=0:=by
    unfold ZR; rw[hg]; exact if_neg (by rw[dF]; omega)
   have hw:uj (ZE D (8+n.length)) ((hnd D:Nat):Int) 8 n=(ZE D (8+n.length)).set (hnd D-1) (some (Vl 0++n)):=by
    unfold uj;rw[if_pos hp,hg];have hidx:(((hnd D:Nat):Int)-1).toNat=hnd D-1:=by have:=wR D; omega
    rw[hidx];refine congrArg (fun z=>(ZE D (8+n.length)).set (hnd D-1) (some z)) ?_;show spl (zeros (8+n.length)) 8 n=Vl 0++n;unfold spl zeros;rw[List.take_replicate,List.drop_replicate,Nat.min_eq_left (by omega),Nat.sub_self,List.replicate_zero,List.append_nil];rfl
   refine zh (zk (KU (S0:=[Hs]) hA1 ((hnd D:Nat):Int) 8 (Y:=n) (hLs.src (by simp)) (by show n.length≤9223372036854775807; omega)) rfl rfl fun r S' h=>?_);obtain⟨rfl,H2,hA2,rfl⟩:=h;rw[hw] at hA2;refine zf (za ?_);refine⟨ib,lb,L++[⟨((hnd D:Nat):Int),n,0⟩],HI2,HG2,H2,_,L.length,⟨((hnd D:Nat):Int),n,0⟩,⟨rfl,rfl,trivial⟩,hMI2,hMG2,hA2,hnew,by simp,(by show 0+1<2 ^ 60; decide),by rw[hEa]; exact he,?_,?_,?_,.of⟩
   ·unfold U6; rw[hb]; rfl
   ·unfold ZI reuse; rw[h1]; simp
   ·have hlen:(Vl 0++n).length=(zeros (8+n.length)).length:=by rw[List.length_append,ZF,dF]
    have hidx:(((hnd D:Nat):Int)-1).toNat=hnd D-1:=by have:=wR D; omega
    have:=XF (Y:=Vl 0++n) hg hlen;rw[hidx] at this;rw[this]; unfold WK; rw[hb]; rfl
 clear hback hMI hMG;intro E S' ⟨ib,lb,L1,HI1,HG1,H1,D1,j,e,hE,hMI1,hMG1,hA1,hI1,hj,heu,hE0,hea,hre,hsh,hJ⟩;have hem:=List.mem_of_getElem? hj;have hblk:=hI1.blk e hem;obtain⟨E0,e0⟩:=zu hE; subst e0; clear hE;refine zo hJ (zo (zD.re (S1:=[Wm tb ab ib lb,HI1,HG1,H1]) (S2:=[Wm tb ab ib lb++HI1++HG1,H1]) (by simp)) ?_);have hby:Yi L1 e.id=some e:=by unfold Yi; rw[QS hI1.dis.ids hj]; exact hj
 refine ze (z8 (yp (pP rfl) (yp (pI rfl) (yp (pP rfl) (yp (pI rfl) ?_)))));refine zh (zk (eH (Tb.mk hMI1 hMG1) hA1 hI1 e.id) rfl rfl fun r S' h=>?_);obtain⟨rfl,rfl⟩:=h;rw[hby];refine XV (zD.re (S1:=[Wm tb ab ib lb++HI1++HG1,H1]) (S2:=[Wm tb ab ib lb,HI1,HG1,H1]) (by simp)) ?_;have heu2:e.u<2 ^ 60:=by omega
 show YL _ _ _ _ _ (Zi _ (.int .i64 (e.u:Int)) _) _;refine yp (Zj rfl rfl (by omega)) ?_;refine zh (zk (rE (tb:=tb) (ib:=ib) (lb:=lb) hA1 hblk (e.u+1) heu) rfl rfl fun r S' h=>?_);obtain⟨rfl,H2,hA2,rfl⟩:=h;have hlen:(Vl (e.u+1)++e.n).length=(Vl e.u++e.n).length:=by rw[List.length_append,List.length_append,ZF,ZF]
 have hI2:=hI1.reuse hj heu;have hT2:=Tb.reuse (v:=e.u+1) (Tb.mk (tb:=tb) (ab:=ab) hMI1 hMG1) hI1.dis hj;have hs2:=XF hblk hlen;rw[hre] at hI2 hT2;refine zf (za (ze (z8 (yp (pI rfl) (yp (pI rfl) (yp pC (zf (za (zH ?_)))))))));exact zG (jK rfl rfl) ⟨[Wm tb ab ib lb++HI1++HG1,H2],zD.re (S1:=[Wm tb ab ib lb,HI1,HG1,H2]) (by simp),.inr ⟨hE0,_,H2,_,by rw[hea],hT2,hA2,hI2,hs2.trans hsh,rfl⟩⟩
def Pos(L:List Nm):Prop:=∀e∈L,1≤e.u
def aB(L:List Nm)(i:Int):Int:=if(Yi L i).isSome then 0 else 5
def vK(L:List Nm)(i:Int):List Nm:=match VQ i L with
 | some j=>(match L[j]? with | some e=>if e.u=1 then L.eraseIdx j else reuse L j e (e.u-1) | none=>L)
 | none=>L
def Uq(D:List (Option Bt))(L:List Nm)(i:Int):List (Option Bt):=match Yi L i with
 | some e=>if e.u=1 then WL D i else D
 | none=>D
theorem YS{D:List (Option Bt)}{i:Int}{b:Bt}(hb:Zk D i=some b):Zk (WL D i) i=none:=by
 obtain⟨j,rfl,hj⟩:=VY hb;unfold WL;rw[hb,if_pos (show(some b).isSome=true from rfl),ZB,show((j:Int)+1-1).toNat=j from by omega,List.getElem?_set_self (List.getElem?_eq_some_iff.1 hj).1]; rfl
theorem WZ.drop{D:List (Option Bt)}{L:List Nm}{B:List (Int × Bs)}(h:WZ D L B){j:Nat}{e:Nm}(he:L[j]?=some e):WZ (WL D e.id) (L.eraseIdx j) B:=by
 have hb:=h.blk e (List.mem_of_getElem? he);have hself:=YS hb;refine⟨h.dis.erase j,fun x hx=>?_,fun x hx=>⟨?_,fun y hy=>?_⟩,fun i b hib=>?_,fun x hx=>?_,fun x hx=>?_⟩
 ·obtain⟨h1,h2,_⟩:=Wx h.dis he hx;rw[wh h2]; exact h.blk x h1
 ·rw[wh fun h2=>(h.oth x hx).2 e (List.mem_of_getElem? he) h2.symm]; exact(h.oth x hx).1
 ·exact(h.oth x hx).2 y (Wx h.dis he hy).1
 ·by_cases h2:i=e.id
  ·rw[h2,hself] at hib; cases hib
  ·rw[wh h2] at hib;rcases h.all i b hib with⟨y,hy,hyi⟩ | hx
   ·exact .inl ⟨y,mem_erase he hy (.inl fun h3=>h2 (hyi.symm.trans h3)),hyi⟩
   ·exact .inr hx
 ·exact h.us x (Wx h.dis he hx).1
 ·exact h.fold x (Wx h.dis he hx).1
theorem iN{D:List (Option Bt)}{i:Int}{b Y:Bt}(hb:Zk D i=some b):WL (D.set (i-1).toNat (some Y)) i=WL D i:=by
 have h1:=WE (Y:=Y) hb i;rw[if_pos rfl] at h1;unfold WL;rw[h1,hb,if_pos (show(some Y).isSome=true from rfl),if_pos (show(some b).isSome=true from rfl),List.set_set]
set_option maxRecDepth 10000 in
set_option maxHeartbeats 1000000 in
theorem eO{tb ab N:Nat}{D:List (Option Bt)}{H:List Chunk}{L:List Nm}{T:List Chunk}{B:List (Int × Bs)}(hT:Tb tb ab L T)(hA:Ar ab N D H)(hI:WZ D L B)(hP:Pos L)(i:Int):
 zP Tryz.prog 63 #[.pointer (some ⟨tb,0,none⟩),.int .i64 i] [T,H] (fun r S=>r= .int .i64 (aB L i)∧∃(T' H':List Chunk) (D':List (Option Bt)),Tb tb ab (vK L i) T'∧Ar ab N D' H'∧WZ D' (vK L i) B∧dz D'=dz (Uq D L i)∧S=[T',H']):=by
 refine zP.forget (zl Tryz.LU (Nat.le_of_ble_eq_true rfl) ?_);unfold Tryz.MV;refine ze (z8 (yp pC (zf (za (ze (z8 (yp (pP rfl) (yp (pI rfl) ?_))))))));refine zh (zk (JL hT hA hI i) rfl rfl fun r S' h=>?_);obtain⟨rfl,rfl⟩:=h;cases hb:Yi L i with
 | none=>
  have h1:=Jl hb;refine yp (pU rfl) (yp (pExt rfl rfl) (yp (pExt rfl rfl) (yp (pT rfl) (yp (pB rfl) (zf (za (ze (ze (z8 (yp (pB rfl) (yp (Zd rfl) (zf (za (zF rfl (ze (z8 (yp pC (zf (za (zH (zX ?_)))))))))))))))))))));refine zG (rI rfl) ⟨_,.of,by unfold aB; rw[hb]; rfl,T,H,D,?_,hA,?_,?_,rfl⟩
  ·unfold vK; rw[h1]; exact hT
  ·unfold vK; rw[h1]; exact hI
  ·unfold Uq; rw[hb]
 | some e=>
  obtain⟨j,h1,h2,rfl⟩:=Y3 hb;have hem:=List.mem_of_getElem? h2;have hpos:=hP e hem;have hblk:=hI.blk e hem;have hus:=hI.us e hem;have hu1:e.u-1<2 ^ 60:=by omega
  have hlen:(Vl (e.u-1)++e.n).length=(Vl e.u++e.n).length:=by rw[List.length_append,List.length_append,ZF,ZF]
  have hR:aB L e.id=0:=by unfold aB; rw[hb]; rfl
  have hLd:vK L e.id=if e.u=1 then L.eraseIdx j else reuse L j e (e.u-1):=by unfold vK; rw[h1]; simp only[h2]
  have hDd:Uq D L e.id=if e.u=1 then WL D e.id else D:=by unfold Uq; rw[hb]
  refine yp (pU rfl) (yp (pExt rfl rfl) (yp (pExt rfl rfl) (yp (pT rfl) (yp (pB rfl) (zf (za (ze (ze (z8 (yp (pB rfl) (yp (Zd rfl) (zf (za (zx rfl (zq (za (ze (z8 (yp (pP rfl) (yp (pI rfl) ?_))))))))))))))))))));refine zh (zk (eH hT hA hI e.id) rfl rfl fun r S' h=>?_);obtain⟨rfl,rfl⟩:=h;rw[hb];have hT0:=hT;obtain⟨ib,lb,HI,HG,hMI,hMG,rfl⟩:=hT;refine XV (zD.re (S1:=[Wm tb ab ib lb++HI++HG,H]) (S2:=[Wm tb ab ib lb,HI,HG,H]) (by simp)) ?_;show YL _ _ _ _ _ (Zi _ (.int .i64 (e.u:Int)) _) _;refine yp (wE rfl rfl (by omega)) (yp (pI rfl) (zf (za (ze (z8 (yp (pP rfl) (yp (pI rfl) (yp (pI rfl) ?_))))))));refine zh (zk (rE (tb:=tb) (ib:=ib) (lb:=lb) hA hblk (e.u-1) hu1) rfl rfl fun r S' h=>?_);obtain⟨rfl,H2,hA2,rfl⟩:=h;refine zf (za (ze (ze (z8 (yp (pI rfl) (yp (WT rfl rfl) (zf (za ?_))))))));by_cases hu:e.u=1
  ·rw[if_pos hu] at hLd hDd;rw[decide_eq_true (show((e.u-1:Nat):Int)=0 from by omega)];refine zF rfl (ze (z8 (yp (pP rfl) (yp (zM rfl) (yp (zn rfl) ?_)))));refine zh (zB rfl rfl ?_);refine yp (pT rfl) ?_;refine zh (dJ hMI (⟨e.n.toArray⟩:ByteArray) kX xX rfl rfl fun HI2 hMI2=>?_);refine zf (za (ze (z8 (yp (pP rfl) (yp (zM rfl) (yp (zn rfl) ?_))))));refine zh (zB rfl rfl ?_);refine yp (pI rfl) ?_;refine zh (dJ hMG e.id kY kW rfl rfl fun HG2 hMG2=>?_);refine zf (za (z8 (yp (pP rfl) (yp (zM rfl) (yp (zn rfl) ?_)))));refine zh (zB rfl rfl ?_);refine yp (pI rfl) ?_;refine zh (zk (lV hA2 e.id) rfl rfl fun r S' h=>?_);obtain⟨rfl,H3,hA3,rfl⟩:=h;rw[iN hblk] at hA3;have hc1:KA (uR L) (⟨e.n.toArray⟩:ByteArray) L.length=(L.eraseIdx j).length:=by
    unfold KA;rw[(Vn hI.dis).2 ⟨e,hem,rfl,rfl⟩,List.length_eraseIdx,if_pos (List.getElem?_eq_some_iff.1 h2).1]; rfl
   have hc2:KA (WO L) e.id L.length=(L.eraseIdx j).length:=by
    unfold KA;rw[Wy.2 ⟨rfl,e,hem,rfl⟩,List.length_eraseIdx,if_pos (List.getElem?_eq_some_iff.1 h2).1]; rfl
   rw[hc1, ←qz hI.dis h2] at hMI2;rw[hc2, ←Jv hI.dis h2] at hMG2;refine zf (za (ze (z8 (yp pC (zf (za (zH ?_)))))));exact zG (rI rfl) ⟨[Wm tb ab ib lb++HI2++HG2,H3],zD.re (S1:=[Wm tb ab ib lb,HI2,HG2,H3]) (by simp),by rw[hR],_,H3,_,hLd▸Tb.mk hMI2 hMG2,hA3,hLd▸hI.drop h2,by rw[hDd],rfl⟩
  ·rw[if_neg hu] at hLd hDd;rw[decide_eq_false (show ¬((e.u-1:Nat):Int)=0 from by omega)];refine zx rfl (zq (za (ze (z8 (yp pC (zf (za (zH ?_))))))));exact zG (rI rfl) ⟨[Wm tb ab ib lb++HI++HG,H2],zD.re (S1:=[Wm tb ab ib lb,HI,HG,H2]) (by simp),by rw[hR],_,H2,_,hLd▸Tb.reuse hT0 hI.dis h2,hA2,hLd▸hI.reuse h2 hu1,by rw[hDd]; exact XF hblk hlen,rfl⟩
theorem WZ.nil:WZ [] [] []:=⟨⟨List.nodup_nil,List.nodup_nil⟩,fun e he=>by simp at he,fun e he=>by simp at he,fun i b h=>by unfold Zk at h; split at h<;>simp at h,fun e he=>by simp at he,fun e he=>by simp at he⟩
theorem Pos.nil:Pos []:=fun e he=>by simp at he
theorem qU{L:List Nm}{e:Nm}(he:e∈L):(Vp L e.n).isSome=true:=by
 cases hb:Vp L e.n with
 | some x=>rfl
 | none=>exact absurd rfl (Va (WI hb) e he)
theorem lY{D:List (Option Bt)}{L:List Nm}{n:Bs}{k:Nat}(h:∀e∈L,e.u≤k):∀e∈ZI D L n,e.u≤k+1:=fun e he=>by
 cases hb:Vp L n with
 | some x=>
  obtain⟨j,h1,h2,rfl⟩:=vN hb;have:ZI D L x.n=reuse L j x (x.u+1):=by unfold ZI; rw[h1]; simp only[h2]
  rw[this] at he;unfold reuse at he;rcases List.mem_or_eq_of_mem_set he with he | rfl
  ·have:=h e he; omega
  ·have:=h x (List.mem_of_getElem? h2); show x.u+1≤k+1; omega
 | none=>
  have:ZI D L n=L++[⟨((hnd D:Nat):Int),n,1⟩]:=by unfold ZI; rw[WI hb]
  rw[this] at he;rcases List.mem_append.1 he with he | he
  ·have:=h e he; omega
  ·rw[List.mem_singleton.1 he]; show 1≤k+1; omega
theorem lZ{D:List (Option Bt)}{L:List Nm}{n:Bs}(h:Pos L):Pos (ZI D L n):=fun e he=>by
 cases hb:Vp L n with
 | some x=>
  obtain⟨j,h1,h2,rfl⟩:=vN hb;have:ZI D L x.n=reuse L j x (x.u+1):=by unfold ZI; rw[h1]; simp only[h2]
  rw[this] at he;unfold reuse at he;rcases List.mem_or_eq_of_mem_set he with he | rfl
  ·exact h e he
  ·show 1≤x.u+1; omega
 | none=>
  have:ZI D L n=L++[⟨((hnd D:Nat):Int),n,1⟩]:=by unfold ZI; rw[WI hb]
  rw[this] at he;rcases List.mem_append.1 he with he | he
  ·exact h e he
  ·rw[List.mem_singleton.1 he]; exact Nat.le_refl _
theorem bQ{L:List Nm}{i:Int}(h:Pos L):Pos (vK L i):=fun e he=>by
 unfold vK at he;split at he
 ·split at he
  ·next x hx=>
   split at he
   ·exact h e ((List.eraseIdx_sublist _ _).subset he)
   ·next hu=>
    unfold reuse at he;rcases List.mem_or_eq_of_mem_set he with he | rfl
    ·exact h e he
    ·have:=h x (List.mem_of_getElem? hx); show 1≤x.u-1; omega
  ·exact h e he
 ·exact h e he
end Go.Proofs.YtekgciopamkjlaaGreat
