/- The table of names (chapter 7): contracts of its functions. The table of names (chapter 7): uses, names, Add and Drop. The table of names (chapter 7): Add and Drop. The table of names (chapter 7): what Add does. The table of names (chapter 7): Drop; awake. The table of names (chapter 7): Add, once more. The document's own answer (freshetref6): the table of names. The document's own answer (freshetref6): the table's Add and Drop. The table of names (chapter 7), beside the document's: what Add and Drop leave. -/
import Derived.Test.YtekgciopamkjlaaGreatN1
import Derived.Test.YtekgciopamkjlaaGreatFIntern
import Derived.Test.YtekgciopamkjlaaGreatR1
namespace Go.Proofs.YtekgciopamkjlaaGreat
open Go.Xs
open Enc (enc)
theorem Xz:Tryz.prog.underlying 123=some (.map 9 3):=by kernel_rfl
theorem YK:Tryz.prog.underlying 124=some (.map 3 4):=by kernel_rfl
theorem xg:Tryz.prog.underlying 9=some .string:=by kernel_rfl
theorem YJ:Tryz.prog.underlying 3=some (.int .i64):=by kernel_rfl
theorem jh:(Tryz.prog.info? 3).bind (·.zero)=some (.int .i64 0):=by kernel_rfl
theorem X8:(Tryz.prog.info? 4).bind (·.zero)=some (.bool false):=by kernel_rfl
abbrev Ws(tb ab ib lb:Nat):List Chunk:=[(tb,.cells #[.pointer (some ⟨ab,0,none⟩),.map (some ib),.map (some lb)] 126)]
/-- the table, as one piece of memory -/
def Tb(tb ab:Nat)(L:List Nm)(T:List Chunk):Prop:=
 ∃(ib lb:Nat) (HI HG:List Chunk),Mp ib (uE L) L.length HI∧Mp lb (WU L) L.length HG∧T=Ws tb ab ib lb++HI++HG
/-- the names stand in the arena, and blocks of others; nothing else does -/
structure Wo(D:List (Option Bt))(L:List Nm)(B:List (Int × Bs)):Prop where
 dis:UU L
 blk:∀e∈L,Zb D e.id=some (Ve e.u++e.n)
 oth:∀x∈B,Zb D x.1=some x.2∧∀e∈L,e.id≠x.1
 all:∀i b,Zb D i=some b→(∃e∈L,e.id=i)∨∃x∈B,x.1=i
 us:∀e∈L,e.u<2 ^ 60
 fold:∀e∈L,wO e.n=true∧zk e.n=e.n
theorem XB{tb ab ib lb:Nat}:Tri Tryz.prog 69 #[.pointer (some ⟨tb,0,none⟩)] [Ws tb ab ib lb] (fun r S=>r= .bool false∧S=[Ws tb ab ib lb]):=by
 refine Tri.forget (zB Tryz.AY (Nat.le_of_ble_eq_true rfl) ?_);unfold Tryz.Cz;refine ze (z8 (yp pC (zf (za (ze (z8 (yp (pP rfl) (yp (Ye rfl rfl) (yp (pB rfl) (zV rfl (zZ (pP rfl) (zV rfl (zZ (zQ rfl) (zV rfl (zZ (zl rfl) (zV rfl ?_))))))))))))))));refine(zo rfl rfl ?_);refine zV rfl (zZ (Ye rfl rfl) (yp (zL rfl rfl) (yp (pB rfl) (zf (za (zH ?_))))));exact zG (rB rfl) ⟨_,.of,rfl,rfl⟩
theorem Tb.mk{tb ab ib lb:Nat}{L:List Nm}{HI HG:List Chunk}(h1:Mp ib (uE L) L.length HI)(h2:Mp lb (WU L) L.length HG):Tb tb ab L (Ws tb ab ib lb++HI++HG):=⟨ib,lb,HI,HG,h1,h2,rfl⟩
theorem mZ{ab:Nat}:Tri Tryz.prog 49 #[.pointer (some ⟨ab,0,none⟩)] [] (fun r S=>∃tb T,r= .pointer (some ⟨tb,0,none⟩)∧Tb tb ab [] T∧S=[T]):=by
 refine Tri.forget (zB Tryz.BA (Nat.le_of_ble_eq_true rfl) ?_);unfold Tryz.Db;refine ze (z8 (yp pC (zf (za (ze (z8 (yp (pP rfl) ?_)))))));refine zh (jl ByteArray Int fun ib HI hI=>?_);refine zh (jl Int Bool fun lb HG hG=>?_);refine yp (JA (eU rfl) (Dw rfl) (Dw rfl)) ?_;refine zh (Wp rfl fun p7=>?_);refine yp (pP rfl) (zf (za (zH ?_)));exact zG (rP rfl) ⟨[Ws p7 ab ib lb++HI++HG],zM.uD,p7,_,rfl,Tb.mk (L:=[]) hI hG,rfl⟩
theorem YP{tb ab:Nat}{L:List Nm}{T:List Chunk}(hT:Tb tb ab L T):Tri Tryz.prog 23 #[.pointer (some ⟨tb,0,none⟩)] [T] (fun r S=>r= .int .i64 (L.length:Int)∧S=[T]):=by
 obtain⟨ib,lb,HI,HG,hI,hG,rfl⟩:=hT;refine Tri.VW (Tri.forget (zB Tryz.BN (Nat.le_of_ble_eq_true rfl) ?_));unfold Tryz.x23;refine ze (z8 (yp pC (zf (za (ze (ze (z8 (yp (pP rfl) ?_))))))));refine zh (zm (XB (tb:=tb) (ab:=ab) (ib:=ib) (lb:=lb)) rfl rfl fun r S' h=>?_);obtain⟨rfl,rfl⟩:=h;refine zf (za (zA rfl (zx (za (ze (z8 (yp (pP rfl) (yp (zQ rfl) (yp (zl rfl) ?_)))))))));refine zh (zo rfl rfl ?_);refine zh (lF hI (by simp) Xz rfl ?_);refine yp (pI rfl) (zf (za (zH ?_)));exact zG (rI rfl) ⟨_,zM.uD,rfl,rfl⟩
/-- the one of these letters -/
def vB(L:List Nm)(n:Bs):Option Nm:=(vL n L).bind fun j=>L[j]?
def yD(L:List Nm)(i:Int):Option Nm:=(vU i L).bind fun j=>L[j]?
theorem gF{tb ab:Nat}{L:List Nm}{T:List Chunk}(hT:Tb tb ab L T)(Y:Bs)(hY:Y.length<2 ^ 62):Tri Tryz.prog 100 #[.pointer (some ⟨tb,0,none⟩),sv Y] [T]
 (fun r S=>r= .tuple #[.int .i64 (((vB L (zk Y)).map (·.id)).getD 0),.bool (vB L (zk Y)).isSome]∧S=[T]):=by
 obtain⟨ib,lb,HI,HG,hI,hG,rfl⟩:=hT;refine Tri.VW (Tri.forget (zB Tryz.sD (Nat.le_of_ble_eq_true rfl) ?_));unfold Tryz.mV;refine ze (z8 (yp pC (yp pC (zf (za (ze (ze (z8 (yp (pP rfl) ?_)))))))));refine zh (zm (XB (tb:=tb) (ab:=ab) (ib:=ib) (lb:=lb)) rfl rfl fun r S' h=>?_);obtain⟨rfl,rfl⟩:=h;refine zf (za (zA rfl (zx (za (ze (Za (zi (pP rfl) (zi (zQ rfl) (zi (zl rfl) (Zd rfl rfl (zi (pT rfl) ?_)))))))))));refine zX (zm (jR Y hY) rfl rfl fun r S' h=>?_) zK;obtain⟨rfl,rfl⟩:=h;refine⟨by simp,?_⟩;have hid:uE L ⟨(zk Y).toArray⟩=(vB L (zk Y)).map (·.id):=by
  unfold uE vB;cases vL (zk Y) L<;>rfl
 refine zO (Qb (v:= .int .i64 (((vB L (zk Y)).map (·.id)).getD 0)) (bl:=(vB L (zk Y)).isSome) hI (by simp) (⟨(zk Y).toArray⟩:ByteArray) Xz xg jh rfl rfl ?_ ?_ ?_) zK
 ·rw[hid]; cases vB L (zk Y)<;>rfl
 ·rw[hid]; cases vB L (zk Y)<;>rfl
 refine zi (pU rfl) (zi (pExt rfl rfl) (zi (pExt rfl rfl) (zi (pI rfl) (zi (pB rfl) (zN (za (ze (z8 (yp (pI rfl) (yp (pB rfl) (yp (pI rfl) (yp (pB rfl) (zf (za (zH ?_)))))))))))))));exact zG (jJ rfl rfl) ⟨_,zM.uD,rfl,rfl⟩
theorem gG{tb ab:Nat}{L:List Nm}{T:List Chunk}(hT:Tb tb ab L T)(Y:Bs)(hY:Y.length<2 ^ 62):Tri Tryz.prog 56 #[.pointer (some ⟨tb,0,none⟩),sv Y] [T]
 (fun r S=>r= .int .i64 (if(vB L (zk Y)).isSome=true∨wO Y=false then 0 else cost (8+Y.length))∧S=[T]):=by
 refine Tri.forget (zB Tryz.Bp (Nat.le_of_ble_eq_true rfl) ?_);unfold Tryz.CX;refine ze (z8 (yp pC (zf (za (ze (ze (z8 (yp (pP rfl) (yp (pT rfl) ?_)))))))));refine zh (zm (gF hT Y hY) rfl rfl fun r S' h=>?_);obtain⟨rfl,rfl⟩:=h;cases hb:(vB L (zk Y)).isSome with
 | true=>
  refine yp (pU rfl) (yp (pExt rfl rfl) (yp (pExt rfl rfl) (yp (pI rfl) (yp (pB rfl) (zf (za (ze (z8 (yp (pB rfl) (yp (pB rfl) (zJ rfl (zJ rfl (zJ rfl (yp (zD rfl rfl) (zf (za (zC rfl (ze (z8 (yp pC (zf (za (zH (zP ?_))))))))))))))))))))))));exact zG (rI rfl) ⟨_,.of,by rw[if_pos (.inl rfl)],rfl⟩
 | false=>
  refine yp (pU rfl) (yp (pExt rfl rfl) (yp (pExt rfl rfl) (yp (pI rfl) (yp (pB rfl) (zf (za (ze (z8 (yp (pB rfl) (yp (pB rfl) (zV rfl (zZ (pT rfl) (zV rfl ?_)))))))))))));refine zm (ug Y hY) rfl rfl fun r S' h=>?_
  obtain⟨rfl,rfl⟩:=h;cases hv:wO Y with
  | false=>
   refine zV rfl (zZ (Ze rfl) (yp (zL rfl rfl) (zf (za (zC rfl (ze (z8 (yp pC (zf (za (zH (zP ?_))))))))))));exact zG (rI rfl) ⟨_,.of,by rw[if_pos (.inr rfl)],rfl⟩
  | true=>
   refine zV rfl (zZ (Ze rfl) (yp (zL rfl rfl) (zf (za (zA rfl (zx (za (ze (z8 (yp (pT rfl) (yp (ZV rfl) ?_)))))))))));rw[uH];refine yp (vY rfl rfl (by omega)) ?_;refine zh (zm (xO (8+(Y.length:Int))) rfl rfl fun r S' h=>?_);obtain⟨rfl,rfl⟩:=h;refine yp (pI rfl) (zf (za (zH ?_)));exact zG (rI rfl) ⟨_,.of,by rw[if_neg (by simp)],rfl⟩
theorem fC{E:Env}{x y:Operand}{a s:Nat}(h1:ev E x= .int .i64 (a:Int))(h2:ev E y= .int .i64 (s:Int))(hs:s≤64)(h:a*2 ^ s<2 ^ 63):zn (ev E) (.bin .shl x y)=some (.int .i64 ((a*2 ^ s:Nat):Int)):=by
 have hm:Nat.min ((s:Int).toNat) IntKind.i64.bits=s:=by show Nat.min s 64=s; exact Nat.min_eq_left hs
 have e:(a:Int)*2 ^ s=((a*2 ^ s:Nat):Int):=by push_cast; rfl
 simp only[zn,h1,h2,WK,vI,hm,e];rw[wrap_i64 (by have:((a*2 ^ s:Nat):Int)<((2 ^ 63:Nat):Int):=Int.ofNat_lt.2 h; omega)];simp
theorem nS{E:Env}{x y:Operand}{a b:Nat}(h1:ev E x= .int .i64 (a:Int))(h2:ev E y= .int .i64 (b:Int))(h:(a ||| b)<2 ^ 63)(ha:a<2 ^ 63)(hb:b<2 ^ 63):zn (ev E) (.bin .or x y)=some (.int .i64 ((a ||| b:Nat):Int)):=by
 have e:uy .or .i64 (a:Int) (b:Int)=((a ||| b:Nat):Int):=by
  unfold uy;simp only;have e1:(BitVec.ofInt IntKind.i64.bits (a:Int) ||| BitVec.ofInt IntKind.i64.bits (b:Int)).toNat=a ||| b:=by
   show(BitVec.ofInt 64 (a:Int) ||| BitVec.ofInt 64 (b:Int)).toNat=a ||| b;rw[BitVec.toNat_or,BitVec.toNat_ofInt,BitVec.toNat_ofInt];congr 1
   ·omega
   ·omega
  rw[e1,wrap_i64 (by omega)]
 simp[zn,h1,h2,WK,vI,e]
theorem aB{a b i:Nat}(h:a<2 ^ i):a ||| (b*2 ^ i)=a+b*2 ^ i:=by
 rw[Nat.or_comm,Nat.mul_comm b, ←Nat.two_pow_add_eq_or_of_lt h b,Nat.add_comm]
theorem UN{L:List Nm}{i:Int}{e:Nm}(h:yD L i=some e):∃j,vU i L=some j∧L[j]?=some e∧e.id=i:=by
 unfold yD at h;cases hx:vU i L with
 | none=>rw[hx] at h; cases h
 | some j=>
  obtain⟨e',h1,h2⟩:=uX hx;rw[hx] at h;simp only[Option.bind_some,h1] at h;obtain rfl:=Option.some.inj h;exact⟨j,rfl,h1,h2⟩
theorem yC{L:List Nm}{i:Int}(h:yD L i=none):vU i L=none:=by
 unfold yD at h;cases hx:vU i L with
 | none=>rfl
 | some j=>
  obtain⟨e',h1,h2⟩:=uX hx;rw[hx] at h;simp only[Option.bind_some,h1] at h;cases h
theorem Yz(L:List Nm)(i:Int):((WU L i).map Vv.vv).getD (.bool false)= .bool (yD L i).isSome:=by
 cases hb:yD L i with
 | none=>unfold WU; rw[yC hb]; rfl
 | some e=>obtain⟨j,h1,_,_⟩:=UN hb; unfold WU; rw[h1]; rfl
theorem kP{L:List Nm}{i:Int}{e:Nm}(h:yD L i=some e):e∈L∧e.id=i:=by
 obtain⟨j,_,h2,h3⟩:=UN h;exact⟨List.mem_of_getElem? h2,h3⟩
/-- the first eight bytes of a name's block, the others -/
theorem qP{D:List (Option Bt)}{i:Int}{u:Nat}{n:Bs}(h:Zb D i=some (Ve u++n)):ZY D i 0 8=0∧Uy D i 0 8=Ve u:=by
 have hl:(Ve u++n).length=8+n.length:=by rw[List.length_append,ZK]
 have hp:ZY D i 0 8=0:=by unfold ZY; rw[h]; exact if_neg (by omega)
 refine⟨hp,?_⟩;unfold Uy;rw[if_pos hp,h];show((Ve u++n).drop 0).take 8=Ve u;rw[List.drop_zero, ←ZK u,List.take_left]
theorem qO{D:List (Option Bt)}{i:Int}{u:Nat}{n:Bs}(h:Zb D i=some (Ve u++n)):ZY D i 8 (n.length:Int)=0∧Uy D i 8 (n.length:Int)=n:=by
 have hl:(Ve u++n).length=8+n.length:=by rw[List.length_append,ZK]
 have hp:ZY D i 8 (n.length:Int)=0:=by unfold ZY; rw[h]; exact if_neg (by omega)
 refine⟨hp,?_⟩;unfold Uy;rw[if_pos hp,h];show((Ve u++n).drop 8).take (n.length:Int).toNat=n;have:(Ve u++n).drop 8=n:=by
  have:=List.drop_left (l₁:=Ve u) (l₂:=n);rw[ZK] at this; exact this
 rw[this,Int.toNat_natCast,List.take_length]
theorem Qq{tb ab N:Nat}{D:List (Option Bt)}{H:List Chunk}{L:List Nm}{T:List Chunk}{B:List (Int × Bs)}(hT:Tb tb ab L T)(hA:Ar ab N D H)(hI:Wo D L B)(i:Int):Tri Tryz.prog 103 #[.pointer (some ⟨tb,0,none⟩),.int .i64 i] [T,H]
 (fun r S=>r= .int .i64 (((yD L i).map (·.u)).getD 0:Nat)∧S=[T,H]):=by
 obtain⟨ib,lb,HI,HG,hMI,hMG,rfl⟩:=hT;refine Tri.forget (Tri.perm (S:=[Ws tb ab ib lb,HI,HG,H]) (by simp) (zB Tryz.rZ (Nat.le_of_ble_eq_true rfl) ?_));unfold Tryz.mU;have hback:∀{S':zq},zM S' [Ws tb ab ib lb,HI,HG,H]→zM S' [Ws tb ab ib lb++HI++HG,H]:=fun h=>h.trans ⟨[],by simp⟩
 refine ze (z8 (yp pC (zf (za (ze (ze (z8 (yp (pP rfl) ?_))))))));refine zh (zm (XB (tb:=tb) (ab:=ab) (ib:=ib) (lb:=lb)) rfl rfl fun r S' h=>?_);obtain⟨rfl,rfl⟩:=h;refine yp (pB rfl) (zV rfl (zZ (pP rfl) (zV rfl (zZ (zQ rfl) (zV rfl (zZ (zl rfl) (zV rfl ?_)))))));refine(zo rfl rfl ?_);refine zV rfl (zZ (pI rfl) (zV rfl (jm hMG (by simp) i YK YJ X8 rfl rfl (Yz L i) ?_)));cases hb:yD L i with
 | none=>
  refine zV rfl (zZ (Ze rfl) (yp (zL rfl rfl) (zf (za (zC rfl (ze (z8 (yp pC (zf (za (zH (zP ?_))))))))))));exact zG (rI rfl) ⟨_,hback .of,rfl,rfl⟩
 | some e=>
  obtain⟨hem,rfl⟩:=kP hb;have hblk:=hI.blk e hem;have hu:=hI.us e hem;obtain⟨hp8,hr8⟩:=qP hblk;refine zV rfl (zZ (Ze rfl) (yp (zL rfl rfl) (zf (za (zA rfl (zx (za (ze (z8 (yp (pP rfl) (yp (zQ rfl) (yp (zl rfl) ?_))))))))))));refine zh (zo rfl rfl ?_);refine yp (pI rfl) ?_;refine zh (zm (J6 hA e.id 0 8) rfl rfl fun r S' h=>?_);obtain⟨v,Ho,rfl,hLo,rfl⟩:=h;rw[hp8];rw[hr8] at hLo;obtain⟨va,vc,rfl⟩:=hLo.isSlice;have hl8:=ZK e.u;rw[hl8] at hLo;rw[hl8];refine yp (pU rfl) (yp (pExt rfl rfl) (yp (pExt rfl rfl) (yp (pS rfl) (yp (pI rfl) (zf (za (ze (z8 (yp pC (zf (za (ze (ze (z8 (yp (pS rfl) (yp (Zq rfl) (yp pC (zf (za (zw ?_))))))))))))))))))));refine Z7 (σ:=Nat) (fun k E S=>Has E [(7,.int .i64 ((e.u%2 ^ (8*k):Nat):Int)),(30,.slice va 8 vc),(31,.int .i64 8),(32,.int .i64 (k:Int))]∧k≤8∧zM S [Ho,Ws tb ab ib lb,HI,HG,H]) (fun k=>8-k) 0 ⟨⟨by rw[Nat.mul_zero,Nat.pow_zero,Nat.mod_one]; rfl,rfl,rfl,rfl,trivial⟩,Nat.zero_le _,.of⟩ fun k E S ⟨hE,hk,hJ⟩=>?_
  obtain⟨E0,e0⟩:=zu hE; subst e0; clear hE;refine zy hJ (ze (z8 (yp (w9 rfl rfl) (zf (za (ze ?_))))));refine zU rfl (fun h=>?_) (fun h=>?_)
  ·have hlt:k<8:=by omega
   have hg:=JD e.u k hlt;have hkl:k<(Ve e.u).length:=by omega
   obtain⟨b,sp,fz,hz,hae,_,hce,rfl⟩:=hLo.at' (by intro h; rw[h] at hl8; simp at hl8);subst hae;have hld:((cells (Ve e.u++sp)).toArray.toList)[0+k*1+0]?=some (.int .u8 ((UInt8.ofNat (e.u/2 ^ (8*k))).toNat:Int)):=(Zn (kk:=1) (j:=0) hkl rfl (by omega)).trans (by rw[List.getElem?_eq_getElem hkl] at hg; rw[Option.some.inj hg]; rfl);have hby:(UInt8.ofNat (e.u/2 ^ (8*k))).toNat=e.u/2 ^ (8*k)%256:=by simp
   have hmod:e.u%2 ^ (8*(k+1))=e.u%2 ^ (8*k)+e.u/2 ^ (8*k)%256*2 ^ (8*k):=by
    have e1:2 ^ (8*(k+1))=2 ^ (8*k)*256:=by rw[show 8*(k+1)=8*k+8 from by omega,Nat.pow_add]
    rw[e1,Nat.mod_mul,Nat.mul_comm (e.u/2 ^ (8*k)%256)]
   have hsm:e.u%2 ^ (8*(k+1))<2 ^ 60:=Nat.lt_of_le_of_lt (Nat.mod_le _ _) hu;have hlt2:e.u%2 ^ (8*k)<2 ^ (8*k):=Nat.mod_lt _ (Nat.pow_pos (by decide));have hor:=aB (b:=e.u/2 ^ (8*k)%256) hlt2;rw[←hmod] at hor;have hpr:e.u/2 ^ (8*k)%256*2 ^ (8*k)≤e.u%2 ^ (8*(k+1)):=by rw[hmod]; exact Nat.le_add_left _ _
   have hpl:e.u%2 ^ (8*k)≤e.u%2 ^ (8*(k+1)):=by rw[hmod]; exact Nat.le_add_right _ _
   refine zx (za (ze (zw (ze (z8 (yp (pI rfl) (yp (zT rfl rfl (by omega)) ?_)))))));refine zh (zo (v:= .int .u8 ((UInt8.ofNat (e.u/2 ^ (8*k))).toNat:Int)) rfl hld ?_);refine yp (pI rfl) (yp (pI rfl) (zf (za (z8 (yp (pI rfl) (yp (pI rfl) (yp (ql rfl) ?_)))))));rw[hby];refine yp (pI rfl) (yp (UC (j:=8) (k:=k) rfl rfl (by omega)) (yp (fC rfl rfl (by omega) (by omega)) (yp (nS rfl rfl (by rw[hor]; omega) (by omega) (by omega)) ?_)));rw[hor];refine yp (pI rfl) (zf (zY (za (z8 (yp (Z9 rfl rfl (by omega)) (yp (pI rfl) (zf (za ?_))))))));exact⟨k+1,⟨⟨rfl,rfl,rfl,rfl,trivial⟩,by omega,.of⟩,by omega⟩
  ·have hk8:k=8:=by omega
   subst hk8;have hmodu:e.u%2 ^ (8*8)=e.u:=Nat.mod_eq_of_lt (by omega);rw[hmodu];refine Z0 (zF (zF (Z4 (za (ze (z8 (yp (pI rfl) (yp (pI rfl) (zf (za (zH ?_)))))))))));exact zG (rI rfl) ⟨_,hback .of,rfl,rfl⟩
theorem YN{tb ab N:Nat}{D:List (Option Bt)}{H:List Chunk}{L:List Nm}{T:List Chunk}{B:List (Int × Bs)}(hT:Tb tb ab L T)(hA:Ar ab N D H)(hI:Wo D L B)(i:Int):Tri Tryz.prog 109 #[.pointer (some ⟨tb,0,none⟩),.int .i64 i] [T,H]
 (fun r S=>r= .tuple #[sv (((yD L i).map (·.n)).getD []),.bool (yD L i).isSome]∧S=[T,H]):=by
 obtain⟨ib,lb,HI,HG,hMI,hMG,rfl⟩:=hT;refine Tri.forget (Tri.perm (S:=[Ws tb ab ib lb,HI,HG,H]) (by simp) (zB Tryz.rR (Nat.le_of_ble_eq_true rfl) ?_));unfold Tryz.mM;have hback:∀{S':zq},zM S' [Ws tb ab ib lb,HI,HG,H]→zM S' [Ws tb ab ib lb++HI++HG,H]:=fun h=>h.trans ⟨[],by simp⟩
 refine ze (z8 (yp pC (yp pC (zf (za (ze (ze (z8 (yp (pP rfl) ?_)))))))));refine zh (zm (XB (tb:=tb) (ab:=ab) (ib:=ib) (lb:=lb)) rfl rfl fun r S' h=>?_);obtain⟨rfl,rfl⟩:=h;refine yp (pB rfl) (zV rfl (zZ (pP rfl) (zV rfl (zZ (zQ rfl) (zV rfl (zZ (zl rfl) (zV rfl ?_)))))));refine(zo rfl rfl ?_);refine zV rfl (zZ (pI rfl) (zV rfl (jm hMG (by simp) i YK YJ X8 rfl rfl (Yz L i) ?_)));have rTB:∀{E:Env} {S:zq} {t u:Tmp} {s:ByteArray} {b:Bool},E t= .string s→E u= .bool b→X5 Tryz.prog #[.tmp t,.tmp u] E S (.tuple #[.string s,.bool b]):=fun h1 h2=>res2 h1 h2
 cases hb:yD L i with
 | none=>
  refine zV rfl (zZ (Ze rfl) (yp (zL rfl rfl) (zf (za (zC rfl (ze (z8 (yp pC (yp pC (zf (za (zH (zP ?_)))))))))))));exact zG (rTB rfl rfl) ⟨_,hback .of,rfl,rfl⟩
 | some e=>
  obtain⟨hem,rfl⟩:=kP hb;have hblk:=hI.blk e hem;have hnl:=(hA.ok).each;obtain⟨hpn,hrn⟩:=qO hblk;have hsz:Ut D e.id=(((8+e.n.length:Nat):Int),true):=by
   unfold Ut; rw[hblk]; simp only; rw[List.length_append,ZK]
  obtain⟨q,_,hq⟩:=Vh hblk;have h4:=hnl q _ hq;rw[List.length_append,ZK] at h4;refine zV rfl (zZ (Ze rfl) (yp (zL rfl rfl) (zf (za (zA rfl (zx (za (ze (z8 (yp (pP rfl) (yp (zQ rfl) (yp (zl rfl) ?_))))))))))));refine zh (zo rfl rfl ?_);refine yp (pI rfl) ?_;refine zh (zm (J5 hA e.id) rfl rfl fun r S' h=>?_);obtain⟨rfl,rfl⟩:=h;rw[hsz];refine yp (pU rfl) (yp (pExt rfl rfl) (yp (pExt rfl rfl) (yp (pI rfl) (yp (pB rfl) (zf (za (ze (z8 (yp (pP rfl) (yp (zQ rfl) (yp (zl rfl) ?_)))))))))));refine zh (zo rfl rfl ?_);refine yp (pI rfl) (yp (pI rfl) (yp (wU rfl rfl (by omega)) ?_));rw[show((8+e.n.length:Nat):Int)-8=(e.n.length:Int) from by omega];refine zh (zm (J6 hA e.id 8 (e.n.length:Int)) rfl rfl fun r S' h=>?_);obtain⟨v,Ho,rfl,hLo,rfl⟩:=h;rw[hpn];rw[hrn] at hLo;obtain⟨va,vc,rfl⟩:=hLo.isSlice;refine yp (pU rfl) (yp (pExt rfl rfl) (yp (pExt rfl rfl) (yp (pS rfl) (yp (pI rfl) (zf (za (ze (z8 (yp (pS rfl) ?_)))))))));refine zh (jq rfl (hLo.src (by simp)) ?_);refine yp (pI rfl) (yp (WA rfl rfl) (yp (pT rfl) (yp (pB rfl) (zf (za (zH ?_))))));exact zG (rTB rfl rfl) ⟨_,hback .of,rfl,rfl⟩
theorem KE{E:Env}{x y:Operand}{a s:Nat}(h1:ev E x= .int .i64 (a:Int))(h2:ev E y= .int .i64 (s:Int))(hs:s≤64):zn (ev E) (.bin .shr x y)=some (.int .i64 ((a/2 ^ s:Nat):Int)):=by
 rw[QZ h1 h2 (by omega)];have hm:Nat.min ((s:Int).toNat) IntKind.i64.bits=s:=by show Nat.min s 64=s; exact Nat.min_eq_left hs
 rw[hm,Int.fdiv_eq_ediv_of_nonneg _ (by exact Int.pow_nonneg (by decide))];congr 2
theorem nW{E:Env}{x:Operand}{a:Nat}(h1:ev E x= .int .i64 (a:Int)):zn (ev E) (.conv .u8 x)=some (.int .u8 ((UInt8.ofNat a).toNat:Int)):=by
 rw[iH h1,XA];have:(UInt8.ofNat a).toNat=a%256:=by simp
 rw[this]; congr 2
def yJ(n k:Nat):Bs:=(Ve n).take k++List.replicate (8-k) 0
theorem KX{n k:Nat}(h:k≤8):(yJ n k).length=8:=by simp[yJ,ZK]; omega
theorem bA(n:Nat):yJ n 8=Ve n:=by
 unfold yJ;rw[List.take_of_length_le (by rw[ZK]; exact Nat.le_refl _)]; simp
theorem bq{n k:Nat}(h:k<8):(yJ n k).set k (UInt8.ofNat (n/2 ^ (8*k)))=yJ n (k+1):=by
 refine List.ext_getElem? fun j=>?_
 have hg:=JD n k h;have hl:=ZK n;have hget:∀k j,k≤8→(yJ n k)[j]?=if j<k then(Ve n)[j]? else if j<8 then some 0 else none:=fun k j hk=>by
  unfold yJ;rw[List.getElem?_append,List.length_take,hl,Nat.min_eq_left hk,List.getElem?_take,List.getElem?_replicate];by_cases h1:j<k
  ·rw[if_pos h1,if_pos h1,if_pos h1]
  ·rw[if_neg h1,if_neg h1];by_cases h2:j<8
   ·rw[if_pos h2,if_pos (by omega)]
   ·rw[if_neg h2,if_neg (by omega)]
 rw[List.getElem?_set,hget _ _ (by omega),hget _ _ (by omega),KX (by omega)];by_cases hj:k=j
 ·subst hj;rw[if_pos rfl,if_pos h,if_pos (by omega),hg]
 ·rw[if_neg hj];by_cases h1:j<k
  ·rw[if_pos h1,if_pos (by omega)]
  ·rw[if_neg h1,if_neg (show ¬j<k+1 from by omega)]
theorem J4{D:List (Option Bt)}{i:Int}{u v:Nat}{n:Bs}(h:Zb D i=some (Ve u++n)):ZY D i 0 ((Ve v).length:Nat)=0∧VU D i 0 (Ve v)=D.set (i-1).toNat (some (Ve v++n)):=by
 have hl:(Ve u++n).length=8+n.length:=by rw[List.length_append,ZK]
 have hl8:=ZK v;have hp:ZY D i 0 ((Ve v).length:Nat)=0:=by unfold ZY; rw[h]; exact if_neg (by omega)
 refine⟨hp,?_⟩;unfold VU;rw[if_pos hp,h];refine congrArg (fun z=>D.set (i-1).toNat (some z)) ?_;show spl (Ve u++n) 0 (Ve v)=_;unfold spl;have:(Ve u++n).drop 8=n:=by
  have:=List.drop_left (l₁:=Ve u) (l₂:=n);rw[ZK] at this; exact this
 rw[List.take_zero,hl8,Nat.zero_add,this]; rfl
set_option maxRecDepth 10000 in
theorem eP{tb ab ib lb N:Nat}{D:List (Option Bt)}{H:List Chunk}(hA:Ar ab N D H){i:Int}{u:Nat}{n:Bs}(hb:Zb D i=some (Ve u++n))(v:Nat)(_hv:v<2 ^ 60):Tri Tryz.prog 102 #[.pointer (some ⟨tb,0,none⟩),.int .i64 i,.int .i64 (v:Int)] [Ws tb ab ib lb,H]
 (fun r S=>r= .tuple #[]∧∃H',Ar ab N (D.set (i-1).toNat (some (Ve v++n))) H'∧S=[Ws tb ab ib lb,H']):=by
 refine Tri.forget (zB Tryz.sj (Nat.le_of_ble_eq_true rfl) ?_);unfold Tryz.x102;have hz8:([.int .u8 0,.int .u8 0,.int .u8 0,.int .u8 0,.int .u8 0,.int .u8 0,.int .u8 0,.int .u8 0]:List Value)=cells (yJ v 0):=rfl;rw[hz8];refine ze (z8 ?_);refine zh (Zt fun p6=>?_);refine zf (za (ze (ze (z8 (yp pC (zf (za (zw ?_))))))));refine Z7 (σ:=Nat) (fun k E S=>Has E [(0,.pointer (some ⟨tb,0,none⟩)),(1,.int .i64 i),(2,.int .i64 (v:Int)),(6,.pointer (some ⟨p6,0,none⟩)),(8,.int .i64 (k:Int))]∧k≤8∧zM S [[(p6,.cells (cells (yJ v k)).toArray 203)],Ws tb ab ib lb,H]) (fun k=>8-k) 0 ⟨⟨rfl,rfl,rfl,rfl,rfl,trivial⟩,Nat.zero_le _,.of⟩ fun k E S ⟨hE,hk,hJ⟩=>?_
 have hal:=KX (n:=v) hk;obtain⟨E0,e0⟩:=zu hE; subst e0; clear hE;refine zy hJ (ze (z8 (yp (w9 rfl rfl) (zf (za (ze ?_))))));refine zU rfl (fun h=>?_) (fun h=>?_)
 ·have hlt:k<8:=by omega
  refine zx (za (ze (zw (ze (z8 (yp (pI rfl) (yp (pI rfl) (zf (za (z8 (yp (pI rfl) (yp (pI rfl) (yp (pI rfl) (yp (UC (j:=8) (k:=k) rfl rfl (by omega)) (yp (KE rfl rfl (by omega)) (yp (nW rfl) (yp (DI (k:=(k:Int)) rfl rfl (by omega)) ?_)))))))))))))))));rw[Int.toNat_natCast];refine zh (ZB (M:=yJ v k) (i:=k) (y:=UInt8.ofNat (v/2 ^ (8*k))) rfl (by omega) rfl rfl (.inl rfl) ?_);rw[bq hlt];refine zf (zY (za (z8 (yp (Z9 rfl rfl (by omega)) (yp (pI rfl) (zf (za ?_)))))));exact⟨k+1,⟨⟨rfl,rfl,rfl,rfl,rfl,trivial⟩,by omega,.of⟩,by omega⟩
 ·have hk8:k=8:=by omega
  subst hk8;rw[bA];obtain⟨hp,hw⟩:=J4 (v:=v) hb;refine Z0 (zF (zF (Z4 (za (Za (zi (pP rfl) (zi (zQ rfl) (zi (zl rfl) (Zd rfl rfl (zi (pI rfl) (zi (v:= .slice (some ⟨p6,0,none⟩) 8 8) rfl ?_)))))))))));refine zO (zm (kV (S0:=[[(p6,.cells (cells (Ve v)).toArray 203)]]) hA i 0 (Y:=Ve v) (.Au List.mem_cons_self (ZK v).symm) (by rw[ZK]; decide)) rfl rfl fun r S' h=>?_) zK;obtain⟨rfl,H2,hA2,rfl⟩:=h;rw[hw] at hA2;refine zN ?_;exact VE Vu ⟨_,.of,rfl,H2,hA2,rfl⟩
/-- which blocks there are, and how big -/
def yR(D:List (Option Bt)):List (Option Nat):=D.map (Option.map List.length)
theorem Xd{D:List (Option Bt)}{h:Int}{b Y:Bt}(hg:Zb D h=some b)(hl:Y.length=b.length):yR (D.set (h-1).toNat (some Y))=yR D:=by
 obtain⟨j,rfl,hj⟩:=Vh hg;rw[show((j:Int)+1-1).toNat=j from by omega];unfold yR;refine List.ext_getElem? fun i=>?_
 rw[List.getElem?_map,List.getElem?_map,List.getElem?_set];split
 ·next h=>subst h; rw[if_pos (List.getElem?_eq_some_iff.1 hj).1,hj]; simp[hl]
 ·rfl
theorem Qs{D D':List (Option Bt)}(h:yR D=yR D'):Z8 D=Z8 D':=by
 have e:∀D:List (Option Bt),Z8 D=((yR D).map fun o=>match o with | some n=>Z6 n | none=>0).sum:=fun D=>by
  unfold Z8 yR;rw[List.map_map];congr 1;refine List.map_congr_left fun o _=>?_
  cases o<;>rfl
 rw[e,e,h]
/-! ### small letters once and again -/
theorem dO(b:UInt8):low (low b)=low b:=by
 unfold low;by_cases h:65≤b.toNat∧b.toNat≤90
 ·rw[if_pos h];have:(UInt8.ofNat (b.toNat+32)).toNat=(b.toNat+32)%256:=by simp
  rw[if_neg (by rw[this]; omega)]
 ·rw[if_neg h,if_neg h]
theorem JE:∀(f:Nat) (Y:Bs) (a:Nat),xX f (Y.map low) a=xX f Y a
 | 0,_,_=>rfl
 | f+1,Y,a=>by
  unfold xX;rw[List.getElem?_map];cases hy:Y[a]? with
  | none=>rfl
  | some b=>
   simp only[Option.map_some];have hlow:(low b).toNat=b.toNat∨(63<(low b).toNat∧63<b.toNat):=by
    unfold low;by_cases h:65≤b.toNat∧b.toNat≤90
    ·rw[if_pos h];have:(UInt8.ofNat (b.toNat+32)).toNat=(b.toNat+32)%256:=by simp
     right; omega
    ·rw[if_neg h]; exact .inl rfl
   by_cases h1:255≤a
   ·rw[if_pos h1,if_pos h1]
   ·rw[if_neg h1,if_neg h1];rcases hlow with h | ⟨h2,h3⟩
    ·rw[h,JE f Y]
    ·rw[if_neg (show ¬(low b).toNat=0 from by omega),if_pos h2,if_neg (show ¬b.toNat=0 from by omega),if_pos h3]
theorem Jj(Y:Bs):wO (Y.map low)=wO Y:=by
 unfold wO lead;rw[JE,List.length_map]
theorem VF(Y:Bs):wO (zk Y)=wO Y:=by
 unfold zk;split
 ·exact Jj Y
 ·rfl
theorem xD(Y:Bs):zk (zk Y)=zk Y:=by
 unfold zk;by_cases h:wO Y=true
 ·rw[if_pos h,if_pos (by rw[Jj]; exact h),List.map_map];exact List.map_congr_left fun b _=>dO b
 ·rw[if_neg h,if_neg h]
/-! ### Add -/
def wm(N:Nat)(D:List (Option Bt))(L:List Nm)(Y:Bs):Int:=if wO Y=false then 2 else if(vB L (zk Y)).isSome then 0 else Zm N D (8+(Y.length:Int))
def Zw(D:List (Option Bt))(L:List Nm)(n:Bs):List Nm:=match vL n L with
 | some j=>(match L[j]? with | some e=>reuse L j e (e.u+1) | none=>L)
 | none=>L++[⟨((hnd D:Nat):Int),n,1⟩]
def vP(D:List (Option Bt))(L:List Nm)(n:Bs):Int:=((vB L n).map (·.id)).getD ((hnd D:Nat):Int)
def wH(D:List (Option Bt))(L:List Nm)(n:Bs):List (Option Bt):=if(vB L n).isSome then D else Zc D (8+n.length)
theorem Ww{L:List Nm}{n:Bs}{e:Nm}(h:vB L n=some e):∃j,vL n L=some j∧L[j]?=some e∧e.n=n:=by
 unfold vB at h;cases hx:vL n L with
 | none=>rw[hx] at h; cases h
 | some j=>
  obtain⟨e',h1,h2⟩:=UF hx;rw[hx] at h;simp only[Option.bind_some,h1] at h;obtain rfl:=Option.some.inj h;exact⟨j,rfl,h1,h2⟩
theorem wT{L:List Nm}{n:Bs}(h:vB L n=none):vL n L=none:=by
 unfold vB at h;cases hx:vL n L with
 | none=>rfl
 | some j=>
  obtain⟨e',h1,h2⟩:=UF hx;rw[hx] at h;simp only[Option.bind_some,h1] at h;cases h
/-- a name's uses change, in the arena and in the list -/
theorem Wo.reuse{D:List (Option Bt)}{L:List Nm}{B:List (Int × Bs)}(h:Wo D L B){j:Nat}{e:Nm}{v:Nat}(he:L[j]?=some e)(hv:v<2 ^ 60):Wo (D.set (e.id-1).toNat (some (Ve v++e.n))) (reuse L j e v) B:=by
 have hem:=List.mem_of_getElem? he;have hb:=h.blk e hem;refine⟨h.dis.reuse he,fun x hx=>?_,fun x hx=>⟨?_,fun y hy=>?_⟩,fun i b hib=>?_,fun x hx=>?_,fun x hx=>?_⟩
 ·rw[WM hb];obtain⟨i,hi⟩:=List.mem_iff_getElem?.1 hx;unfold Proofs.YtekgciopamkjlaaGreat.reuse at hi;rw[List.getElem?_set] at hi;split at hi
  ·next hij=>
   subst hij;rw[if_pos (List.getElem?_eq_some_iff.1 he).1] at hi;obtain rfl:=(Option.some.inj hi).symm;rw[if_pos rfl]
  ·next hij=>
   have hne:x.id≠e.id:=fun h2=>by
    have h3:(L.map (·.id))[i]?=some e.id:=by rw[List.getElem?_map,hi,Option.map_some,h2]
    have h4:(L.map (·.id))[j]?=some e.id:=by rw[List.getElem?_map,he,Option.map_some]
    exact hij ((List.getElem?_inj (List.getElem?_eq_some_iff.1 h3).1 h.dis.ids).1 (h3.trans h4.symm)).symm
   rw[if_neg hne];exact h.blk x (List.mem_of_getElem? hi)
 ·rw[WM hb,if_neg fun h2=>(h.oth x hx).2 e hem h2.symm]; exact(h.oth x hx).1
 ·obtain⟨z,hz,h2,_⟩:=VJ he hy;rw[←h2]; exact(h.oth x hx).2 z hz
 ·rw[WM hb] at hib;have hin:∀y∈L,y.id=i→∃x∈Proofs.YtekgciopamkjlaaGreat.reuse L j e v,x.id=i:=fun y hy hyi=>by
   obtain⟨x,hx,h2,_⟩:=WY (u:=v) he hy;exact⟨x,hx,h2.trans hyi⟩
  by_cases h2:i=e.id
  ·exact .inl (hin e hem h2.symm)
  ·rw[if_neg h2] at hib;rcases h.all i b hib with⟨y,hy,hyi⟩ | hx
   ·exact .inl (hin y hy hyi)
   ·exact .inr hx
 ·unfold Proofs.YtekgciopamkjlaaGreat.reuse at hx;rcases List.mem_or_eq_of_mem_set hx with hx | rfl
  ·exact h.us x hx
  ·exact hv
 ·obtain⟨y,hy,_,h2⟩:=VJ he hx;rw[←h2]; exact h.fold y hy
/-- a new name, not yet used -/
theorem Wo.new{D:List (Option Bt)}{L:List Nm}{B:List (Int × Bs)}(h:Wo D L B){n:Bs}(hn:vL n L=none)(hv:wO n=true)(hf:zk n=n):
 Wo ((Zc D (8+n.length)).set (hnd D-1) (some (Ve 0++n))) (L++[⟨((hnd D:Nat):Int),n,0⟩]) B:=by
 have hno:Zb D ((hnd D:Nat):Int)=none:=by
  have:=vN D;have hp:=wu D;rw[show((hnd D:Nat):Int)=((hnd D-1:Nat):Int)+1 from by omega,ZE]; exact this
 have hid:∀x∈L,x.id≠((hnd D:Nat):Int):=fun x hx e=>by
  have:=h.blk x hx;rw[e,hno] at this; cases this
 have hg:=Wi D (8+n.length);have hidx:(((hnd D:Nat):Int)-1).toNat=hnd D-1:=by have:=wu D; omega
 have hset:=fun k=>WM (Y:=Ve 0++n) hg k
 rw[hidx] at hset;refine⟨h.dis.add hid (Vb hn),fun x hx=>?_,fun x hx=>?_,fun i b hib=>?_,fun x hx=>?_,fun x hx=>?_⟩
 ·rw[hset];rcases List.mem_append.1 hx with hx | hx
  ·rw[if_neg (hid x hx),ZA (hid x hx)]; exact h.blk x hx
  ·rw[List.mem_singleton.1 hx,if_pos rfl]
 ·obtain⟨h1,h2⟩:=h.oth x hx;have hne:x.1≠((hnd D:Nat):Int):=fun e=>by rw[e,hno] at h1; cases h1
  refine⟨?_,fun e he=>?_⟩
  ·rw[hset,if_neg hne,ZA hne]; exact h1
  ·rcases List.mem_append.1 he with he | he
   ·exact h2 e he
   ·rw[List.mem_singleton.1 he]; exact fun h3=>hne h3.symm
 ·rw[hset] at hib;by_cases h2:i=((hnd D:Nat):Int)
  ·exact .inl ⟨⟨((hnd D:Nat):Int),n,0⟩,by simp,h2.symm⟩
  ·rw[if_neg h2,ZA h2] at hib;rcases h.all i b hib with⟨y,hy,hyi⟩ | hx
   ·exact .inl ⟨y,List.mem_append.2 (.inl hy),hyi⟩
   ·exact .inr hx
 ·rcases List.mem_append.1 hx with hx | hx
  ·exact h.us x hx
  ·rw[List.mem_singleton.1 hx]; exact Nat.pow_pos (by decide)
 ·rcases List.mem_append.1 hx with hx | hx
  ·exact h.fold x hx
  ·rw[List.mem_singleton.1 hx]; exact⟨hv,hf⟩
theorem Tb.reuse{tb ab:Nat}{L:List Nm}{T:List Chunk}(h:Tb tb ab L T)(hd:UU L){j:Nat}{e:Nm}{v:Nat}(he:L[j]?=some e):Tb tb ab (reuse L j e v) T:=by
 obtain⟨ib,lb,HI,HG,h1,h2,rfl⟩:=h;refine⟨ib,lb,HI,HG,?_,?_,rfl⟩
 ·rw[jX hd he]; unfold Proofs.YtekgciopamkjlaaGreat.reuse; rw[List.length_set]; exact h1
 ·rw[j3 he]; unfold Proofs.YtekgciopamkjlaaGreat.reuse; rw[List.length_set]; exact h2
theorem qF{Y:Bs}(h:wO Y=true):wO (zk Y)=true∧zk (zk Y)=zk Y:=⟨by rw[VF]; exact h,xD Y⟩
set_option maxRecDepth 10000 in
set_option maxHeartbeats 1000000 in
theorem ng{tb ab N:Nat}{D:List (Option Bt)}{H:List Chunk}{L:List Nm}{T:List Chunk}{B:List (Int × Bs)}(hT:Tb tb ab L T)(hA:Ar ab N D H)(hI:Wo D L B)(hu:∀e∈L,e.u+1<2 ^ 60)(Y:Bs)(hY:Y.length<2 ^ 62):
 Tri Tryz.prog 61 #[.pointer (some ⟨tb,0,none⟩),sv Y] [T,H] (fun r S=>
  (wm N D L Y≠0∧r= .tuple #[.int .i64 0,.int .i64 (wm N D L Y)]∧S=[T,H])∨
  (wm N D L Y=0∧∃(T' H':List Chunk) (D':List (Option Bt)),r= .tuple #[.int .i64 (vP D L (zk Y)),.int .i64 0]∧Tb tb ab (Zw D L (zk Y)) T'∧Ar ab N D' H'∧Wo D' (Zw D L (zk Y)) B∧yR D'=yR (wH D L (zk Y))∧S=[T',H'])):=by
 obtain⟨ib,lb,HI,HG,hMI,hMG,rfl⟩:=hT;refine Tri.forget (Tri.perm (S:=[Ws tb ab ib lb,HI,HG,H]) (by simp) (zB Tryz.Bh (Nat.le_of_ble_eq_true rfl) ?_));unfold Tryz.CQ;have hback:∀{S':zq},zM S' [Ws tb ab ib lb,HI,HG,H]→zM S' [Ws tb ab ib lb++HI++HG,H]:=fun h=>h.trans ⟨[],by simp⟩
 refine ze (z8 (yp pC (yp pC (zf (za (ze (zw (ze (z8 (yp (pT rfl) ?_))))))))));refine zh (zm (ug Y hY) rfl rfl fun r S' h=>?_);obtain⟨rfl,rfl⟩:=h;cases hv:wO Y with
 | false=>
  have hE:wm N D L Y=2:=by unfold wm; rw[if_pos hv]
  refine yp (Ze rfl) (yp (pB rfl) (zf (za (zC rfl (ze (z8 (yp pC (yp pC (zf (za (zH (bret (zP ?_)))))))))))));exact zG (Uz rfl rfl) ⟨_,hback .of,.inl ⟨by rw[hE]; decide,by rw[hE],rfl⟩⟩
 | true=>
 obtain⟨hvn,hfn⟩:=qF hv;have hfl:=wE Y;have h255:=ZQ hv;refine yp (Ze rfl) (yp (pB rfl) (zf (za (zA rfl (ze (z8 (yp (pP rfl) ?_)))))));refine zh (zm (XB (tb:=tb) (ab:=ab) (ib:=ib) (lb:=lb)) rfl rfl fun r S' h=>?_);obtain⟨rfl,rfl⟩:=h;refine yp (pB rfl) (zf (za (zA rfl (zx (zY (za (ze (z8 (yp (pT rfl) ?_)))))))));refine zh (zm (jR Y hY) rfl rfl fun r S' h=>?_);obtain⟨rfl,rfl⟩:=h;have hid:uE L ⟨(zk Y).toArray⟩=(vB L (zk Y)).map (·.id):=by
  unfold uE vB;cases vL (zk Y) L<;>rfl
 generalize hn:zk Y=n at*
 refine yp (pT rfl) (zf (za (ze (z8 (yp (pP rfl) (yp (zQ rfl) (yp (zl rfl) ?_)))))));refine zh (zo rfl rfl ?_);refine yp (pT rfl) ?_;refine zh (Qb (v:= .int .i64 (((vB L n).map (·.id)).getD 0)) (bl:=(vB L n).isSome) hMI (by simp) (⟨n.toArray⟩:ByteArray) Xz xg jh rfl rfl ?_ ?_ ?_)
 ·rw[hid]; cases vB L n<;>rfl
 ·rw[hid]; cases vB L n<;>rfl
 refine yp (pU rfl) (yp (pExt rfl rfl) (yp (pExt rfl rfl) (yp (pI rfl) (yp (pB rfl) (zf (za ?_))))));refine xR (fun E S'=>∃(ib lb:Nat) (L1:List Nm) (HI HG H1:List Chunk) (D1:List (Option Bt)) (j:Nat) (e:Nm),Has E [(0,.pointer (some ⟨tb,0,none⟩)),(6,.int .i64 e.id)]∧Mp ib (uE L1) L1.length HI∧Mp lb (WU L1) L1.length HG∧Ar ab N D1 H1∧Wo D1 L1 B∧L1[j]?=some e∧e.u+1<2 ^ 60∧
  wm N D L Y=0∧e.id=vP D L n∧reuse L1 j e (e.u+1)=Zw D L n∧yR D1=yR (wH D L n)∧zM S' [Ws tb ab ib lb,HI,HG,H1]) ?_ ?_
 ·cases hb:vB L n with
  | some e=>
   obtain⟨j,h1,h2,h3⟩:=Ww hb;have hE:wm N D L Y=0:=by unfold wm; rw[if_neg (by rw[hv]; decide),hn,hb]; rfl
   refine ze (z8 (yp (pB rfl) (yp (Ze rfl) (zf (za (zA rfl (zx (za ?_))))))));refine⟨ib,lb,L,HI,HG,H,D,j,e,⟨rfl,rfl,trivial⟩,hMI,hMG,hA,hI,h2,hu e (List.mem_of_getElem? h2),hE,?_,?_,?_,.of⟩
   ·unfold vP; rw[hb]; rfl
   ·unfold Zw; rw[h1]; simp only[h2]
   ·unfold wH; rw[hb]; rfl
  | none=>
   have h1:=wT hb;have hEa:wm N D L Y=Zm N D (8+(n.length:Int)):=by unfold wm; rw[if_neg (by rw[hv]; decide),hn,hb,if_neg (by decide),hfl]
   refine ze (z8 (yp (pB rfl) (yp (Ze rfl) (zf (za (zC rfl (ze (z8 (yp (pP rfl) (yp (zQ rfl) (yp (zl rfl) ?_)))))))))));refine zh (zo rfl rfl ?_);refine yp (pT rfl) (yp (ZV rfl) ?_);rw[uH];refine yp (vY rfl rfl (by omega)) ?_;refine zh (zm (kX hA ((8+n.length:Nat):Int)) rfl rfl fun r S' h=>?_);rw[show((8+n.length:Nat):Int)=8+(n.length:Int) from by omega] at h;rcases h with⟨he,rfl,rfl⟩ | ⟨he,m,H1,hm,rfl,hA1,rfl⟩
   ·rw[←hEa] at he ⊢;refine yp (pU rfl) (yp (pExt rfl rfl) (yp (pExt rfl rfl) (yp (pI rfl) (yp (pI rfl) (zf (za (ze (ze (z8 (yp (pI rfl) (yp (uW rfl rfl) (zf (za ?_)))))))))))));refine Vr rfl (fun _=>?_) (fun h2=>absurd h2 he);refine ze (z8 (yp (pI rfl) (yp pC (yp (pI rfl) (zf (za (zH (zP (zP ?_)))))))));exact zG (Uz rfl rfl) ⟨_,hback .of,.inl ⟨he,rfl,rfl⟩⟩
   obtain rfl:m=8+n.length:=by omega
   have hnew:=hI.new h1 hvn (by rw[←hn]; exact xD Y);have hno:Zb D ((hnd D:Nat):Int)=none:=by
    have:=vN D;have hp:=wu D;rw[show((hnd D:Nat):Int)=((hnd D-1:Nat):Int)+1 from by omega,ZE]; exact this
   have hidn:∀x∈L,x.id≠(⟨((hnd D:Nat):Int),n,0⟩:Nm).id:=fun x hx e=>by
    have:=hI.blk x hx;rw[e,hno] at this; cases this
   have hnn:∀x∈L,x.n≠(⟨((hnd D:Nat):Int),n,0⟩:Nm).n:=Vb h1;have hf1:=aL hI.dis hidn hnn;have hf2:=qX (L:=L) (e:=⟨((hnd D:Nat):Int),n,0⟩);have hi0:uE L ⟨n.toArray⟩=none:=by rw[hid,hb]; rfl
   have ha0:WU L ((hnd D:Nat):Int)=none:=by
    cases hx:WU L ((hnd D:Nat):Int) with
    | none=>rfl
    | some b=>obtain⟨_,x,hx1,hx2⟩:=WJ.1 hx; exact absurd hx2 (hidn x hx1)
   refine yp (pU rfl) (yp (pExt rfl rfl) (yp (pExt rfl rfl) (yp (pI rfl) (yp (pI rfl) (zf (za (ze ?_)))))))
   skip
   refine ze (z8 (yp (pI rfl) (yp (uW rfl rfl) (zf (za (zA rfl (zx (za (ze (vR (R:=[Ws tb ab ib lb]) (by simp) (zi (pP rfl) (zi (zQ rfl) (zi (zl rfl) (Zd rfl rfl (zi (pT rfl) (zi (pP rfl) (zi (zQ rfl) (zi (zl rfl) (Zd rfl rfl (zi (pI rfl) (zi (pI rfl) (zi (pI rfl) (zi (pI rfl) ?_)))))))))))))))))))))));refine zO (yZ (z0:=(0:Int)) hMI (⟨n.toArray⟩:ByteArray) Xz xg jh rfl rfl fun s1 HI1 hS1=>?_) zK;refine zi (pExt rfl rfl) ?_;refine zO (xQ (v:=((hnd D:Nat):Int)) hS1 rfl rfl rfl fun HI2 hMI2=>?_) zK;refine zO (yZ (z0:=false) hMG ((hnd D:Nat):Int) YK YJ X8 rfl rfl fun s2 HG1 hS2=>?_) zK;refine zi (pExt rfl rfl) ?_;refine zO (xQ (v:=true) hS2 rfl rfl rfl fun HG2 hMG2=>?_) zK;rw[qo] at hMI2 hMG2;have hc1:yV (uE L) (⟨n.toArray⟩:ByteArray) L.length=(L++[(⟨((hnd D:Nat):Int),n,0⟩:Nm)]).length:=by unfold yV; rw[hi0]; simp
   have hc2:yV (WU L) ((hnd D:Nat):Int) L.length=(L++[(⟨((hnd D:Nat):Int),n,0⟩:Nm)]).length:=by unfold yV; rw[ha0]; simp
   rw[hc1, ←hf1] at hMI2;rw[hc2, ←hf2] at hMG2;refine zN (za (z8 (yp (pP rfl) (yp (zQ rfl) (yp (zl rfl) ?_)))));refine zh (zo rfl rfl ?_);refine yp (pI rfl) (yp (pT rfl) ?_);refine zh (fV rfl fun v Hs hLs=>?_);have hLs:Zf 5 v n Hs:=hLs
   skip
   have hg:=Wi D (8+n.length);have hp:ZY (Zc D (8+n.length)) ((hnd D:Nat):Int) 8 (n.length:Nat)=0:=by
    unfold ZY; rw[hg]; exact if_neg (by rw[YE]; omega)
   have hw:VU (Zc D (8+n.length)) ((hnd D:Nat):Int) 8 n=(Zc D (8+n.length)).set (hnd D-1) (some (Ve 0++n)):=by
    unfold VU;rw[if_pos hp,hg];have hidx:(((hnd D:Nat):Int)-1).toNat=hnd D-1:=by have:=wu D; omega
    rw[hidx];refine congrArg (fun z=>(Zc D (8+n.length)).set (hnd D-1) (some z)) ?_;show spl (zeros (8+n.length)) 8 n=Ve 0++n;unfold spl zeros;rw[List.take_replicate,List.drop_replicate,Nat.min_eq_left (by omega),Nat.sub_self,List.replicate_zero,List.append_nil];rfl
   refine zh (zm (kV (S0:=[Hs]) hA1 ((hnd D:Nat):Int) 8 (Y:=n) (hLs.src (by simp)) (by show n.length≤9223372036854775807; omega)) rfl rfl fun r S' h=>?_);obtain⟨rfl,H2,hA2,rfl⟩:=h;rw[hw] at hA2;refine zf (za ?_);refine⟨ib,lb,L++[⟨((hnd D:Nat):Int),n,0⟩],HI2,HG2,H2,_,L.length,⟨((hnd D:Nat):Int),n,0⟩,⟨rfl,rfl,trivial⟩,hMI2,hMG2,hA2,hnew,by simp,(by show 0+1<2 ^ 60; decide),by rw[hEa]; exact he,?_,?_,?_,.of⟩
   ·unfold vP; rw[hb]; rfl
   ·unfold Zw reuse; rw[h1]; simp
   ·have hlen:(Ve 0++n).length=(zeros (8+n.length)).length:=by rw[List.length_append,ZK,YE]
    have hidx:(((hnd D:Nat):Int)-1).toNat=hnd D-1:=by have:=wu D; omega
    have:=Xd (Y:=Ve 0++n) hg hlen;rw[hidx] at this;rw[this]; unfold wH; rw[hb]; rfl
 clear hback hMI hMG;intro E S' ⟨ib,lb,L1,HI1,HG1,H1,D1,j,e,hE,hMI1,hMG1,hA1,hI1,hj,heu,hE0,hea,hre,hsh,hJ⟩;have hem:=List.mem_of_getElem? hj;have hblk:=hI1.blk e hem;obtain⟨E0,e0⟩:=zu hE; subst e0; clear hE;refine zy hJ (zy (zM.re (S1:=[Ws tb ab ib lb,HI1,HG1,H1]) (S2:=[Ws tb ab ib lb++HI1++HG1,H1]) (by simp)) ?_);have hby:yD L1 e.id=some e:=by unfold yD; rw[JB hI1.dis.ids hj]; exact hj
 refine ze (z8 (yp (pP rfl) (yp (pI rfl) (yp (pP rfl) (yp (pI rfl) ?_)))));refine zh (zm (Qq (Tb.mk hMI1 hMG1) hA1 hI1 e.id) rfl rfl fun r S' h=>?_);obtain⟨rfl,rfl⟩:=h;rw[hby];refine VD (zM.re (S1:=[Ws tb ab ib lb++HI1++HG1,H1]) (S2:=[Ws tb ab ib lb,HI1,HG1,H1]) (by simp)) ?_;have heu2:e.u<2 ^ 60:=by omega
 show YL _ _ _ _ _ (Zh _ (.int .i64 (e.u:Int)) _) _;refine yp (Z9 rfl rfl (by omega)) ?_;refine zh (zm (eP (tb:=tb) (ib:=ib) (lb:=lb) hA1 hblk (e.u+1) heu) rfl rfl fun r S' h=>?_);obtain⟨rfl,H2,hA2,rfl⟩:=h;have hlen:(Ve (e.u+1)++e.n).length=(Ve e.u++e.n).length:=by rw[List.length_append,List.length_append,ZK,ZK]
 have hI2:=hI1.reuse hj heu;have hT2:=Tb.reuse (v:=e.u+1) (Tb.mk (tb:=tb) (ab:=ab) hMI1 hMG1) hI1.dis hj;have hs2:=Xd hblk hlen;rw[hre] at hI2 hT2;refine zf (za (ze (z8 (yp (pI rfl) (yp (pI rfl) (yp pC (zf (za (zH ?_)))))))));exact zG (Uz rfl rfl) ⟨[Ws tb ab ib lb++HI1++HG1,H2],zM.re (S1:=[Ws tb ab ib lb,HI1,HG1,H2]) (by simp),.inr ⟨hE0,_,H2,_,by rw[hea],hT2,hA2,hI2,hs2.trans hsh,rfl⟩⟩
def Pos(L:List Nm):Prop:=∀e∈L,1≤e.u
def X4(L:List Nm)(i:Int):Int:=if(yD L i).isSome then 0 else 5
def wN(L:List Nm)(i:Int):List Nm:=match vU i L with
 | some j=>(match L[j]? with | some e=>if e.u=1 then L.eraseIdx j else reuse L j e (e.u-1) | none=>L)
 | none=>L
def WR(D:List (Option Bt))(L:List Nm)(i:Int):List (Option Bt):=match yD L i with
 | some e=>if e.u=1 then wB D i else D
 | none=>D
theorem Yj{D:List (Option Bt)}{i:Int}{b:Bt}(hb:Zb D i=some b):Zb (wB D i) i=none:=by
 obtain⟨j,rfl,hj⟩:=Vh hb;unfold wB;rw[hb,if_pos (show(some b).isSome=true from rfl),ZE,show((j:Int)+1-1).toNat=j from by omega,List.getElem?_set_self (List.getElem?_eq_some_iff.1 hj).1]; rfl
theorem Wo.drop{D:List (Option Bt)}{L:List Nm}{B:List (Int × Bs)}(h:Wo D L B){j:Nat}{e:Nm}(he:L[j]?=some e):Wo (wB D e.id) (L.eraseIdx j) B:=by
 have hb:=h.blk e (List.mem_of_getElem? he);have hself:=Yj hb;refine⟨h.dis.erase j,fun x hx=>?_,fun x hx=>⟨?_,fun y hy=>?_⟩,fun i b hib=>?_,fun x hx=>?_,fun x hx=>?_⟩
 ·obtain⟨h1,h2,_⟩:=WI h.dis he hx;rw[wF h2]; exact h.blk x h1
 ·rw[wF fun h2=>(h.oth x hx).2 e (List.mem_of_getElem? he) h2.symm]; exact(h.oth x hx).1
 ·exact(h.oth x hx).2 y (WI h.dis he hy).1
 ·by_cases h2:i=e.id
  ·rw[h2,hself] at hib; cases hib
  ·rw[wF h2] at hib;rcases h.all i b hib with⟨y,hy,hyi⟩ | hx
   ·exact .inl ⟨y,mem_erase he hy (.inl fun h3=>h2 (hyi.symm.trans h3)),hyi⟩
   ·exact .inr hx
 ·exact h.us x (WI h.dis he hx).1
 ·exact h.fold x (WI h.dis he hx).1
theorem aQ{D:List (Option Bt)}{i:Int}{b Y:Bt}(hb:Zb D i=some b):wB (D.set (i-1).toNat (some Y)) i=wB D i:=by
 have h1:=WM (Y:=Y) hb i;rw[if_pos rfl] at h1;unfold wB;rw[h1,hb,if_pos (show(some Y).isSome=true from rfl),if_pos (show(some b).isSome=true from rfl),List.set_set]
set_option maxRecDepth 10000 in
set_option maxHeartbeats 1000000 in
theorem Qr{tb ab N:Nat}{D:List (Option Bt)}{H:List Chunk}{L:List Nm}{T:List Chunk}{B:List (Int × Bs)}(hT:Tb tb ab L T)(hA:Ar ab N D H)(hI:Wo D L B)(hP:Pos L)(i:Int):
 Tri Tryz.prog 63 #[.pointer (some ⟨tb,0,none⟩),.int .i64 i] [T,H] (fun r S=>r= .int .i64 (X4 L i)∧∃(T' H':List Chunk) (D':List (Option Bt)),Tb tb ab (wN L i) T'∧Ar ab N D' H'∧Wo D' (wN L i) B∧yR D'=yR (WR D L i)∧S=[T',H']):=by
 refine Tri.forget (zB Tryz.Bf (Nat.le_of_ble_eq_true rfl) ?_);unfold Tryz.CO;refine ze (z8 (yp pC (zf (za (ze (z8 (yp (pP rfl) (yp (pI rfl) ?_))))))));refine zh (zm (YN hT hA hI i) rfl rfl fun r S' h=>?_);obtain⟨rfl,rfl⟩:=h;cases hb:yD L i with
 | none=>
  have h1:=yC hb;refine yp (pU rfl) (yp (pExt rfl rfl) (yp (pExt rfl rfl) (yp (pT rfl) (yp (pB rfl) (zf (za (ze (ze (z8 (yp (pB rfl) (yp (Ze rfl) (zf (za (zC rfl (ze (z8 (yp pC (zf (za (zH (zP ?_)))))))))))))))))))));refine zG (rI rfl) ⟨_,.of,by unfold X4; rw[hb]; rfl,T,H,D,?_,hA,?_,?_,rfl⟩
  ·unfold wN; rw[h1]; exact hT
  ·unfold wN; rw[h1]; exact hI
  ·unfold WR; rw[hb]
 | some e=>
  obtain⟨j,h1,h2,rfl⟩:=UN hb;have hem:=List.mem_of_getElem? h2;have hpos:=hP e hem;have hblk:=hI.blk e hem;have hus:=hI.us e hem;have hu1:e.u-1<2 ^ 60:=by omega
  have hlen:(Ve (e.u-1)++e.n).length=(Ve e.u++e.n).length:=by rw[List.length_append,List.length_append,ZK,ZK]
  have hR:X4 L e.id=0:=by unfold X4; rw[hb]; rfl
  have hLd:wN L e.id=if e.u=1 then L.eraseIdx j else reuse L j e (e.u-1):=by unfold wN; rw[h1]; simp only[h2]
  have hDd:WR D L e.id=if e.u=1 then wB D e.id else D:=by unfold WR; rw[hb]
  refine yp (pU rfl) (yp (pExt rfl rfl) (yp (pExt rfl rfl) (yp (pT rfl) (yp (pB rfl) (zf (za (ze (ze (z8 (yp (pB rfl) (yp (Ze rfl) (zf (za (zA rfl (zx (za (ze (z8 (yp (pP rfl) (yp (pI rfl) ?_))))))))))))))))))));refine zh (zm (Qq hT hA hI e.id) rfl rfl fun r S' h=>?_);obtain⟨rfl,rfl⟩:=h;rw[hb];have hT0:=hT;obtain⟨ib,lb,HI,HG,hMI,hMG,rfl⟩:=hT;refine VD (zM.re (S1:=[Ws tb ab ib lb++HI++HG,H]) (S2:=[Ws tb ab ib lb,HI,HG,H]) (by simp)) ?_;show YL _ _ _ _ _ (Zh _ (.int .i64 (e.u:Int)) _) _;refine yp (Wm rfl rfl (by omega)) (yp (pI rfl) (zf (za (ze (z8 (yp (pP rfl) (yp (pI rfl) (yp (pI rfl) ?_))))))));refine zh (zm (eP (tb:=tb) (ib:=ib) (lb:=lb) hA hblk (e.u-1) hu1) rfl rfl fun r S' h=>?_);obtain⟨rfl,H2,hA2,rfl⟩:=h;refine zf (za (ze (ze (z8 (yp (pI rfl) (yp (WA rfl rfl) (zf (za ?_))))))));by_cases hu:e.u=1
  ·rw[if_pos hu] at hLd hDd;rw[decide_eq_true (show((e.u-1:Nat):Int)=0 from by omega)];refine zC rfl (ze (z8 (yp (pP rfl) (yp (zQ rfl) (yp (zl rfl) ?_)))));refine zh (zo rfl rfl ?_);refine yp (pT rfl) ?_;refine zh (eB hMI (⟨e.n.toArray⟩:ByteArray) Xz xg rfl rfl fun HI2 hMI2=>?_);refine zf (za (ze (z8 (yp (pP rfl) (yp (zQ rfl) (yp (zl rfl) ?_))))));refine zh (zo rfl rfl ?_);refine yp (pI rfl) ?_;refine zh (eB hMG e.id YK YJ rfl rfl fun HG2 hMG2=>?_);refine zf (za (z8 (yp (pP rfl) (yp (zQ rfl) (yp (zl rfl) ?_)))));refine zh (zo rfl rfl ?_);refine yp (pI rfl) ?_;refine zh (zm (bF hA2 e.id) rfl rfl fun r S' h=>?_);obtain⟨rfl,H3,hA3,rfl⟩:=h;rw[aQ hblk] at hA3;have hc1:jT (uE L) (⟨e.n.toArray⟩:ByteArray) L.length=(L.eraseIdx j).length:=by
    unfold jT;rw[(Vg hI.dis).2 ⟨e,hem,rfl,rfl⟩,List.length_eraseIdx,if_pos (List.getElem?_eq_some_iff.1 h2).1]; rfl
   have hc2:jT (WU L) e.id L.length=(L.eraseIdx j).length:=by
    unfold jT;rw[WJ.2 ⟨rfl,e,hem,rfl⟩,List.length_eraseIdx,if_pos (List.getElem?_eq_some_iff.1 h2).1]; rfl
   rw[hc1, ←jY hI.dis h2] at hMI2;rw[hc2, ←j4 hI.dis h2] at hMG2;refine zf (za (ze (z8 (yp pC (zf (za (zH ?_)))))));exact zG (rI rfl) ⟨[Ws tb ab ib lb++HI2++HG2,H3],zM.re (S1:=[Ws tb ab ib lb,HI2,HG2,H3]) (by simp),by rw[hR],_,H3,_,hLd▸Tb.mk hMI2 hMG2,hA3,hLd▸hI.drop h2,by rw[hDd],rfl⟩
  ·rw[if_neg hu] at hLd hDd;rw[decide_eq_false (show ¬((e.u-1:Nat):Int)=0 from by omega)];refine zA rfl (zx (za (ze (z8 (yp pC (zf (za (zH ?_))))))));exact zG (rI rfl) ⟨[Ws tb ab ib lb++HI++HG,H2],zM.re (S1:=[Ws tb ab ib lb,HI,HG,H2]) (by simp),by rw[hR],_,H2,_,hLd▸Tb.reuse hT0 hI.dis h2,hA2,hLd▸hI.reuse h2 hu1,by rw[hDd]; exact Xd hblk hlen,rfl⟩
theorem Wo.nil:Wo [] [] []:=⟨⟨List.nodup_nil,List.nodup_nil⟩,fun e he=>by simp at he,fun e he=>by simp at he,fun i b h=>by unfold Zb at h; split at h<;>simp at h,fun e he=>by simp at he,fun e he=>by simp at he⟩
theorem Pos.nil:Pos []:=fun e he=>by simp at he
abbrev Zp(rt rb:Nat)(kv:Value):List Chunk:=[(rt,.cells #[.pointer (some ⟨rb,0,none⟩),kv] 37)]
def yU:Option Nat→Value
 | some i=> .int .i64 (i:Int)
 | none=> .int .i64 (-1)
def Nm.z:Nm:=⟨0,[],0⟩
theorem Qv{rt rb:Nat}{kv:Value}{L:List Nm}{HN:List Chunk}(hL:Zf 171 kv L HN)(hlen:L.length<2 ^ 40)(n:Bs):
 Tri Tryz.prog 112 #[.pointer (some ⟨rt,0,none⟩),sv n] [Zp rt rb kv,HN] (fun r S=>r=yU (vL n L)∧S=[Zp rt rb kv,HN]):=by
 refine Tri.forget (zB Tryz.rM (Nat.le_of_ble_eq_true rfl) ?_);unfold Tryz.x112;obtain⟨a,c,rfl⟩:=hL.isSlice;refine ze (z8 (yp pC (zf (za (ze (ze (z8 (yp pC (zf (za (zw ?_)))))))))));refine Z7 (σ:=Nat) (fun i E S=>Has E [(0,.pointer (some ⟨rt,0,none⟩)),(1,sv n),(5,.int .i64 i)]∧i≤L.length∧(vL n L=(vL n (L.drop i)).map (· +i))∧zM S [Zp rt rb (.slice a L.length c),HN]) (fun i=>L.length-i) 0 ⟨⟨rfl,rfl,rfl,trivial⟩,Nat.zero_le _,by simp,.self⟩ fun i E S ⟨hE,hi,hx,hS⟩=>?_
 obtain⟨E0,e0⟩:=zu hE; subst e0; clear hE;refine zy hS (ze (ze (z8 (yp (pI rfl) (yp (pP rfl) (yp (zQ rfl) (yp (zl rfl) ?_)))))));refine zh (zo rfl rfl ?_);refine yp (Zq rfl) (yp (w9 rfl rfl) (zf (za ?_)));refine zU rfl (fun h=>?_) (fun h=>?_)
 ·have hlt:i<L.length:=by omega
  have hd:L.drop i=L[i]::L.drop (i+1):=List.drop_eq_getElem_cons hlt;obtain⟨b,sp,fz2,hz,rfl,_,rfl,rfl⟩:=hL.at' (by intro h; simp[h] at hlt);have hld:((cells (L++sp)).toArray.toList)[0+i*3+1]?=some (sv L[i].n):=(Zn (kk:=3) (j:=1) hlt rfl (by omega)).trans rfl;generalize L[i]=x at hd hld;refine zx (za (ze (zw (ze (z8 (yp (pP rfl) (yp (zQ rfl) (yp (zl rfl) ?_))))))));refine zh (zo rfl rfl ?_);refine yp (pI rfl) (yp (zT rfl rfl (by omega)) (yp (zl rfl) ?_));refine zh (zo (v:=sv x.n) rfl hld ?_);refine yp (pT rfl) (yp (av rfl rfl) (zf (za ?_)));by_cases hxn:x.n=n
  ·rw[decide_eq_true (show(⟨x.n.toArray⟩:ByteArray)=⟨n.toArray⟩ from by rw[hxn])];refine zC rfl (ze (z8 (yp (pI rfl) (yp (pI rfl) (zf (za (zH (bret (zP (zP (bret (zP ?_))))))))))));exact zG (rI rfl) ⟨_,.of,by rw[hx,hd,vL,if_pos hxn]; simp[yU],rfl⟩
  ·rw[decide_eq_false (show ¬(⟨x.n.toArray⟩:ByteArray)=⟨n.toArray⟩ from fun h=>hxn ((xK _ _).1 h))];refine zA rfl (zx (zY (za (z8 (yp (pI rfl) (yp (Z9 rfl rfl (by omega)) (yp (pI rfl) (zf (za ?_)))))))));refine⟨i+1,⟨⟨rfl,rfl,rfl,trivial⟩,by omega,?_,.of⟩,by omega⟩;rw[hx,hd,vL,if_neg hxn,Option.map_map];congr 1;funext x;simp; omega
 ·refine Z0 (zF (zF (Z4 (za (ze (z8 (yp pC (zf (za (zH ?_))))))))));have:L.drop i=[]:=List.drop_eq_nil_of_le (by omega);exact zG (rI rfl) ⟨_,.of,by rw[hx,this]; rfl,rfl⟩
theorem Ai{rt rb:Nat}{kv:Value}{L:List Nm}{HN:List Chunk}(hL:Zf 171 kv L HN)(hlen:L.length<2 ^ 40)(h:Int):
 Tri Tryz.prog 119 #[.pointer (some ⟨rt,0,none⟩),.int .i64 h] [Zp rt rb kv,HN] (fun r S=>r=yU (vU h L)∧S=[Zp rt rb kv,HN]):=by
 refine Tri.forget (zB Tryz.rA (Nat.le_of_ble_eq_true rfl) ?_);unfold Tryz.mF;obtain⟨a,c,rfl⟩:=hL.isSlice;refine ze (z8 (yp pC (zf (za (ze (ze (z8 (yp pC (zf (za (zw ?_)))))))))));refine Z7 (σ:=Nat) (fun i E S=>Has E [(0,.pointer (some ⟨rt,0,none⟩)),(1,.int .i64 h),(5,.int .i64 i)]∧i≤L.length∧(vU h L=(vU h (L.drop i)).map (· +i))∧zM S [Zp rt rb (.slice a L.length c),HN]) (fun i=>L.length-i) 0 ⟨⟨rfl,rfl,rfl,trivial⟩,Nat.zero_le _,by simp,.self⟩ fun i E S ⟨hE,hi,hx,hS⟩=>?_
 obtain⟨E0,e0⟩:=zu hE; subst e0; clear hE;refine zy hS (ze (ze (z8 (yp (pI rfl) (yp (pP rfl) (yp (zQ rfl) (yp (zl rfl) ?_)))))));refine zh (zo rfl rfl ?_);refine yp (Zq rfl) (yp (w9 rfl rfl) (zf (za ?_)));refine zU rfl (fun h=>?_) (fun h=>?_)
 ·have hlt:i<L.length:=by omega
  have hd:L.drop i=L[i]::L.drop (i+1):=List.drop_eq_getElem_cons hlt;obtain⟨b,sp,fz2,hz,rfl,_,rfl,rfl⟩:=hL.at' (by intro h; simp[h] at hlt);refine zx (za (ze (zw (ze (z8 (yp (pP rfl) (yp (zQ rfl) (yp (zl rfl) ?_))))))));refine zh (zo rfl rfl ?_);refine yp (pI rfl) (yp (zT rfl rfl (by omega)) (yp (zl rfl) ?_));refine zh (zo (v:= .int .i64 L[i].id) rfl ((Zn (kk:=3) (j:=0) hlt rfl (by omega)).trans rfl) ?_);refine yp (pI rfl) (yp (WA rfl rfl) (zf (za ?_)));refine zU rfl (fun h2=>?_) (fun h2=>?_)
  ·refine ze (z8 (yp (pI rfl) (yp (pI rfl) (zf (za (zH (bret (zP (zP (bret (zP ?_)))))))))));exact zG (rI rfl) ⟨_,.of,by rw[hx,hd,vU,if_pos h2]; simp[yU],rfl⟩
  ·refine zx (zY (za (z8 (yp (pI rfl) (yp (Z9 rfl rfl (by omega)) (yp (pI rfl) (zf (za ?_))))))));refine⟨i+1,⟨⟨rfl,rfl,rfl,trivial⟩,by omega,?_,.of⟩,by omega⟩;rw[hx,hd,vU,if_neg h2,Option.map_map];congr 1;funext x;simp; omega
 ·refine Z0 (zF (zF (Z4 (za (ze (z8 (yp pC (zf (za (zH ?_))))))))));have:L.drop i=[]:=List.drop_eq_nil_of_le (by omega);exact zG (rI rfl) ⟨_,.of,by rw[hx,this]; rfl,rfl⟩
/-- a list of names, in one piece -/
def Rt(rt rb:Nat)(L:List Nm)(T:List Chunk):Prop:=∃(kv:Value) (HN:List Chunk),Zf 171 kv L HN∧T=Zp rt rb kv++HN
theorem dh{rt rb:Nat}{L:List Nm}{T:List Chunk}(hR:Rt rt rb L T)(hlen:L.length<2 ^ 30)(Y:Bs)(hY:Y.length<2 ^ 62):
 Tri Tryz.prog 101 #[.pointer (some ⟨rt,0,none⟩),sv Y] [T] (fun r S=>r= .tuple #[.int .i64 (if wO Y then((vB L (zk Y)).map (·.id)).getD 0 else 0),.bool (wO Y && (vB L (zk Y)).isSome)]∧S=[T]):=by
 obtain⟨kv,HN,hL,rfl⟩:=hR;refine Tri.forget (Tri.U9 (zB Tryz.su (Nat.le_of_ble_eq_true rfl) ?_));unfold Tryz.x101;refine ze (z8 (yp pC (yp pC (zf (za (ze (z8 (yp (pP rfl) (yp (pT rfl) ?_)))))))));refine zh (zm (VZ Y hY) rfl rfl fun r S' h=>?_);obtain⟨rfl,rfl⟩:=h;refine zh (zm (Qv (rt:=rt) (rb:=rb) hL (by omega) (zk Y)) rfl rfl fun r S' h=>?_);obtain⟨rfl,rfl⟩:=h;cases hb:vB L (zk Y) with
 | none=>
  rw[wT hb];simp only[yU];refine yp (pI rfl) (zf (za (ze (ze (z8 (yp (pI rfl) (yp (w9 rfl rfl) (yp (pB rfl) (zJ rfl (zJ rfl (zJ rfl (yp (zD rfl rfl) (zf (za (zC rfl (ze (z8 (yp pC (yp pC (zf (za (zH (zP ?_)))))))))))))))))))))));exact zG (jJ rfl rfl) ⟨_,zM.U6,by simp,rfl⟩
 | some e=>
  obtain⟨j,h1,h2,h3⟩:=Ww hb;rw[h1];obtain⟨hj,hje⟩:=List.getElem?_eq_some_iff.1 h2;simp only[yU];refine yp (pI rfl) (zf (za (ze (ze (z8 (yp (pI rfl) (yp (w9 rfl rfl) (yp (pB rfl) (zV rfl (zZ (pT rfl) (zV rfl ?_)))))))))));rw[decide_eq_false (show ¬(j:Int)<0 from by omega)]
  skip
  refine zm (vG Y hY) rfl rfl fun r S' h=>?_
  obtain⟨rfl,rfl⟩:=h;cases hv:wO Y with
  | false=>
   refine zV rfl (zZ (Ze rfl) (yp (zL rfl rfl) (zf (za (zC rfl (ze (z8 (yp pC (yp pC (zf (za (zH (zP ?_)))))))))))));exact zG (jJ rfl rfl) ⟨_,zM.U6,by simp,rfl⟩
  | true=>
   obtain⟨a,c,rfl⟩:=hL.isSlice;obtain⟨b,sp,fz2,hz,rfl,_,rfl,rfl⟩:=hL.at' (by intro h; simp[h] at hj);have hld:((cells (L++sp)).toArray.toList)[0+j*3+0]?=some (.int .i64 e.id):=(Zn (kk:=3) (j:=0) hj rfl (by omega)).trans (by rw[hje]; rfl);refine zV rfl (zZ (Ze rfl) (yp (zL rfl rfl) (zf (za (zA rfl (zx (za (ze (z8 (yp (pP rfl) (yp (zQ rfl) (yp (zl rfl) ?_))))))))))));refine zh (zo rfl rfl ?_);refine yp (pI rfl) (yp (zT rfl rfl (by omega)) (yp (zl rfl) ?_));refine zh (zo (v:= .int .i64 e.id) rfl hld ?_);refine yp (pI rfl) (yp pC (zf (za (zH ?_))));exact zG (jJ rfl rfl) ⟨_,zM.U6,by simp,rfl⟩
theorem gN{rt rb:Nat}{L:List Nm}{T:List Chunk}(hR:Rt rt rb L T)(hlen:L.length<2 ^ 30)(Y:Bs)(hY:Y.length<2 ^ 62):
 Tri Tryz.prog 60 #[.pointer (some ⟨rt,0,none⟩),sv Y] [T] (fun r S=>r= .int .i64 (if(vB L (zk Y)).isSome=true∨wO Y=false then 0 else cost (8+Y.length))∧S=[T]):=by
 refine Tri.forget (zB Tryz.Bj (Nat.le_of_ble_eq_true rfl) ?_);unfold Tryz.CS;refine ze (z8 (yp pC (zf (za (ze (z8 (yp (pP rfl) (yp (pT rfl) ?_))))))));refine zh (zm (dh hR hlen Y hY) rfl rfl fun r S' h=>?_);obtain⟨rfl,rfl⟩:=h;cases hv:wO Y with
 | false=>
  refine yp (pU rfl) (yp (pExt rfl rfl) (yp (pExt rfl rfl) (yp (pI rfl) (yp (pB rfl) (zf (za (ze (ze (z8 (yp (pB rfl) (yp (pB rfl) (zV rfl (zZ (pT rfl) (zV rfl ?_))))))))))))));refine zm (vG Y hY) rfl rfl fun r S' h=>?_
  obtain⟨rfl,rfl⟩:=h;rw[hv];refine zV rfl (zZ (Ze rfl) (yp (zL rfl rfl) (zf (za (zC rfl (ze (z8 (yp pC (zf (za (zH (zP ?_))))))))))));exact zG (rI rfl) ⟨_,.of,by rw[if_pos (.inr rfl)],rfl⟩
 | true=>
  cases hb:(vB L (zk Y)).isSome with
  | true=>
   refine yp (pU rfl) (yp (pExt rfl rfl) (yp (pExt rfl rfl) (yp (pI rfl) (yp (pB rfl) (zf (za (ze (ze (z8 (yp (pB rfl) (yp (pB rfl) (zJ rfl (zJ rfl (zJ rfl (yp (zD rfl rfl) (zf (za (zC rfl (ze (z8 (yp pC (zf (za (zH (zP ?_)))))))))))))))))))))))));exact zG (rI rfl) ⟨_,.of,by rw[if_pos (.inl rfl)],rfl⟩
  | false=>
   refine yp (pU rfl) (yp (pExt rfl rfl) (yp (pExt rfl rfl) (yp (pI rfl) (yp (pB rfl) (zf (za (ze (ze (z8 (yp (pB rfl) (yp (pB rfl) (zV rfl (zZ (pT rfl) (zV rfl ?_))))))))))))));refine zm (vG Y hY) rfl rfl fun r S' h=>?_
   obtain⟨rfl,rfl⟩:=h;rw[hv];refine zV rfl (zZ (Ze rfl) (yp (zL rfl rfl) (zf (za (zA rfl (zx (za (ze (z8 (yp (pT rfl) (yp (ZV rfl) ?_)))))))))));rw[uH];refine yp (vY rfl rfl (by omega)) ?_;refine zh (zm (YW ((Y.length:Int)+8)) rfl rfl fun r S' h=>?_);obtain⟨rfl,rfl⟩:=h;refine yp (pI rfl) (zf (za (zH ?_)));exact zG (rI rfl) ⟨_,.of,by rw[if_neg (by simp),Int.add_comm],rfl⟩
theorem U7.yR{N:Nat}{D D':List (Option Bt)}(h:U7 N D)(hs:yR D=yR D'):U7 N D':=by
 have hl:D.length=D'.length:=by have:=congrArg List.length hs; simpa[Proofs.YtekgciopamkjlaaGreat.yR] using this
 refine⟨by rw[←Qs hs]; exact h.used,h.big,by rw[←hl]; exact h.len,fun i b hb=>?_⟩;have h1:=congrArg (fun l=>l[i]?) hs;simp only[Proofs.YtekgciopamkjlaaGreat.yR,List.getElem?_map,hb,Option.map_some] at h1;cases hd:D[i]? with
 | none=>rw[hd] at h1; cases h1
 | some x=>
  cases x with
  | none=>rw[hd] at h1; cases h1
  | some c=>
   rw[hd] at h1;simp only[Option.map_some,Option.some.injEq] at h1;rw[←h1]; exact h.each i c hd
set_option maxHeartbeats 1000000 in
theorem ni{rt rb N:Nat}{L:List Nm}{T Tm:List Chunk}{D:List (Option Bt)}{S1:zq}(hT:Rt rt rb L T)(hR:Rf rb N D S1 Tm)(hD:U7 N D)(hlen:L.length<2 ^ 30)(hu:∀e∈L,e.u+1<2 ^ 60)(Y:Bs)(hY:Y.length<2 ^ 62):
 Tri Tryz.prog 67 #[.pointer (some ⟨rt,0,none⟩),sv Y] [T,Tm] (fun r S=>
  (wm N D L Y≠0∧r= .tuple #[.int .i64 0,.int .i64 (wm N D L Y)]∧S=[T,Tm])∨
  (wm N D L Y=0∧∃(T' Tm' x:List Chunk),r= .tuple #[.int .i64 (vP D L (zk Y)),.int .i64 0]∧Rt rt rb (Zw D L (zk Y)) T'∧Rf rb N (wH D L (zk Y)) (x::S1) Tm'∧S=[x,T',Tm'])):=by
 obtain⟨kv,HN,hL,rfl⟩:=hT;refine Tri.forget (Tri.U9 (zB Tryz.Ba (Nat.le_of_ble_eq_true rfl) ?_));unfold Tryz.CF;refine ze (z8 (yp pC (yp pC (zf (za (ze (ze (z8 (yp (pT rfl) ?_)))))))));refine zh (zm (vG Y hY) rfl rfl fun r S' h=>?_);obtain⟨rfl,rfl⟩:=h;cases hv:wO Y with
 | false=>
  have hE:wm N D L Y=2:=by unfold wm; rw[if_pos hv]
  refine yp (Ze rfl) (zf (za (zC rfl (ze (z8 (yp pC (yp pC (zf (za (zH (zP ?_)))))))))));exact zG (Uz rfl rfl) ⟨_,zM.U6,.inl ⟨by rw[hE]; decide,by rw[hE],rfl⟩⟩
 | true=>
 have hfl:=wE Y;have h255:=ZQ hv;refine yp (Ze rfl) (zf (za (zA rfl (zx (za (ze (z8 (yp (pT rfl) ?_))))))));refine zh (zm (VZ Y hY) rfl rfl fun r S' h=>?_);obtain⟨rfl,rfl⟩:=h;refine yp (pT rfl) (zf (za (ze (z8 (yp (pP rfl) (yp (pT rfl) ?_))))));refine zh (zm (Qv (rt:=rt) (rb:=rb) hL (by omega) (zk Y)) rfl rfl fun r S' h=>?_);obtain⟨rfl,rfl⟩:=h;obtain⟨a,c,rfl⟩:=hL.isSlice;cases hb:vB L (zk Y) with
 | some e=>
  obtain⟨j,h1,h2,h3⟩:=Ww hb;obtain⟨hj,hje⟩:=List.getElem?_eq_some_iff.1 h2;have hE:wm N D L Y=0:=by unfold wm; rw[if_neg (by rw[hv]; decide),hb]; rfl
  have hue:=hu e (List.mem_of_getElem? h2);rw[h1];simp only[yU];refine yp (pI rfl) (zf (za (ze (ze (z8 (yp (pI rfl) (yp (yO rfl rfl) (zf (za (zC rfl (ze (z8 (yp (pP rfl) ?_)))))))))))));rw[decide_eq_true (show(0:Int)≤(j:Int) from by omega)]
  skip
  refine zh (U2 fun p21=>?_);refine yp (pP rfl) (yp (zQ rfl) (yp (zl rfl) ?_));refine zh (zo rfl rfl ?_);refine zh (Zj (Y:=L) rfl rfl Zf.empty (hL.src (by simp)) rfl Nm.z rfl (by simp; omega) (by simp; omega) fun v2 H2 hL2=>?_);rw[List.nil_append] at hL2;obtain⟨a2,c2,rfl⟩:=hL2.isSlice;refine yp (zQ rfl) (yp (zl rfl) ?_);refine zh (uI rfl rfl (yN rfl) ?_);refine zf (za (ze (z8 (yp (pP rfl) (yp (zQ rfl) (yp (zl rfl) ?_))))));refine zh (zo rfl rfl ?_);refine yp (pI rfl) ?_;obtain⟨b2,sp2,fz2,hz2,hae,_,hce,rfl⟩:=hL2.at' (by intro h; simp[h] at hj);subst hae;have hld2:((cells (L++sp2)).toArray.toList)[0+j*3+2]?=some (.int .i64 (e.u:Int)):=(Zn (kk:=3) (j:=2) hj rfl (by omega)).trans (by rw[hje]; rfl);refine yp (zT rfl rfl (by omega)) (yp (zl rfl) ?_);refine zh (zo (v:= .int .i64 (e.u:Int)) rfl hld2 ?_);refine yp (Z9 rfl rfl (by omega)) (yp (zT rfl rfl (by omega)) (yp (zl rfl) ?_));refine zh (Jc (M:=L++sp2) (i:=j) (j:=2) (y:=(⟨e.id,e.n,e.u+1⟩:Nm)) (x:= .int .i64 ((e.u+1:Nat):Int)) rfl (by simp; omega) rfl (by omega) (U4 rfl) ?_ hz2 ?_)
  ·rw[List.getElem_append_left hj,hje]; rfl
  have hset:=Zf.setAt (ty:=171) (b:=b2) (c:=c2) (y:=(⟨e.id,e.n,e.u+1⟩:Nm)) hz2 hj hce;rw[List.set_append_left _ _ hj] at hset ⊢;have hjL:(L.set j (⟨e.id,e.n,e.u+1⟩:Nm))[j]?=some ⟨e.id,e.n,e.u+1⟩:=List.getElem?_set_self hj;have hjl:j<(L.set j (⟨e.id,e.n,e.u+1⟩:Nm)).length:=by rw[List.length_set]; exact hj
  have hld0:((cells (L.set j (⟨e.id,e.n,e.u+1⟩:Nm)++sp2)).toArray.toList)[0+j*3+0]?=some (.int .i64 e.id):=(Zn (kk:=3) (j:=0) hjl rfl (by omega)).trans (by rw[List.getElem_set_self]; rfl);refine zf (za (ze (z8 (yp (pP rfl) (yp (zQ rfl) (yp (zl rfl) ?_))))));refine zh (zo rfl rfl ?_);refine yp (pI rfl) (yp (zT rfl rfl (by omega)) (yp (zl rfl) ?_));refine zh (zo (v:= .int .i64 e.id) rfl hld0 ?_);refine yp (pI rfl) (yp pC (zf (za (zH (zP ?_)))));have hLa:Zw D L (zk Y)=L.set j ⟨e.id,e.n,e.u+1⟩:=by unfold Zw reuse; rw[h1]; simp only[h2]
  have hIa:vP D L (zk Y)=e.id:=by unfold vP; rw[hb]; rfl
  have hDa:wH D L (zk Y)=D:=by unfold wH; rw[hb]; rfl
  refine zG (Uz rfl rfl) ⟨[[],Zp rt rb (.slice (some ⟨b2,0,none⟩) L.length c2)++[(b2,.cells (cells (L.set j (⟨e.id,e.n,e.u+1⟩:Nm)++sp2)).toArray 171 fz2)],Tm],zM.re (S1:=[Zp rt rb (.slice (some ⟨b2,0,none⟩) L.length c2),[(b2,.cells (cells (L.set j (⟨e.id,e.n,e.u+1⟩:Nm)++sp2)).toArray 171 fz2)],Tm]) (by simp),.inr ⟨hE,_,Tm,[],by rw[hIa],⟨_,_,?_,rfl⟩,?_,rfl⟩⟩
  ·rw[hLa]; exact hset
  ·rw[hDa]; exact hR.mono fun s hs=>List.mem_cons_of_mem _ hs
 | none=>
  rw[wT hb];have hEa:wm N D L Y=Zm N D ((8+(zk Y).length:Nat):Int):=by
   unfold wm; rw[if_neg (by rw[hv]; decide),hb,if_neg (by decide),hfl]; congr 1
  simp only[yU];refine yp (pI rfl) (zf (za (ze (ze (z8 (yp (pI rfl) (yp (yO rfl rfl) (zf (za (zA rfl (zx (za (ze (z8 (yp (pP rfl) (yp (zQ rfl) (yp (zl rfl) ?_)))))))))))))))));refine zh (zo rfl rfl ?_);refine yp (pT rfl) (yp (ZV rfl) ?_);rw[uH];refine yp (vY rfl rfl (by omega)) ?_;rw[show(((zk Y).length:Nat):Int)+8=((8+(zk Y).length:Nat):Int) from by omega];refine zh (zm (Jq hR hD ((8+(zk Y).length:Nat):Int)) rfl rfl fun r S' h=>?_);rcases h with⟨he,rfl,rfl⟩ | ⟨he,m,Tm2,x,hm,rfl,hR2,rfl⟩
  ·rw[←hEa] at he ⊢;refine yp (pU rfl) (yp (pExt rfl rfl) (yp (pExt rfl rfl) (yp (pI rfl) (yp (pI rfl) (zf (za (ze (ze (z8 (yp (pI rfl) (yp (uW rfl rfl) (zf (za ?_)))))))))))));refine Vr rfl (fun _=>?_) (fun h2=>absurd h2 he);refine ze (z8 (yp (pI rfl) (yp pC (yp (pI rfl) (zf (za (zH (zP ?_))))))));exact zG (Uz rfl rfl) ⟨[Zp rt rb (.slice a L.length c)++HN,Tm],zM.re (S1:=[Zp rt rb (.slice a L.length c),HN,Tm]) (by simp),.inl ⟨he,rfl,rfl⟩⟩
  obtain rfl:m=8+(zk Y).length:=by omega
  refine yp (pU rfl) (yp (pExt rfl rfl) (yp (pExt rfl rfl) (yp (pI rfl) (yp (pI rfl) (zf (za (ze (ze (z8 (yp (pI rfl) (yp (uW rfl rfl) (zf (za (zA rfl (zx (za (ze (z8 (yp (pP rfl) ?_)))))))))))))))))));refine zh (U2 fun p63=>?_);refine yp (pP rfl) (yp (zQ rfl) (yp (zl rfl) ?_));refine zh (zo rfl rfl ?_);refine zh (Zj (Y:=L) rfl rfl Zf.empty (hL.src (by simp)) rfl Nm.z rfl (by simp; omega) (by simp; omega) fun v2 H2 hL2=>?_);rw[List.nil_append] at hL2;obtain⟨a2,c2,rfl⟩:=hL2.isSlice;refine yp (pI rfl) (yp (pT rfl) (yp (JA (U4 rfl) (gH rfl) (U4 rfl)) ?_));refine zh (Zu (⟨((hnd D:Nat):Int),zk Y,1⟩:Nm) rfl rfl (by decide) (by decide) rfl fun p72=>?_);refine zh (Zj (Y:=[(⟨((hnd D:Nat):Int),zk Y,1⟩:Nm)]) rfl rfl hL2 (.lit (by repeat (first | exact List.mem_cons_self | apply List.mem_cons_of_mem)) rfl) rfl Nm.z rfl (by simp; omega) (by simp; omega) fun v3 H3 hL3=>?_);obtain⟨a3,c3,rfl⟩:=hL3.isSlice;refine yp (zQ rfl) (yp (zl rfl) ?_);refine zh (uI rfl rfl (yN rfl) ?_);refine zf (za (ze (z8 (yp (pI rfl) (yp (pI rfl) (yp pC (zf (za (zH ?_)))))))));have hLa:Zw D L (zk Y)=L++[⟨((hnd D:Nat):Int),zk Y,1⟩]:=by unfold Zw; rw[wT hb]
  have hIa:vP D L (zk Y)=((hnd D:Nat):Int):=by unfold vP; rw[hb]; rfl
  have hDa:wH D L (zk Y)=Zc D (8+(zk Y).length):=by unfold wH; rw[hb]; rfl
  refine zG (Uz rfl rfl) ⟨[x,Zp rt rb (.slice a3 (L++[(⟨((hnd D:Nat):Int),zk Y,1⟩:Nm)]).length c3)++H3,Tm2],zM.re (S1:=[x,Zp rt rb (.slice a3 (L++[(⟨((hnd D:Nat):Int),zk Y,1⟩:Nm)]).length c3),H3,Tm2]) (by simp),.inr ⟨by rw[hEa]; exact he,_,Tm2,x,by rw[hIa],⟨_,H3,?_,rfl⟩,?_,rfl⟩⟩
  ·rw[hLa]; exact hL3
  ·rw[hDa]; exact hR2
theorem KQ{L sp:List Nm}{i:Nat}(hi:i<L.length):ZH (cells (L++sp)).toArray.toList (i*3) (cells (L.drop (i+1)))=cells (L.eraseIdx i++((L++sp).drop (L.length-1))):=by
 have h1:i+(L.drop (i+1)).length≤(L++sp).length:=by simp; omega
 have h2:=WO (L++sp) i (L.drop (i+1)) h1;show ZH (cells (L++sp)) (i*3) (cells (L.drop (i+1)))=_;rw[show(3:Nat)=Enc.k Nm from rfl,h2];congr 1;rw[List.eraseIdx_eq_take_drop_succ,List.take_append_of_le_length (by omega),List.append_assoc,List.append_assoc];congr 3;simp; omega
set_option maxHeartbeats 1000000 in
theorem gL{rt rb N:Nat}{L:List Nm}{T Tm:List Chunk}{D:List (Option Bt)}{S1:zq}(hT:Rt rt rb L T)(hR:Rf rb N D S1 Tm)(hD:U7 N D)(hlen:L.length<2 ^ 30)(hu:∀e∈L,1≤e.u∧e.u<2 ^ 60)(i:Int):
 Tri Tryz.prog 72 #[.pointer (some ⟨rt,0,none⟩),.int .i64 i] [T,Tm] (fun r S=>r= .int .i64 (X4 L i)∧∃(T' Tm':List Chunk),Rt rt rb (wN L i) T'∧Rf rb N (WR D L i) S1 Tm'∧S=[T',Tm']):=by
 obtain⟨kv,HN,hL,rfl⟩:=hT;refine Tri.forget (Tri.U9 (zB Tryz.AV (Nat.le_of_ble_eq_true rfl) ?_));unfold Tryz.Cx;refine ze (z8 (yp pC (zf (za (ze (z8 (yp (pP rfl) (yp (pI rfl) ?_))))))));refine zh (zm (Ai (rt:=rt) (rb:=rb) hL (by omega) i) rfl rfl fun r S' h=>?_);obtain⟨rfl,rfl⟩:=h;cases hb:yD L i with
 | none=>
  have h1:=yC hb;rw[h1];simp only[yU];refine yp (pI rfl) (zf (za (ze (ze (z8 (yp (pI rfl) (yp (w9 rfl rfl) (zf (za (zC rfl (ze (z8 (yp pC (zf (za (zH (zP ?_)))))))))))))))));refine zG (rI rfl) ⟨_,zM.U6,by unfold X4; rw[hb]; rfl,_,Tm,⟨kv,HN,?_,rfl⟩,?_,rfl⟩
  ·unfold wN; rw[h1]; exact hL
  ·unfold WR; rw[hb]; exact hR
 | some e=>
  obtain⟨j,h1,h2,rfl⟩:=UN hb;obtain⟨hj,hje⟩:=List.getElem?_eq_some_iff.1 h2;have hue:=hu e (List.mem_of_getElem? h2);have hRr:X4 L e.id=0:=by unfold X4; rw[hb]; rfl
  have hLd:wN L e.id=if e.u=1 then L.eraseIdx j else reuse L j e (e.u-1):=by unfold wN; rw[h1]; simp only[h2]
  have hDd:WR D L e.id=if e.u=1 then wB D e.id else D:=by unfold WR; rw[hb]
  rw[h1];simp only[yU];obtain⟨a,c,rfl⟩:=hL.isSlice;refine yp (pI rfl) (zf (za (ze (ze (z8 (yp (pI rfl) (yp (w9 rfl rfl) (zf (za (zA rfl (zx (za (ze (z8 (yp (pP rfl) ?_)))))))))))))));rw[decide_eq_false (show ¬(j:Int)<0 from by omega)]
  skip
  refine zh (U2 fun p12=>?_);refine yp (pP rfl) (yp (zQ rfl) (yp (zl rfl) ?_));refine zh (zo rfl rfl ?_);refine zh (Zj (Y:=L) rfl rfl Zf.empty (hL.src (by simp)) rfl Nm.z rfl (by simp; omega) (by simp; omega) fun v2 H2 hL2=>?_);rw[List.nil_append] at hL2;obtain⟨a2,c2,rfl⟩:=hL2.isSlice;refine yp (zQ rfl) (yp (zl rfl) ?_);refine zh (uI rfl rfl (yN rfl) ?_);refine zf (za (ze (z8 (yp (pP rfl) (yp (zQ rfl) (yp (zl rfl) ?_))))));refine zh (zo rfl rfl ?_);refine yp (pI rfl) ?_;obtain⟨b2,sp2,fz2,hz2,hae,_,hce,rfl⟩:=hL2.at' (by intro h; simp[h] at hj);subst hae;have hld2:((cells (L++sp2)).toArray.toList)[0+j*3+2]?=some (.int .i64 (e.u:Int)):=(Zn (kk:=3) (j:=2) hj rfl (by omega)).trans (by rw[hje]; rfl);refine yp (zT rfl rfl (by omega)) (yp (zl rfl) ?_);refine zh (zo (v:= .int .i64 (e.u:Int)) rfl hld2 ?_);refine yp (Wm rfl rfl (by omega)) (yp (zT rfl rfl (by omega)) (yp (zl rfl) ?_));refine zh (Jc (M:=L++sp2) (i:=j) (j:=2) (y:=(⟨e.id,e.n,e.u-1⟩:Nm)) (x:= .int .i64 ((e.u-1:Nat):Int)) rfl (by simp; omega) rfl (by omega) (U4 rfl) ?_ hz2 ?_)
  ·rw[List.getElem_append_left hj,hje]; rfl
  have hset:=Zf.setAt (ty:=171) (b:=b2) (c:=c2) (y:=(⟨e.id,e.n,e.u-1⟩:Nm)) hz2 hj hce;rw[List.set_append_left _ _ hj] at hset ⊢;have hLl:(L.set j (⟨e.id,e.n,e.u-1⟩:Nm)).length=L.length:=List.length_set;have hjl:j<(L.set j (⟨e.id,e.n,e.u-1⟩:Nm)).length:=by rw[hLl]; exact hj
  have hld3:((cells (L.set j (⟨e.id,e.n,e.u-1⟩:Nm)++sp2)).toArray.toList)[0+j*3+2]?=some (.int .i64 ((e.u-1:Nat):Int)):=(Zn (kk:=3) (j:=2) hjl rfl (by omega)).trans (by rw[List.getElem_set_self]; rfl);refine zf (za (ze (ze (z8 (yp (pP rfl) (yp (zQ rfl) (yp (zl rfl) ?_)))))));refine zh (zo rfl rfl ?_);refine yp (pI rfl) (yp (zT rfl rfl (by omega)) (yp (zl rfl) ?_));refine zh (zo (v:= .int .i64 ((e.u-1:Nat):Int)) rfl hld3 ?_);refine yp (WA rfl rfl) (zf (za ?_));by_cases hu1:e.u=1
  ·rw[if_pos hu1] at hLd hDd;rw[decide_eq_true (show((e.u-1:Nat):Int)=0 from by omega)];refine zC rfl (ze (z8 (yp (pP rfl) (yp (zQ rfl) (yp (zl rfl) ?_)))));refine zh (zo rfl rfl ?_);refine yp (pI rfl) ?_;refine zh (zm (QI hR hD e.id) rfl rfl fun r S' h=>?_);obtain⟨rfl,Tm2,hR2,rfl⟩:=h;generalize hM:L.set j (⟨e.id,e.n,e.u-1⟩:Nm)=M at hLl hjl;have hME:M.eraseIdx j=L.eraseIdx j:=by
    rw[←hM];refine List.ext_getElem? fun q=>?_
    rw[List.getElem?_eraseIdx,List.getElem?_eraseIdx];split
    ·rw[List.getElem?_set_ne (by omega)]
    ·rw[List.getElem?_set_ne (by omega)]
   rw[←hLl] at hce ⊢;subst hce;refine zf (za ?_);refine vR (R:=[Zp rt rb (.slice (some ⟨b2,0,none⟩) M.length (M.length+sp2.length))]) (by simp) (zi (pP rfl) (zi (pP rfl) (zi (zQ rfl) (zi (zl rfl) (Zd rfl rfl (zi (pI rfl) (zi (Jy (j:=j) rfl rfl (by omega)) (zi (pP rfl) (zi (zQ rfl) (zi (zl rfl) (Zd rfl rfl (zi (pI rfl) (zi (Z9 rfl rfl (by omega)) (zi (kE (j:=j+1) rfl rfl (by omega)) ?_))))))))))))));refine zO (bO (Y:=M.drop (j+1)) rfl rfl (Src.tail (b:=b2) (ty:=171) (fz:=fz2) (L:=M) (sp:=sp2) (j:=j+1) (by simp) rfl (by omega)) rfl (by simp; omega) ?_ ?_ ?_) zK
   ·show(j+(M.drop (j+1)).length)*3≤(cells (M++sp2)).length;rw[zW,List.length_append,List.length_drop];show _≤(M.length+sp2.length)*3;omega
   ·rw[zW,List.length_append] at hz2;show xP fz2 (cells (M++sp2)).length;rw[zW,List.length_append,hLl]; exact hz2
   have hec:=KQ (L:=M) (sp:=sp2) hjl;rw[show Enc.k Nm=3 from rfl,hec,show j+(M.drop (j+1)).length=(M.eraseIdx j).length from by rw[List.length_drop,List.length_eraseIdx,if_pos hjl]; omega];refine zi (zQ rfl) (zi (zl rfl) ?_);refine zO (uI rfl rfl (yN rfl) ?_) zK;refine zN (za (ze (z8 (yp pC (zf (za (zH ?_)))))));have hrow:=Zf.row (ty:=171) (b:=b2) (L:=M.eraseIdx j) (sp:=(M++sp2).drop (M.length-1)) (fz:=fz2) (by
    rw[zW,List.length_append,List.length_eraseIdx,if_pos hjl,List.length_drop,List.length_append];rw[zW,List.length_append, ←hLl] at hz2;rw[show M.length-1+(M.length+sp2.length-(M.length-1))=M.length+sp2.length from by omega]; exact hz2)
   rw[show(M.eraseIdx j).length+((M++sp2).drop (M.length-1)).length=M.length+sp2.length from by rw[List.length_eraseIdx,if_pos hjl,List.length_drop,List.length_append]; omega] at hrow;refine zG (rI rfl) ⟨[Zp rt rb (.slice (some ⟨b2,0,none⟩) (M.eraseIdx j).length (M.length+sp2.length))++[(b2,.cells (cells (M.eraseIdx j++(M++sp2).drop (M.length-1))).toArray 171 fz2)],Tm2],zM.re (S1:=[Zp rt rb (.slice (some ⟨b2,0,none⟩) (M.eraseIdx j).length (M.length+sp2.length)),[(b2,.cells (cells (M.eraseIdx j++(M++sp2).drop (M.length-1))).toArray 171 fz2)],Tm2]) (by simp),by rw[hRr],_,Tm2,⟨_,_,?_,rfl⟩,?_,rfl⟩
   ·rw[hLd, ←hME]; exact hrow
   ·rw[hDd]; exact hR2
  ·rw[if_neg hu1] at hLd hDd;rw[decide_eq_false (show ¬((e.u-1:Nat):Int)=0 from by omega)];refine zA rfl (zx (za (ze (z8 (yp pC (zf (za (zH ?_))))))));refine zG (rI rfl) ⟨[Zp rt rb (.slice (some ⟨b2,0,none⟩) L.length c2)++[(b2,.cells (cells (L.set j (⟨e.id,e.n,e.u-1⟩:Nm)++sp2)).toArray 171 fz2)],Tm],zM.re (S1:=[Zp rt rb (.slice (some ⟨b2,0,none⟩) L.length c2),[(b2,.cells (cells (L.set j (⟨e.id,e.n,e.u-1⟩:Nm)++sp2)).toArray 171 fz2)],Tm]) (by simp),by rw[hRr],_,Tm,⟨_,_,?_,rfl⟩,?_,rfl⟩
   ·rw[hLd]; exact hset
   ·rw[hDd]; exact hR
theorem J3{L:List Nm}{e:Nm}(he:e∈L):(vB L e.n).isSome=true:=by
 cases hb:vB L e.n with
 | some x=>rfl
 | none=>exact absurd rfl (Vb (wT hb) e he)
theorem J8{D:List (Option Bt)}{L:List Nm}{n:Bs}{k:Nat}(h:∀e∈L,e.u≤k):∀e∈Zw D L n,e.u≤k+1:=fun e he=>by
 cases hb:vB L n with
 | some x=>
  obtain⟨j,h1,h2,rfl⟩:=Ww hb;have:Zw D L x.n=reuse L j x (x.u+1):=by unfold Zw; rw[h1]; simp only[h2]
  rw[this] at he;unfold reuse at he;rcases List.mem_or_eq_of_mem_set he with he | rfl
  ·have:=h e he; omega
  ·have:=h x (List.mem_of_getElem? h2); show x.u+1≤k+1; omega
 | none=>
  have:Zw D L n=L++[⟨((hnd D:Nat):Int),n,1⟩]:=by unfold Zw; rw[wT hb]
  rw[this] at he;rcases List.mem_append.1 he with he | he
  ·have:=h e he; omega
  ·rw[List.mem_singleton.1 he]; show 1≤k+1; omega
theorem bI{D:List (Option Bt)}{L:List Nm}{n:Bs}(h:Pos L):Pos (Zw D L n):=fun e he=>by
 cases hb:vB L n with
 | some x=>
  obtain⟨j,h1,h2,rfl⟩:=Ww hb;have:Zw D L x.n=reuse L j x (x.u+1):=by unfold Zw; rw[h1]; simp only[h2]
  rw[this] at he;unfold reuse at he;rcases List.mem_or_eq_of_mem_set he with he | rfl
  ·exact h e he
  ·show 1≤x.u+1; omega
 | none=>
  have:Zw D L n=L++[⟨((hnd D:Nat):Int),n,1⟩]:=by unfold Zw; rw[wT hb]
  rw[this] at he;rcases List.mem_append.1 he with he | he
  ·exact h e he
  ·rw[List.mem_singleton.1 he]; exact Nat.le_refl _
theorem Ym{L:List Nm}{i:Int}(h:Pos L):Pos (wN L i):=fun e he=>by
 unfold wN at he;split at he
 ·split at he
  ·next x hx=>
   split at he
   ·exact h e ((List.eraseIdx_sublist _ _).subset he)
   ·next hu=>
    unfold reuse at he;rcases List.mem_or_eq_of_mem_set he with he | rfl
    ·exact h e he
    ·have:=h x (List.mem_of_getElem? hx); show 1≤x.u-1; omega
  ·exact h e he
 ·exact h e he
theorem dS{L:List Nm}{i:Int}{k:Nat}(h:∀e∈L,e.u≤k):∀e∈wN L i,e.u≤k:=fun e he=>by
 unfold wN at he;split at he
 ·split at he
  ·next x hx=>
   split at he
   ·exact h e ((List.eraseIdx_sublist _ _).subset he)
   ·unfold reuse at he;rcases List.mem_or_eq_of_mem_set he with he | rfl
    ·exact h e he
    ·have:=h x (List.mem_of_getElem? hx); show x.u-1≤k; omega
  ·exact h e he
 ·exact h e he
theorem Yn{L:List Nm}{i:Int}:(wN L i).length≤L.length:=by
 unfold wN;split
 ·split
  ·split
   ·rw[List.length_eraseIdx]; split<;>omega
   ·unfold reuse; rw[List.length_set]; exact Nat.le_refl _
  ·exact Nat.le_refl _
 ·exact Nat.le_refl _
theorem j5{D:List (Option Bt)}{L:List Nm}{n:Bs}:(Zw D L n).length≤L.length+1:=by
 unfold Zw;split
 ·split
  ·unfold reuse; rw[List.length_set]; omega
  ·omega
 ·simp
end Go.Proofs.YtekgciopamkjlaaGreat
