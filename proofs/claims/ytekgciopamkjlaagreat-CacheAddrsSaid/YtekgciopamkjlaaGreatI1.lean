/- The table of names (chapter 7): contracts of its functions. The table of names (chapter 7): uses, names, Add and Drop. The table of names (chapter 7): Add and Drop. The table of names (chapter 7): what Add does. The table of names (chapter 7): Drop; awake. The table of names (chapter 7): Add, once more. The table of names (chapter 7), beside the document's: what Add and Drop leave. -/
import Derived.Test.YtekgciopamkjlaaGreatN1
import Derived.Test.YtekgciopamkjlaaGreatFIntern
namespace Go.Proofs.YtekgciopamkjlaaGreat
open Go.Xs
open Enc (enc)
theorem kY:Tryz.prog.underlying 123=some (.map 9 3):=by kernel_rfl
theorem kZ:Tryz.prog.underlying 124=some (.map 3 4):=by kernel_rfl
theorem xS:Tryz.prog.underlying 9=some .string:=by kernel_rfl
theorem kX:Tryz.prog.underlying 3=some (.int .i64):=by kernel_rfl
theorem Jz:(Tryz.prog.info? 3).bind (·.zero)=some (.int .i64 0):=by kernel_rfl
theorem Xv:(Tryz.prog.info? 4).bind (·.zero)=some (.bool false):=by kernel_rfl
abbrev Wo(tb ab ib lb:Nat):List Chunk:=[(tb,.cells #[.pointer (some ⟨ab,0,none⟩),.map (some ib),.map (some lb)] 126)]
/-- the table, as one piece of memory -/
def Tb(tb ab:Nat)(L:List Nm)(T:List Chunk):Prop:=
 ∃(ib lb:Nat) (HI HG:List Chunk),Mp ib (uO L) L.length HI∧Mp lb (WV L) L.length HG∧T=Wo tb ab ib lb++HI++HG
/-- the names stand in the arena, and blocks of others; nothing else does -/
structure vC(D:List (Option Bt))(L:List Nm)(B:List (Int × Bs)):Prop where
 dis:xL L
 blk:∀e∈L,Zl D e.id=some (Vi e.u++e.n)
 oth:∀x∈B,Zl D x.1=some x.2∧∀e∈L,e.id≠x.1
 all:∀i b,Zl D i=some b→(∃e∈L,e.id=i)∨∃x∈B,x.1=i
 us:∀e∈L,e.u<2 ^ 60
 fold:∀e∈L,WR e.n=true∧zC e.n=e.n
theorem K4{tb ab ib lb:Nat}:Tri Tryz.prog 69 #[.pointer (some ⟨tb,0,none⟩)] [Wo tb ab ib lb] (fun r S=>r= .bool false∧S=[Wo tb ab ib lb]):=by
 refine Tri.forget (zn Tryz.MU (Nat.le_of_ble_eq_true rfl) ?_);unfold Tryz.O4;refine ze (z8 (yp pC (zf (za (ze (z8 (yp (pP rfl) (yp (wJ rfl rfl) (yp (pB rfl) (Z0 rfl (Zc (pP rfl) (Z0 rfl (Zc (zS rfl) (Z0 rfl (Zc (zx rfl) (Z0 rfl ?_))))))))))))))));refine(zF rfl rfl ?_);refine Z0 rfl (Zc (wJ rfl rfl) (yp (zU rfl rfl) (yp (pB rfl) (zf (za (zL ?_))))));exact zK (rB rfl) ⟨_,.of,rfl,rfl⟩
theorem Tb.mk{tb ab ib lb:Nat}{L:List Nm}{HI HG:List Chunk}(h1:Mp ib (uO L) L.length HI)(h2:Mp lb (WV L) L.length HG):Tb tb ab L (Wo tb ab ib lb++HI++HG):=⟨ib,lb,HI,HG,h1,h2,rfl⟩
theorem Ep{ab:Nat}:Tri Tryz.prog 49 #[.pointer (some ⟨ab,0,none⟩)] [] (fun r S=>∃tb T,r= .pointer (some ⟨tb,0,none⟩)∧Tb tb ab [] T∧S=[T]):=by
 refine Tri.forget (zn Tryz.Ng (Nat.le_of_ble_eq_true rfl) ?_);unfold Tryz.Oh;refine ze (z8 (yp pC (zf (za (ze (z8 (yp (pP rfl) ?_)))))));refine zh (kS ByteArray Int fun ib HI hI=>?_);refine zh (kS Int Bool fun lb HG hG=>?_);refine yp (QH (jI rfl) (Ox rfl) (Ox rfl)) ?_;refine zh (Zv rfl fun p7=>?_);refine yp (pP rfl) (zf (za (zL ?_)));exact zK (rP rfl) ⟨[Wo p7 ab ib lb++HI++HG],zG.vX,p7,_,rfl,Tb.mk (L:=[]) hI hG,rfl⟩
/-- the one of these letters -/
def Vn(L:List Nm)(n:Bs):Option Nm:=(VF n L).bind fun j=>L[j]?
def Yd(L:List Nm)(i:Int):Option Nm:=(VU i L).bind fun j=>L[j]?
theorem Aq{tb ab:Nat}{L:List Nm}{T:List Chunk}(hT:Tb tb ab L T)(Y:Bs)(hY:Y.length<2 ^ 62):Tri Tryz.prog 100 #[.pointer (some ⟨tb,0,none⟩),sv Y] [T]
 (fun r S=>r= .tuple #[.int .i64 (((Vn L (zC Y)).map (·.id)).getD 0),.bool (Vn L (zC Y)).isSome]∧S=[T]):=by
 obtain⟨ib,lb,HI,HG,hI,hG,rfl⟩:=hT;refine Tri.Vg (Tri.forget (zn Tryz.Io (Nat.le_of_ble_eq_true rfl) ?_));unfold Tryz.Ej;refine ze (z8 (yp pC (yp pC (zf (za (ze (ze (z8 (yp (pP rfl) ?_)))))))));refine zh (zk (K4 (tb:=tb) (ab:=ab) (ib:=ib) (lb:=lb)) rfl rfl fun r S' h=>?_);obtain⟨rfl,rfl⟩:=h;refine zf (za (zw rfl (zq (za (ze (zY (zi (pP rfl) (zi (zS rfl) (zi (zx rfl) (Zd rfl rfl (zi (pT rfl) ?_)))))))))));refine Zm (zk (Kz Y hY) rfl rfl fun r S' h=>?_) zM;obtain⟨rfl,rfl⟩:=h;refine⟨by simp,?_⟩;have hid:uO L ⟨(zC Y).toArray⟩=(Vn L (zC Y)).map (·.id):=by
  unfold uO Vn;cases VF (zC Y) L<;>rfl
 refine zH (dB (v:= .int .i64 (((Vn L (zC Y)).map (·.id)).getD 0)) (bl:=(Vn L (zC Y)).isSome) hI (by simp) (⟨(zC Y).toArray⟩:ByteArray) kY xS Jz rfl rfl ?_ ?_ ?_) zM
 ·rw[hid]; cases Vn L (zC Y)<;>rfl
 ·rw[hid]; cases Vn L (zC Y)<;>rfl
 refine zi (pU rfl) (zi (pExt rfl rfl) (zi (pExt rfl rfl) (zi (pI rfl) (zi (pB rfl) (zD (za (ze (z8 (yp (pI rfl) (yp (pB rfl) (yp (pI rfl) (yp (pB rfl) (zf (za (zL ?_)))))))))))))));exact zK (fU rfl rfl) ⟨_,zG.vX,rfl,rfl⟩
theorem Au{tb ab:Nat}{L:List Nm}{T:List Chunk}(hT:Tb tb ab L T)(Y:Bs)(hY:Y.length<2 ^ 62):Tri Tryz.prog 56 #[.pointer (some ⟨tb,0,none⟩),sv Y] [T]
 (fun r S=>r= .int .i64 (if(Vn L (zC Y)).isSome=true∨WR Y=false then 0 else cost (8+Y.length))∧S=[T]):=by
 refine Tri.forget (zn Tryz.N8 (Nat.le_of_ble_eq_true rfl) ?_);unfold Tryz.Oa;refine ze (z8 (yp pC (zf (za (ze (ze (z8 (yp (pP rfl) (yp (pT rfl) ?_)))))))));refine zh (zk (Aq hT Y hY) rfl rfl fun r S' h=>?_);obtain⟨rfl,rfl⟩:=h;cases hb:(Vn L (zC Y)).isSome with
 | true=>
  refine yp (pU rfl) (yp (pExt rfl rfl) (yp (pExt rfl rfl) (yp (pI rfl) (yp (pB rfl) (zf (za (ze (z8 (yp (pB rfl) (yp (pB rfl) (Z5 rfl (Z5 rfl (Z5 rfl (yp (zP rfl rfl) (zf (za (zI rfl (ze (z8 (yp pC (zf (za (zL (zX ?_))))))))))))))))))))))));exact zK (rI rfl) ⟨_,.of,by rw[if_pos (.inl rfl)],rfl⟩
 | false=>
  refine yp (pU rfl) (yp (pExt rfl rfl) (yp (pExt rfl rfl) (yp (pI rfl) (yp (pB rfl) (zf (za (ze (z8 (yp (pB rfl) (yp (pB rfl) (Z0 rfl (Zc (pT rfl) (Z0 rfl ?_)))))))))))));refine zk (uy Y hY) rfl rfl fun r S' h=>?_
  obtain⟨rfl,rfl⟩:=h;cases hv:WR Y with
  | false=>
   refine Z0 rfl (Zc (Ze rfl) (yp (zU rfl rfl) (zf (za (zI rfl (ze (z8 (yp pC (zf (za (zL (zX ?_))))))))))));exact zK (rI rfl) ⟨_,.of,by rw[if_pos (.inr rfl)],rfl⟩
  | true=>
   refine Z0 rfl (Zc (Ze rfl) (yp (zU rfl rfl) (zf (za (zw rfl (zq (za (ze (z8 (yp (pT rfl) (yp (uU rfl) ?_)))))))))));rw[Qm];refine yp (Vo rfl rfl (by omega)) ?_;refine zh (zk (Xc (8+(Y.length:Int))) rfl rfl fun r S' h=>?_);obtain⟨rfl,rfl⟩:=h;refine yp (pI rfl) (zf (za (zL ?_)));exact zK (rI rfl) ⟨_,.of,by rw[if_neg (by simp)],rfl⟩
theorem sJ{E:Env}{x y:Operand}{a s:Nat}(h1:ev E x= .int .i64 (a:Int))(h2:ev E y= .int .i64 (s:Int))(hs:s≤64)(h:a*2 ^ s<2 ^ 63):zu (ev E) (.bin .shl x y)=some (.int .i64 ((a*2 ^ s:Nat):Int)):=by
 have hm:Nat.min ((s:Int).toNat) IntKind.i64.bits=s:=by show Nat.min s 64=s; exact Nat.min_eq_left hs
 have e:(a:Int)*2 ^ s=((a*2 ^ s:Nat):Int):=by push_cast; rfl
 simp only[zu,h1,h2,Wy,WW,hm,e];rw[wrap_i64 (by have:((a*2 ^ s:Nat):Int)<((2 ^ 63:Nat):Int):=Int.ofNat_lt.2 h; omega)];simp
theorem gP{E:Env}{x y:Operand}{a b:Nat}(h1:ev E x= .int .i64 (a:Int))(h2:ev E y= .int .i64 (b:Int))(h:(a ||| b)<2 ^ 63)(ha:a<2 ^ 63)(hb:b<2 ^ 63):zu (ev E) (.bin .or x y)=some (.int .i64 ((a ||| b:Nat):Int)):=by
 have e:uL .or .i64 (a:Int) (b:Int)=((a ||| b:Nat):Int):=by
  unfold uL;simp only;have e1:(BitVec.ofInt IntKind.i64.bits (a:Int) ||| BitVec.ofInt IntKind.i64.bits (b:Int)).toNat=a ||| b:=by
   show(BitVec.ofInt 64 (a:Int) ||| BitVec.ofInt 64 (b:Int)).toNat=a ||| b;rw[BitVec.toNat_or,BitVec.toNat_ofInt,BitVec.toNat_ofInt];congr 1
   ·omega
   ·omega
  rw[e1,wrap_i64 (by omega)]
 simp[zu,h1,h2,Wy,WW,e]
theorem gW{a b i:Nat}(h:a<2 ^ i):a ||| (b*2 ^ i)=a+b*2 ^ i:=by
 rw[Nat.or_comm,Nat.mul_comm b, ←Nat.two_pow_add_eq_or_of_lt h b,Nat.add_comm]
theorem yX{L:List Nm}{i:Int}{e:Nm}(h:Yd L i=some e):∃j,VU i L=some j∧L[j]?=some e∧e.id=i:=by
 unfold Yd at h;cases hx:VU i L with
 | none=>rw[hx] at h; cases h
 | some j=>
  obtain⟨e',h1,h2⟩:=Ua hx;rw[hx] at h;simp only[Option.bind_some,h1] at h;obtain rfl:=Option.some.inj h;exact⟨j,rfl,h1,h2⟩
theorem Jh{L:List Nm}{i:Int}(h:Yd L i=none):VU i L=none:=by
 unfold Yd at h;cases hx:VU i L with
 | none=>rfl
 | some j=>
  obtain⟨e',h1,h2⟩:=Ua hx;rw[hx] at h;simp only[Option.bind_some,h1] at h;cases h
theorem kI(L:List Nm)(i:Int):((WV L i).map Vv.vv).getD (.bool false)= .bool (Yd L i).isSome:=by
 cases hb:Yd L i with
 | none=>unfold WV; rw[Jh hb]; rfl
 | some e=>obtain⟨j,h1,_,_⟩:=yX hb; unfold WV; rw[h1]; rfl
theorem KS{L:List Nm}{i:Int}{e:Nm}(h:Yd L i=some e):e∈L∧e.id=i:=by
 obtain⟨j,_,h2,h3⟩:=yX h;exact⟨List.mem_of_getElem? h2,h3⟩
/-- the first eight bytes of a name's block, the others -/
theorem bS{D:List (Option Bt)}{i:Int}{u:Nat}{n:Bs}(h:Zl D i=some (Vi u++n)):ZV D i 0 8=0∧UU D i 0 8=Vi u:=by
 have hl:(Vi u++n).length=8+n.length:=by rw[List.length_append,ZK]
 have hp:ZV D i 0 8=0:=by unfold ZV; rw[h]; exact if_neg (by omega)
 refine⟨hp,?_⟩;unfold UU;rw[if_pos hp,h];show((Vi u++n).drop 0).take 8=Vi u;rw[List.drop_zero, ←ZK u,List.take_left]
theorem bR{D:List (Option Bt)}{i:Int}{u:Nat}{n:Bs}(h:Zl D i=some (Vi u++n)):ZV D i 8 (n.length:Int)=0∧UU D i 8 (n.length:Int)=n:=by
 have hl:(Vi u++n).length=8+n.length:=by rw[List.length_append,ZK]
 have hp:ZV D i 8 (n.length:Int)=0:=by unfold ZV; rw[h]; exact if_neg (by omega)
 refine⟨hp,?_⟩;unfold UU;rw[if_pos hp,h];show((Vi u++n).drop 8).take (n.length:Int).toNat=n;have:(Vi u++n).drop 8=n:=by
  have:=List.drop_left (l₁:=Vi u) (l₂:=n);rw[ZK] at this; exact this
 rw[this,Int.toNat_natCast,List.take_length]
theorem eH{tb ab N:Nat}{D:List (Option Bt)}{H:List Chunk}{L:List Nm}{T:List Chunk}{B:List (Int × Bs)}(hT:Tb tb ab L T)(hA:Ar ab N D H)(hI:vC D L B)(i:Int):Tri Tryz.prog 103 #[.pointer (some ⟨tb,0,none⟩),.int .i64 i] [T,H]
 (fun r S=>r= .int .i64 (((Yd L i).map (·.u)).getD 0:Nat)∧S=[T,H]):=by
 obtain⟨ib,lb,HI,HG,hMI,hMG,rfl⟩:=hT;refine Tri.forget (Tri.perm (S:=[Wo tb ab ib lb,HI,HG,H]) (by simp) (zn Tryz.Il (Nat.le_of_ble_eq_true rfl) ?_));unfold Tryz.Ei;have hback:∀{S':zB},zG S' [Wo tb ab ib lb,HI,HG,H]→zG S' [Wo tb ab ib lb++HI++HG,H]:=fun h=>h.trans ⟨[],by simp⟩
 refine ze (z8 (yp pC (zf (za (ze (ze (z8 (yp (pP rfl) ?_))))))));refine zh (zk (K4 (tb:=tb) (ab:=ab) (ib:=ib) (lb:=lb)) rfl rfl fun r S' h=>?_);obtain⟨rfl,rfl⟩:=h;refine yp (pB rfl) (Z0 rfl (Zc (pP rfl) (Z0 rfl (Zc (zS rfl) (Z0 rfl (Zc (zx rfl) (Z0 rfl ?_)))))));refine(zF rfl rfl ?_);refine Z0 rfl (Zc (pI rfl) (Z0 rfl (uh hMG (by simp) i kZ kX Xv rfl rfl (kI L i) ?_)));cases hb:Yd L i with
 | none=>
  refine Z0 rfl (Zc (Ze rfl) (yp (zU rfl rfl) (zf (za (zI rfl (ze (z8 (yp pC (zf (za (zL (zX ?_))))))))))));exact zK (rI rfl) ⟨_,hback .of,rfl,rfl⟩
 | some e=>
  obtain⟨hem,rfl⟩:=KS hb;have hblk:=hI.blk e hem;have hu:=hI.us e hem;obtain⟨hp8,hr8⟩:=bS hblk;refine Z0 rfl (Zc (Ze rfl) (yp (zU rfl rfl) (zf (za (zw rfl (zq (za (ze (z8 (yp (pP rfl) (yp (zS rfl) (yp (zx rfl) ?_))))))))))));refine zh (zF rfl rfl ?_);refine yp (pI rfl) ?_;refine zh (zk (qX hA e.id 0 8) rfl rfl fun r S' h=>?_);obtain⟨v,Ho,rfl,hLo,rfl⟩:=h;rw[hp8];rw[hr8] at hLo;obtain⟨va,vc,rfl⟩:=hLo.isSlice;have hl8:=ZK e.u;rw[hl8] at hLo;rw[hl8];refine yp (pU rfl) (yp (pExt rfl rfl) (yp (pExt rfl rfl) (yp (pS rfl) (yp (pI rfl) (zf (za (ze (z8 (yp pC (zf (za (ze (ze (z8 (yp (pS rfl) (yp (Zz rfl) (yp pC (zf (za (zo ?_))))))))))))))))))));refine Z4 (σ:=Nat) (fun k E S=>Has E [(7,.int .i64 ((e.u%2 ^ (8*k):Nat):Int)),(30,.slice va 8 vc),(31,.int .i64 8),(32,.int .i64 (k:Int))]∧k≤8∧zG S [Ho,Wo tb ab ib lb,HI,HG,H]) (fun k=>8-k) 0 ⟨⟨by rw[Nat.mul_zero,Nat.pow_zero,Nat.mod_one]; rfl,rfl,rfl,rfl,trivial⟩,Nat.zero_le _,.of⟩ fun k E S ⟨hE,hk,hJ⟩=>?_
  obtain⟨E0,e0⟩:=zl hE; subst e0; clear hE;refine zm hJ (ze (z8 (yp (ZL rfl rfl) (zf (za (ze ?_))))));refine zO rfl (fun h=>?_) (fun h=>?_)
  ·have hlt:k<8:=by omega
   have hg:=QM e.u k hlt;have hkl:k<(Vi e.u).length:=by omega
   obtain⟨b,sp,fz,hz,hae,_,hce,rfl⟩:=hLo.at' (by intro h; rw[h] at hl8; simp at hl8);subst hae;have hld:((cells (Vi e.u++sp)).toArray.toList)[0+k*1+0]?=some (.int .u8 ((UInt8.ofNat (e.u/2 ^ (8*k))).toNat:Int)):=(wH (kk:=1) (j:=0) hkl rfl (by omega)).trans (by rw[List.getElem?_eq_getElem hkl] at hg; rw[Option.some.inj hg]; rfl);have hby:(UInt8.ofNat (e.u/2 ^ (8*k))).toNat=e.u/2 ^ (8*k)%256:=by simp
   have hmod:e.u%2 ^ (8*(k+1))=e.u%2 ^ (8*k)+e.u/2 ^ (8*k)%256*2 ^ (8*k):=by
    have e1:2 ^ (8*(k+1))=2 ^ (8*k)*256:=by rw[show 8*(k+1)=8*k+8 from by omega,Nat.pow_add]
    rw[e1,Nat.mod_mul,Nat.mul_comm (e.u/2 ^ (8*k)%256)]
   have hsm:e.u%2 ^ (8*(k+1))<2 ^ 60:=Nat.lt_of_le_of_lt (Nat.mod_le _ _) hu;have hlt2:e.u%2 ^ (8*k)<2 ^ (8*k):=Nat.mod_lt _ (Nat.pow_pos (by decide));have hor:=gW (b:=e.u/2 ^ (8*k)%256) hlt2;rw[←hmod] at hor;have hpr:e.u/2 ^ (8*k)%256*2 ^ (8*k)≤e.u%2 ^ (8*(k+1)):=by rw[hmod]; exact Nat.le_add_left _ _
   have hpl:e.u%2 ^ (8*k)≤e.u%2 ^ (8*(k+1)):=by rw[hmod]; exact Nat.le_add_right _ _
   refine zq (za (ze (zo (ze (z8 (yp (pI rfl) (yp (zN rfl rfl (by omega)) ?_)))))));refine zh (zF (v:= .int .u8 ((UInt8.ofNat (e.u/2 ^ (8*k))).toNat:Int)) rfl hld ?_);refine yp (pI rfl) (yp (pI rfl) (zf (za (z8 (yp (pI rfl) (yp (pI rfl) (yp (jS rfl) ?_)))))));rw[hby];refine yp (pI rfl) (yp (Vh (j:=8) (k:=k) rfl rfl (by omega)) (yp (sJ rfl rfl (by omega) (by omega)) (yp (gP rfl rfl (by rw[hor]; omega) (by omega) (by omega)) ?_)));rw[hor];refine yp (pI rfl) (zf (zT (za (z8 (yp (Za rfl rfl (by omega)) (yp (pI rfl) (zf (za ?_))))))));exact⟨k+1,⟨⟨rfl,rfl,rfl,rfl,trivial⟩,by omega,.of⟩,by omega⟩
  ·have hk8:k=8:=by omega
   subst hk8;have hmodu:e.u%2 ^ (8*8)=e.u:=Nat.mod_eq_of_lt (by omega);rw[hmodu];refine zV (zy (zy (zW (za (ze (z8 (yp (pI rfl) (yp (pI rfl) (zf (za (zL ?_)))))))))));exact zK (rI rfl) ⟨_,hback .of,rfl,rfl⟩
theorem JG{tb ab N:Nat}{D:List (Option Bt)}{H:List Chunk}{L:List Nm}{T:List Chunk}{B:List (Int × Bs)}(hT:Tb tb ab L T)(hA:Ar ab N D H)(hI:vC D L B)(i:Int):Tri Tryz.prog 109 #[.pointer (some ⟨tb,0,none⟩),.int .i64 i] [T,H]
 (fun r S=>r= .tuple #[sv (((Yd L i).map (·.n)).getD []),.bool (Yd L i).isSome]∧S=[T,H]):=by
 obtain⟨ib,lb,HI,HG,hMI,hMG,rfl⟩:=hT;refine Tri.forget (Tri.perm (S:=[Wo tb ab ib lb,HI,HG,H]) (by simp) (zn Tryz.Ig (Nat.le_of_ble_eq_true rfl) ?_));unfold Tryz.Ec;have hback:∀{S':zB},zG S' [Wo tb ab ib lb,HI,HG,H]→zG S' [Wo tb ab ib lb++HI++HG,H]:=fun h=>h.trans ⟨[],by simp⟩
 refine ze (z8 (yp pC (yp pC (zf (za (ze (ze (z8 (yp (pP rfl) ?_)))))))));refine zh (zk (K4 (tb:=tb) (ab:=ab) (ib:=ib) (lb:=lb)) rfl rfl fun r S' h=>?_);obtain⟨rfl,rfl⟩:=h;refine yp (pB rfl) (Z0 rfl (Zc (pP rfl) (Z0 rfl (Zc (zS rfl) (Z0 rfl (Zc (zx rfl) (Z0 rfl ?_)))))));refine(zF rfl rfl ?_);refine Z0 rfl (Zc (pI rfl) (Z0 rfl (uh hMG (by simp) i kZ kX Xv rfl rfl (kI L i) ?_)));have rTB:∀{E:Env} {S:zB} {t u:Tmp} {s:ByteArray} {b:Bool},E t= .string s→E u= .bool b→Xo Tryz.prog #[.tmp t,.tmp u] E S (.tuple #[.string s,.bool b]):=fun h1 h2=>res2 h1 h2
 cases hb:Yd L i with
 | none=>
  refine Z0 rfl (Zc (Ze rfl) (yp (zU rfl rfl) (zf (za (zI rfl (ze (z8 (yp pC (yp pC (zf (za (zL (zX ?_)))))))))))));exact zK (rTB rfl rfl) ⟨_,hback .of,rfl,rfl⟩
 | some e=>
  obtain⟨hem,rfl⟩:=KS hb;have hblk:=hI.blk e hem;have hnl:=(hA.ok).each;obtain⟨hpn,hrn⟩:=bR hblk;have hsz:y5 D e.id=(((8+e.n.length:Nat):Int),true):=by
   unfold y5; rw[hblk]; simp only; rw[List.length_append,ZK]
  obtain⟨q,_,hq⟩:=u6 hblk;have h4:=hnl q _ hq;rw[List.length_append,ZK] at h4;refine Z0 rfl (Zc (Ze rfl) (yp (zU rfl rfl) (zf (za (zw rfl (zq (za (ze (z8 (yp (pP rfl) (yp (zS rfl) (yp (zx rfl) ?_))))))))))));refine zh (zF rfl rfl ?_);refine yp (pI rfl) ?_;refine zh (zk (lZ hA e.id) rfl rfl fun r S' h=>?_);obtain⟨rfl,rfl⟩:=h;rw[hsz];refine yp (pU rfl) (yp (pExt rfl rfl) (yp (pExt rfl rfl) (yp (pI rfl) (yp (pB rfl) (zf (za (ze (z8 (yp (pP rfl) (yp (zS rfl) (yp (zx rfl) ?_)))))))))));refine zh (zF rfl rfl ?_);refine yp (pI rfl) (yp (pI rfl) (yp (Zt rfl rfl (by omega)) ?_));rw[show((8+e.n.length:Nat):Int)-8=(e.n.length:Int) from by omega];refine zh (zk (qX hA e.id 8 (e.n.length:Int)) rfl rfl fun r S' h=>?_);obtain⟨v,Ho,rfl,hLo,rfl⟩:=h;rw[hpn];rw[hrn] at hLo;obtain⟨va,vc,rfl⟩:=hLo.isSlice;refine yp (pU rfl) (yp (pExt rfl rfl) (yp (pExt rfl rfl) (yp (pS rfl) (yp (pI rfl) (zf (za (ze (z8 (yp (pS rfl) ?_)))))))));refine zh (aM rfl (hLo.src (by simp)) ?_);refine yp (pI rfl) (yp (WB rfl rfl) (yp (pT rfl) (yp (pB rfl) (zf (za (zL ?_))))));exact zK (rTB rfl rfl) ⟨_,hback .of,rfl,rfl⟩
theorem jQ{E:Env}{x y:Operand}{a s:Nat}(h1:ev E x= .int .i64 (a:Int))(h2:ev E y= .int .i64 (s:Int))(hs:s≤64):zu (ev E) (.bin .shr x y)=some (.int .i64 ((a/2 ^ s:Nat):Int)):=by
 rw[gK h1 h2 (by omega)];have hm:Nat.min ((s:Int).toNat) IntKind.i64.bits=s:=by show Nat.min s 64=s; exact Nat.min_eq_left hs
 rw[hm,Int.fdiv_eq_ediv_of_nonneg _ (by exact Int.pow_nonneg (by decide))];congr 2
theorem ET{E:Env}{x:Operand}{a:Nat}(h1:ev E x= .int .i64 (a:Int)):zu (ev E) (.conv .u8 x)=some (.int .u8 ((UInt8.ofNat a).toNat:Int)):=by
 rw[BI h1,XY];have:(UInt8.ofNat a).toNat=a%256:=by simp
 rw[this]; congr 2
def Y0(n k:Nat):Bs:=(Vi n).take k++List.replicate (8-k) 0
theorem Jl{n k:Nat}(h:k≤8):(Y0 n k).length=8:=by simp[Y0,ZK]; omega
theorem lX(n:Nat):Y0 n 8=Vi n:=by
 unfold Y0;rw[List.take_of_length_le (by rw[ZK]; exact Nat.le_refl _)]; simp
theorem lW{n k:Nat}(h:k<8):(Y0 n k).set k (UInt8.ofNat (n/2 ^ (8*k)))=Y0 n (k+1):=by
 refine List.ext_getElem? fun j=>?_
 have hg:=QM n k h;have hl:=ZK n;have hget:∀k j,k≤8→(Y0 n k)[j]?=if j<k then(Vi n)[j]? else if j<8 then some 0 else none:=fun k j hk=>by
  unfold Y0;rw[List.getElem?_append,List.length_take,hl,Nat.min_eq_left hk,List.getElem?_take,List.getElem?_replicate];by_cases h1:j<k
  ·rw[if_pos h1,if_pos h1,if_pos h1]
  ·rw[if_neg h1,if_neg h1];by_cases h2:j<8
   ·rw[if_pos h2,if_pos (by omega)]
   ·rw[if_neg h2,if_neg (by omega)]
 rw[List.getElem?_set,hget _ _ (by omega),hget _ _ (by omega),Jl (by omega)];by_cases hj:k=j
 ·subst hj;rw[if_pos rfl,if_pos h,if_pos (by omega),hg]
 ·rw[if_neg hj];by_cases h1:j<k
  ·rw[if_pos h1,if_pos (by omega)]
  ·rw[if_neg h1,if_neg (show ¬j<k+1 from by omega)]
theorem qW{D:List (Option Bt)}{i:Int}{u v:Nat}{n:Bs}(h:Zl D i=some (Vi u++n)):ZV D i 0 ((Vi v).length:Nat)=0∧um D i 0 (Vi v)=D.set (i-1).toNat (some (Vi v++n)):=by
 have hl:(Vi u++n).length=8+n.length:=by rw[List.length_append,ZK]
 have hl8:=ZK v;have hp:ZV D i 0 ((Vi v).length:Nat)=0:=by unfold ZV; rw[h]; exact if_neg (by omega)
 refine⟨hp,?_⟩;unfold um;rw[if_pos hp,h];refine congrArg (fun z=>D.set (i-1).toNat (some z)) ?_;show spl (Vi u++n) 0 (Vi v)=_;unfold spl;have:(Vi u++n).drop 8=n:=by
  have:=List.drop_left (l₁:=Vi u) (l₂:=n);rw[ZK] at this; exact this
 rw[List.take_zero,hl8,Nat.zero_add,this]; rfl
set_option maxRecDepth 10000 in
theorem rZ{tb ab ib lb N:Nat}{D:List (Option Bt)}{H:List Chunk}(hA:Ar ab N D H){i:Int}{u:Nat}{n:Bs}(hb:Zl D i=some (Vi u++n))(v:Nat)(_hv:v<2 ^ 60):Tri Tryz.prog 102 #[.pointer (some ⟨tb,0,none⟩),.int .i64 i,.int .i64 (v:Int)] [Wo tb ab ib lb,H]
 (fun r S=>r= .tuple #[]∧∃H',Ar ab N (D.set (i-1).toNat (some (Vi v++n))) H'∧S=[Wo tb ab ib lb,H']):=by
 refine Tri.forget (zn Tryz.Im (Nat.le_of_ble_eq_true rfl) ?_);unfold Tryz.x102;have hz8:([.int .u8 0,.int .u8 0,.int .u8 0,.int .u8 0,.int .u8 0,.int .u8 0,.int .u8 0,.int .u8 0]:List Value)=cells (Y0 v 0):=rfl;rw[hz8];refine ze (z8 ?_);refine zh (Z8 fun p6=>?_);refine zf (za (ze (ze (z8 (yp pC (zf (za (zo ?_))))))));refine Z4 (σ:=Nat) (fun k E S=>Has E [(0,.pointer (some ⟨tb,0,none⟩)),(1,.int .i64 i),(2,.int .i64 (v:Int)),(6,.pointer (some ⟨p6,0,none⟩)),(8,.int .i64 (k:Int))]∧k≤8∧zG S [[(p6,.cells (cells (Y0 v k)).toArray 203)],Wo tb ab ib lb,H]) (fun k=>8-k) 0 ⟨⟨rfl,rfl,rfl,rfl,rfl,trivial⟩,Nat.zero_le _,.of⟩ fun k E S ⟨hE,hk,hJ⟩=>?_
 have hal:=Jl (n:=v) hk;obtain⟨E0,e0⟩:=zl hE; subst e0; clear hE;refine zm hJ (ze (z8 (yp (ZL rfl rfl) (zf (za (ze ?_))))));refine zO rfl (fun h=>?_) (fun h=>?_)
 ·have hlt:k<8:=by omega
  refine zq (za (ze (zo (ze (z8 (yp (pI rfl) (yp (pI rfl) (zf (za (z8 (yp (pI rfl) (yp (pI rfl) (yp (pI rfl) (yp (Vh (j:=8) (k:=k) rfl rfl (by omega)) (yp (jQ rfl rfl (by omega)) (yp (ET rfl) (yp (OD (k:=(k:Int)) rfl rfl (by omega)) ?_)))))))))))))))));rw[Int.toNat_natCast];refine zh (Z7 (M:=Y0 v k) (i:=k) (y:=UInt8.ofNat (v/2 ^ (8*k))) rfl (by omega) rfl rfl (.inl rfl) ?_);rw[lW hlt];refine zf (zT (za (z8 (yp (Za rfl rfl (by omega)) (yp (pI rfl) (zf (za ?_)))))));exact⟨k+1,⟨⟨rfl,rfl,rfl,rfl,rfl,trivial⟩,by omega,.of⟩,by omega⟩
 ·have hk8:k=8:=by omega
  subst hk8;rw[lX];obtain⟨hp,hw⟩:=qW (v:=v) hb;refine zV (zy (zy (zW (za (zY (zi (pP rfl) (zi (zS rfl) (zi (zx rfl) (Zd rfl rfl (zi (pI rfl) (zi (v:= .slice (some ⟨p6,0,none⟩) 8 8) rfl ?_)))))))))));refine zH (zk (KX (S0:=[[(p6,.cells (cells (Vi v)).toArray 203)]]) hA i 0 (Y:=Vi v) (.Ms List.mem_cons_self (ZK v).symm) (by rw[ZK]; decide)) rfl rfl fun r S' h=>?_) zM;obtain⟨rfl,H2,hA2,rfl⟩:=h;rw[hw] at hA2;refine zD ?_;exact ZF ZG ⟨_,.of,rfl,H2,hA2,rfl⟩
/-- which blocks there are, and how big -/
def d9(D:List (Option Bt)):List (Option Nat):=D.map (Option.map List.length)
theorem XA{D:List (Option Bt)}{h:Int}{b Y:Bt}(hg:Zl D h=some b)(hl:Y.length=b.length):d9 (D.set (h-1).toNat (some Y))=d9 D:=by
 obtain⟨j,rfl,hj⟩:=u6 hg;rw[show((j:Int)+1-1).toNat=j from by omega];unfold d9;refine List.ext_getElem? fun i=>?_
 rw[List.getElem?_map,List.getElem?_map,List.getElem?_set];split
 ·next h=>subst h; rw[if_pos (List.getElem?_eq_some_iff.1 hj).1,hj]; simp[hl]
 ·rfl
/-! ### small letters once and again -/
theorem oH(b:UInt8):low (low b)=low b:=by
 unfold low;by_cases h:65≤b.toNat∧b.toNat≤90
 ·rw[if_pos h];have:(UInt8.ofNat (b.toNat+32)).toNat=(b.toNat+32)%256:=by simp
  rw[if_neg (by rw[this]; omega)]
 ·rw[if_neg h,if_neg h]
theorem QN:∀(f:Nat) (Y:Bs) (a:Nat),Xr f (Y.map low) a=Xr f Y a
 | 0,_,_=>rfl
 | f+1,Y,a=>by
  unfold Xr;rw[List.getElem?_map];cases hy:Y[a]? with
  | none=>rfl
  | some b=>
   simp only[Option.map_some];have hlow:(low b).toNat=b.toNat∨(63<(low b).toNat∧63<b.toNat):=by
    unfold low;by_cases h:65≤b.toNat∧b.toNat≤90
    ·rw[if_pos h];have:(UInt8.ofNat (b.toNat+32)).toNat=(b.toNat+32)%256:=by simp
     right; omega
    ·rw[if_neg h]; exact .inl rfl
   by_cases h1:255≤a
   ·rw[if_pos h1,if_pos h1]
   ·rw[if_neg h1,if_neg h1];rcases hlow with h | ⟨h2,h3⟩
    ·rw[h,QN f Y]
    ·rw[if_neg (show ¬(low b).toNat=0 from by omega),if_pos h2,if_neg (show ¬b.toNat=0 from by omega),if_pos h3]
theorem Qj(Y:Bs):WR (Y.map low)=WR Y:=by
 unfold WR lead;rw[QN,List.length_map]
theorem VN(Y:Bs):WR (zC Y)=WR Y:=by
 unfold zC;split
 ·exact Qj Y
 ·rfl
theorem X6(Y:Bs):zC (zC Y)=zC Y:=by
 unfold zC;by_cases h:WR Y=true
 ·rw[if_pos h,if_pos (by rw[Qj]; exact h),List.map_map];exact List.map_congr_left fun b _=>oH b
 ·rw[if_neg h,if_neg h]
/-! ### Add -/
def WO(N:Nat)(D:List (Option Bt))(L:List Nm)(Y:Bs):Int:=if WR Y=false then 2 else if(Vn L (zC Y)).isSome then 0 else ZI N D (8+(Y.length:Int))
def ZN(D:List (Option Bt))(L:List Nm)(n:Bs):List Nm:=match VF n L with
 | some j=>(match L[j]? with | some e=>reuse L j e (e.u+1) | none=>L)
 | none=>L++[⟨((hnd D:Nat):Int),n,1⟩]
def U3(D:List (Option Bt))(L:List Nm)(n:Bs):Int:=((Vn L n).map (·.id)).getD ((hnd D:Nat):Int)
def WQ(D:List (Option Bt))(L:List Nm)(n:Bs):List (Option Bt):=if(Vn L n).isSome then D else ZJ D (8+n.length)
theorem vO{L:List Nm}{n:Bs}{e:Nm}(h:Vn L n=some e):∃j,VF n L=some j∧L[j]?=some e∧e.n=n:=by
 unfold Vn at h;cases hx:VF n L with
 | none=>rw[hx] at h; cases h
 | some j=>
  obtain⟨e',h1,h2⟩:=x8 hx;rw[hx] at h;simp only[Option.bind_some,h1] at h;obtain rfl:=Option.some.inj h;exact⟨j,rfl,h1,h2⟩
theorem WM{L:List Nm}{n:Bs}(h:Vn L n=none):VF n L=none:=by
 unfold Vn at h;cases hx:VF n L with
 | none=>rfl
 | some j=>
  obtain⟨e',h1,h2⟩:=x8 hx;rw[hx] at h;simp only[Option.bind_some,h1] at h;cases h
/-- a name's uses change, in the arena and in the list -/
theorem vC.reuse{D:List (Option Bt)}{L:List Nm}{B:List (Int × Bs)}(h:vC D L B){j:Nat}{e:Nm}{v:Nat}(he:L[j]?=some e)(hv:v<2 ^ 60):vC (D.set (e.id-1).toNat (some (Vi v++e.n))) (reuse L j e v) B:=by
 have hem:=List.mem_of_getElem? he;have hb:=h.blk e hem;refine⟨h.dis.reuse he,fun x hx=>?_,fun x hx=>⟨?_,fun y hy=>?_⟩,fun i b hib=>?_,fun x hx=>?_,fun x hx=>?_⟩
 ·rw[WJ hb];obtain⟨i,hi⟩:=List.mem_iff_getElem?.1 hx;unfold Proofs.YtekgciopamkjlaaGreat.reuse at hi;rw[List.getElem?_set] at hi;split at hi
  ·next hij=>
   subst hij;rw[if_pos (List.getElem?_eq_some_iff.1 he).1] at hi;obtain rfl:=(Option.some.inj hi).symm;rw[if_pos rfl]
  ·next hij=>
   have hne:x.id≠e.id:=fun h2=>by
    have h3:(L.map (·.id))[i]?=some e.id:=by rw[List.getElem?_map,hi,Option.map_some,h2]
    have h4:(L.map (·.id))[j]?=some e.id:=by rw[List.getElem?_map,he,Option.map_some]
    exact hij ((List.getElem?_inj (List.getElem?_eq_some_iff.1 h3).1 h.dis.ids).1 (h3.trans h4.symm)).symm
   rw[if_neg hne];exact h.blk x (List.mem_of_getElem? hi)
 ·rw[WJ hb,if_neg fun h2=>(h.oth x hx).2 e hem h2.symm]; exact(h.oth x hx).1
 ·obtain⟨z,hz,h2,_⟩:=VX he hy;rw[←h2]; exact(h.oth x hx).2 z hz
 ·rw[WJ hb] at hib;have hin:∀y∈L,y.id=i→∃x∈Proofs.YtekgciopamkjlaaGreat.reuse L j e v,x.id=i:=fun y hy hyi=>by
   obtain⟨x,hx,h2,_⟩:=WX (u:=v) he hy;exact⟨x,hx,h2.trans hyi⟩
  by_cases h2:i=e.id
  ·exact .inl (hin e hem h2.symm)
  ·rw[if_neg h2] at hib;rcases h.all i b hib with⟨y,hy,hyi⟩ | hx
   ·exact .inl (hin y hy hyi)
   ·exact .inr hx
 ·unfold Proofs.YtekgciopamkjlaaGreat.reuse at hx;rcases List.mem_or_eq_of_mem_set hx with hx | rfl
  ·exact h.us x hx
  ·exact hv
 ·obtain⟨y,hy,_,h2⟩:=VX he hx;rw[←h2]; exact h.fold y hy
/-- a new name, not yet used -/
theorem vC.new{D:List (Option Bt)}{L:List Nm}{B:List (Int × Bs)}(h:vC D L B){n:Bs}(hn:VF n L=none)(hv:WR n=true)(hf:zC n=n):
 vC ((ZJ D (8+n.length)).set (hnd D-1) (some (Vi 0++n))) (L++[⟨((hnd D:Nat):Int),n,0⟩]) B:=by
 have hno:Zl D ((hnd D:Nat):Int)=none:=by
  have:=vL D;have hp:=wR D;rw[show((hnd D:Nat):Int)=((hnd D-1:Nat):Int)+1 from by omega,ZH]; exact this
 have hid:∀x∈L,x.id≠((hnd D:Nat):Int):=fun x hx e=>by
  have:=h.blk x hx;rw[e,hno] at this; cases this
 have hg:=W9 D (8+n.length);have hidx:(((hnd D:Nat):Int)-1).toNat=hnd D-1:=by have:=wR D; omega
 have hset:=fun k=>WJ (Y:=Vi 0++n) hg k
 rw[hidx] at hset;refine⟨h.dis.add hid (Va hn),fun x hx=>?_,fun x hx=>?_,fun i b hib=>?_,fun x hx=>?_,fun x hx=>?_⟩
 ·rw[hset];rcases List.mem_append.1 hx with hx | hx
  ·rw[if_neg (hid x hx),ZB (hid x hx)]; exact h.blk x hx
  ·rw[List.mem_singleton.1 hx,if_pos rfl]
 ·obtain⟨h1,h2⟩:=h.oth x hx;have hne:x.1≠((hnd D:Nat):Int):=fun e=>by rw[e,hno] at h1; cases h1
  refine⟨?_,fun e he=>?_⟩
  ·rw[hset,if_neg hne,ZB hne]; exact h1
  ·rcases List.mem_append.1 he with he | he
   ·exact h2 e he
   ·rw[List.mem_singleton.1 he]; exact fun h3=>hne h3.symm
 ·rw[hset] at hib;by_cases h2:i=((hnd D:Nat):Int)
  ·exact .inl ⟨⟨((hnd D:Nat):Int),n,0⟩,by simp,h2.symm⟩
  ·rw[if_neg h2,ZB h2] at hib;rcases h.all i b hib with⟨y,hy,hyi⟩ | hx
   ·exact .inl ⟨y,List.mem_append.2 (.inl hy),hyi⟩
   ·exact .inr hx
 ·rcases List.mem_append.1 hx with hx | hx
  ·exact h.us x hx
  ·rw[List.mem_singleton.1 hx]; exact Nat.pow_pos (by decide)
 ·rcases List.mem_append.1 hx with hx | hx
  ·exact h.fold x hx
  ·rw[List.mem_singleton.1 hx]; exact⟨hv,hf⟩
theorem Tb.reuse{tb ab:Nat}{L:List Nm}{T:List Chunk}(h:Tb tb ab L T)(hd:xL L){j:Nat}{e:Nm}{v:Nat}(he:L[j]?=some e):Tb tb ab (reuse L j e v) T:=by
 obtain⟨ib,lb,HI,HG,h1,h2,rfl⟩:=h;refine⟨ib,lb,HI,HG,?_,?_,rfl⟩
 ·rw[qo hd he]; unfold Proofs.YtekgciopamkjlaaGreat.reuse; rw[List.length_set]; exact h1
 ·rw[Jq he]; unfold Proofs.YtekgciopamkjlaaGreat.reuse; rw[List.length_set]; exact h2
theorem bJ{Y:Bs}(h:WR Y=true):WR (zC Y)=true∧zC (zC Y)=zC Y:=⟨by rw[VN]; exact h,X6 Y⟩
set_option maxRecDepth 10000 in
set_option maxHeartbeats 1000000 in
theorem Er{tb ab N:Nat}{D:List (Option Bt)}{H:List Chunk}{L:List Nm}{T:List Chunk}{B:List (Int × Bs)}(hT:Tb tb ab L T)(hA:Ar ab N D H)(hI:vC D L B)(hu:∀e∈L,e.u+1<2 ^ 60)(Y:Bs)(hY:Y.length<2 ^ 62):
 Tri Tryz.prog 61 #[.pointer (some ⟨tb,0,none⟩),sv Y] [T,H] (fun r S=>
  (WO N D L Y≠0∧r= .tuple #[.int .i64 0,.int .i64 (WO N D L Y)]∧S=[T,H])∨
  (WO N D L Y=0∧∃(T' H':List Chunk) (D':List (Option Bt)),r= .tuple #[.int .i64 (U3 D L (zC Y)),.int .i64 0]∧Tb tb ab (ZN D L (zC Y)) T'∧Ar ab N D' H'∧vC D' (ZN D L (zC Y)) B∧d9 D'=d9 (WQ D L (zC Y))∧S=[T',H'])):=by
 obtain⟨ib,lb,HI,HG,hMI,hMG,rfl⟩:=hT;refine Tri.forget (Tri.perm (S:=[Wo tb ab ib lb,HI,HG,H]) (by simp) (zn Tryz.N7 (Nat.le_of_ble_eq_true rfl) ?_));unfold Tryz.O9;have hback:∀{S':zB},zG S' [Wo tb ab ib lb,HI,HG,H]→zG S' [Wo tb ab ib lb++HI++HG,H]:=fun h=>h.trans ⟨[],by simp⟩
 refine ze (z8 (yp pC (yp pC (zf (za (ze (zo (ze (z8 (yp (pT rfl) ?_))))))))));refine zh (zk (uy Y hY) rfl rfl fun r S' h=>?_);obtain⟨rfl,rfl⟩:=h;cases hv:WR Y with
 | false=>
  have hE:WO N D L Y=2:=by unfold WO; rw[if_pos hv]
  refine yp (Ze rfl) (yp (pB rfl) (zf (za (zI rfl (ze (z8 (yp pC (yp pC (zf (za (zL (bret (zX ?_)))))))))))));exact zK (Ya rfl rfl) ⟨_,hback .of,.inl ⟨by rw[hE]; decide,by rw[hE],rfl⟩⟩
 | true=>
 obtain⟨hvn,hfn⟩:=bJ hv;have hfl:=wM Y;have h255:=Ww hv;refine yp (Ze rfl) (yp (pB rfl) (zf (za (zw rfl (ze (z8 (yp (pP rfl) ?_)))))));refine zh (zk (K4 (tb:=tb) (ab:=ab) (ib:=ib) (lb:=lb)) rfl rfl fun r S' h=>?_);obtain⟨rfl,rfl⟩:=h;refine yp (pB rfl) (zf (za (zw rfl (zq (zT (za (ze (z8 (yp (pT rfl) ?_)))))))));refine zh (zk (Kz Y hY) rfl rfl fun r S' h=>?_);obtain⟨rfl,rfl⟩:=h;have hid:uO L ⟨(zC Y).toArray⟩=(Vn L (zC Y)).map (·.id):=by
  unfold uO Vn;cases VF (zC Y) L<;>rfl
 generalize hn:zC Y=n at*
 refine yp (pT rfl) (zf (za (ze (z8 (yp (pP rfl) (yp (zS rfl) (yp (zx rfl) ?_)))))));refine zh (zF rfl rfl ?_);refine yp (pT rfl) ?_;refine zh (dB (v:= .int .i64 (((Vn L n).map (·.id)).getD 0)) (bl:=(Vn L n).isSome) hMI (by simp) (⟨n.toArray⟩:ByteArray) kY xS Jz rfl rfl ?_ ?_ ?_)
 ·rw[hid]; cases Vn L n<;>rfl
 ·rw[hid]; cases Vn L n<;>rfl
 refine yp (pU rfl) (yp (pExt rfl rfl) (yp (pExt rfl rfl) (yp (pI rfl) (yp (pB rfl) (zf (za ?_))))));refine UH (fun E S'=>∃(ib lb:Nat) (L1:List Nm) (HI HG H1:List Chunk) (D1:List (Option Bt)) (j:Nat) (e:Nm),Has E [(0,.pointer (some ⟨tb,0,none⟩)),(6,.int .i64 e.id)]∧Mp ib (uO L1) L1.length HI∧Mp lb (WV L1) L1.length HG∧Ar ab N D1 H1∧vC D1 L1 B∧L1[j]?=some e∧e.u+1<2 ^ 60∧
  WO N D L Y=0∧e.id=U3 D L n∧reuse L1 j e (e.u+1)=ZN D L n∧d9 D1=d9 (WQ D L n)∧zG S' [Wo tb ab ib lb,HI,HG,H1]) ?_ ?_
 ·cases hb:Vn L n with
  | some e=>
   obtain⟨j,h1,h2,h3⟩:=vO hb;have hE:WO N D L Y=0:=by unfold WO; rw[if_neg (by rw[hv]; decide),hn,hb]; rfl
   refine ze (z8 (yp (pB rfl) (yp (Ze rfl) (zf (za (zw rfl (zq (za ?_))))))));refine⟨ib,lb,L,HI,HG,H,D,j,e,⟨rfl,rfl,trivial⟩,hMI,hMG,hA,hI,h2,hu e (List.mem_of_getElem? h2),hE,?_,?_,?_,.of⟩
   ·unfold U3; rw[hb]; rfl
   ·unfold ZN; rw[h1]; simp only[h2]
   ·unfold WQ; rw[hb]; rfl
  | none=>
   have h1:=WM hb;have hEa:WO N D L Y=ZI N D (8+(n.length:Int)):=by unfold WO; rw[if_neg (by rw[hv]; decide),hn,hb,if_neg (by decide),hfl]
   refine ze (z8 (yp (pB rfl) (yp (Ze rfl) (zf (za (zI rfl (ze (z8 (yp (pP rfl) (yp (zS rfl) (yp (zx rfl) ?_)))))))))));refine zh (zF rfl rfl ?_);refine yp (pT rfl) (yp (uU rfl) ?_);rw[Qm];refine yp (Vo rfl rfl (by omega)) ?_;refine zh (zk (KZ hA ((8+n.length:Nat):Int)) rfl rfl fun r S' h=>?_);rw[show((8+n.length:Nat):Int)=8+(n.length:Int) from by omega] at h;rcases h with⟨he,rfl,rfl⟩ | ⟨he,m,H1,hm,rfl,hA1,rfl⟩
   ·rw[←hEa] at he ⊢;refine yp (pU rfl) (yp (pExt rfl rfl) (yp (pExt rfl rfl) (yp (pI rfl) (yp (pI rfl) (zf (za (ze (ze (z8 (yp (pI rfl) (yp (UF rfl rfl) (zf (za ?_)))))))))))));refine wE rfl (fun _=>?_) (fun h2=>absurd h2 he);refine ze (z8 (yp (pI rfl) (yp pC (yp (pI rfl) (zf (za (zL (zX (zX ?_)))))))));exact zK (Ya rfl rfl) ⟨_,hback .of,.inl ⟨he,rfl,rfl⟩⟩
   obtain rfl:m=8+n.length:=by omega
   have hnew:=hI.new h1 hvn (by rw[←hn]; exact X6 Y);have hno:Zl D ((hnd D:Nat):Int)=none:=by
    have:=vL D;have hp:=wR D;rw[show((hnd D:Nat):Int)=((hnd D-1:Nat):Int)+1 from by omega,ZH]; exact this
   have hidn:∀x∈L,x.id≠(⟨((hnd D:Nat):Int),n,0⟩:Nm).id:=fun x hx e=>by
    have:=hI.blk x hx;rw[e,hno] at this; cases this
   have hnn:∀x∈L,x.n≠(⟨((hnd D:Nat):Int),n,0⟩:Nm).n:=Va h1;have hf1:=iK hI.dis hidn hnn;have hf2:=bZ (L:=L) (e:=⟨((hnd D:Nat):Int),n,0⟩);have hi0:uO L ⟨n.toArray⟩=none:=by rw[hid,hb]; rfl
   have ha0:WV L ((hnd D:Nat):Int)=none:=by
    cases hx:WV L ((hnd D:Nat):Int) with
    | none=>rfl
    | some b=>obtain⟨_,x,hx1,hx2⟩:=WG.1 hx; exact absurd hx2 (hidn x hx1)
   refine yp (pU rfl) (yp (pExt rfl rfl) (yp (pExt rfl rfl) (yp (pI rfl) (yp (pI rfl) (zf (za (ze ?_)))))))
   skip
   refine ze (z8 (yp (pI rfl) (yp (UF rfl rfl) (zf (za (zw rfl (zq (za (ze (Wn (R:=[Wo tb ab ib lb]) (by simp) (zi (pP rfl) (zi (zS rfl) (zi (zx rfl) (Zd rfl rfl (zi (pT rfl) (zi (pP rfl) (zi (zS rfl) (zi (zx rfl) (Zd rfl rfl (zi (pI rfl) (zi (pI rfl) (zi (pI rfl) (zi (pI rfl) ?_)))))))))))))))))))))));refine zH (Yl (z0:=(0:Int)) hMI (⟨n.toArray⟩:ByteArray) kY xS Jz rfl rfl fun s1 HI1 hS1=>?_) zM;refine zi (pExt rfl rfl) ?_;refine zH (Xd (v:=((hnd D:Nat):Int)) hS1 rfl rfl rfl fun HI2 hMI2=>?_) zM;refine zH (Yl (z0:=false) hMG ((hnd D:Nat):Int) kZ kX Xv rfl rfl fun s2 HG1 hS2=>?_) zM;refine zi (pExt rfl rfl) ?_;refine zH (Xd (v:=true) hS2 rfl rfl rfl fun HG2 hMG2=>?_) zM;rw[bB] at hMI2 hMG2;have hc1:Xq (uO L) (⟨n.toArray⟩:ByteArray) L.length=(L++[(⟨((hnd D:Nat):Int),n,0⟩:Nm)]).length:=by unfold Xq; rw[hi0]; simp
   have hc2:Xq (WV L) ((hnd D:Nat):Int) L.length=(L++[(⟨((hnd D:Nat):Int),n,0⟩:Nm)]).length:=by unfold Xq; rw[ha0]; simp
   rw[hc1, ←hf1] at hMI2;rw[hc2, ←hf2] at hMG2;refine zD (za (z8 (yp (pP rfl) (yp (zS rfl) (yp (zx rfl) ?_)))));refine zh (zF rfl rfl ?_);refine yp (pI rfl) (yp (pT rfl) ?_);refine zh (CV rfl fun v Hs hLs=>?_);have hLs:Zf 5 v n Hs:=hLs
   skip
   have hg:=W9 D (8+n.length);have hp:ZV (ZJ D (8+n.length)) ((hnd D:Nat):Int) 8 (n.length:Nat)=0:=by
    unfold ZV; rw[hg]; exact if_neg (by rw[dh]; omega)
   have hw:um (ZJ D (8+n.length)) ((hnd D:Nat):Int) 8 n=(ZJ D (8+n.length)).set (hnd D-1) (some (Vi 0++n)):=by
    unfold um;rw[if_pos hp,hg];have hidx:(((hnd D:Nat):Int)-1).toNat=hnd D-1:=by have:=wR D; omega
    rw[hidx];refine congrArg (fun z=>(ZJ D (8+n.length)).set (hnd D-1) (some z)) ?_;show spl (zeros (8+n.length)) 8 n=Vi 0++n;unfold spl zeros;rw[List.take_replicate,List.drop_replicate,Nat.min_eq_left (by omega),Nat.sub_self,List.replicate_zero,List.append_nil];rfl
   refine zh (zk (KX (S0:=[Hs]) hA1 ((hnd D:Nat):Int) 8 (Y:=n) (hLs.src (by simp)) (by show n.length≤9223372036854775807; omega)) rfl rfl fun r S' h=>?_);obtain⟨rfl,H2,hA2,rfl⟩:=h;rw[hw] at hA2;refine zf (za ?_);refine⟨ib,lb,L++[⟨((hnd D:Nat):Int),n,0⟩],HI2,HG2,H2,_,L.length,⟨((hnd D:Nat):Int),n,0⟩,⟨rfl,rfl,trivial⟩,hMI2,hMG2,hA2,hnew,by simp,(by show 0+1<2 ^ 60; decide),by rw[hEa]; exact he,?_,?_,?_,.of⟩
   ·unfold U3; rw[hb]; rfl
   ·unfold ZN reuse; rw[h1]; simp
   ·have hlen:(Vi 0++n).length=(zeros (8+n.length)).length:=by rw[List.length_append,ZK,dh]
    have hidx:(((hnd D:Nat):Int)-1).toNat=hnd D-1:=by have:=wR D; omega
    have:=XA (Y:=Vi 0++n) hg hlen;rw[hidx] at this;rw[this]; unfold WQ; rw[hb]; rfl
 clear hback hMI hMG;intro E S' ⟨ib,lb,L1,HI1,HG1,H1,D1,j,e,hE,hMI1,hMG1,hA1,hI1,hj,heu,hE0,hea,hre,hsh,hJ⟩;have hem:=List.mem_of_getElem? hj;have hblk:=hI1.blk e hem;obtain⟨E0,e0⟩:=zl hE; subst e0; clear hE;refine zm hJ (zm (zG.re (S1:=[Wo tb ab ib lb,HI1,HG1,H1]) (S2:=[Wo tb ab ib lb++HI1++HG1,H1]) (by simp)) ?_);have hby:Yd L1 e.id=some e:=by unfold Yd; rw[QK hI1.dis.ids hj]; exact hj
 refine ze (z8 (yp (pP rfl) (yp (pI rfl) (yp (pP rfl) (yp (pI rfl) ?_)))));refine zh (zk (eH (Tb.mk hMI1 hMG1) hA1 hI1 e.id) rfl rfl fun r S' h=>?_);obtain⟨rfl,rfl⟩:=h;rw[hby];refine XT (zG.re (S1:=[Wo tb ab ib lb++HI1++HG1,H1]) (S2:=[Wo tb ab ib lb,HI1,HG1,H1]) (by simp)) ?_;have heu2:e.u<2 ^ 60:=by omega
 show YL _ _ _ _ _ (Zk _ (.int .i64 (e.u:Int)) _) _;refine yp (Za rfl rfl (by omega)) ?_;refine zh (zk (rZ (tb:=tb) (ib:=ib) (lb:=lb) hA1 hblk (e.u+1) heu) rfl rfl fun r S' h=>?_);obtain⟨rfl,H2,hA2,rfl⟩:=h;have hlen:(Vi (e.u+1)++e.n).length=(Vi e.u++e.n).length:=by rw[List.length_append,List.length_append,ZK,ZK]
 have hI2:=hI1.reuse hj heu;have hT2:=Tb.reuse (v:=e.u+1) (Tb.mk (tb:=tb) (ab:=ab) hMI1 hMG1) hI1.dis hj;have hs2:=XA hblk hlen;rw[hre] at hI2 hT2;refine zf (za (ze (z8 (yp (pI rfl) (yp (pI rfl) (yp pC (zf (za (zL ?_)))))))));exact zK (Ya rfl rfl) ⟨[Wo tb ab ib lb++HI1++HG1,H2],zG.re (S1:=[Wo tb ab ib lb,HI1,HG1,H2]) (by simp),.inr ⟨hE0,_,H2,_,by rw[hea],hT2,hA2,hI2,hs2.trans hsh,rfl⟩⟩
def Pos(L:List Nm):Prop:=∀e∈L,1≤e.u
def au(L:List Nm)(i:Int):Int:=if(Yd L i).isSome then 0 else 5
def vM(L:List Nm)(i:Int):List Nm:=match VU i L with
 | some j=>(match L[j]? with | some e=>if e.u=1 then L.eraseIdx j else reuse L j e (e.u-1) | none=>L)
 | none=>L
def Um(D:List (Option Bt))(L:List Nm)(i:Int):List (Option Bt):=match Yd L i with
 | some e=>if e.u=1 then WT D i else D
 | none=>D
theorem YV{D:List (Option Bt)}{i:Int}{b:Bt}(hb:Zl D i=some b):Zl (WT D i) i=none:=by
 obtain⟨j,rfl,hj⟩:=u6 hb;unfold WT;rw[hb,if_pos (show(some b).isSome=true from rfl),ZH,show((j:Int)+1-1).toNat=j from by omega,List.getElem?_set_self (List.getElem?_eq_some_iff.1 hj).1]; rfl
theorem vC.drop{D:List (Option Bt)}{L:List Nm}{B:List (Int × Bs)}(h:vC D L B){j:Nat}{e:Nm}(he:L[j]?=some e):vC (WT D e.id) (L.eraseIdx j) B:=by
 have hb:=h.blk e (List.mem_of_getElem? he);have hself:=YV hb;refine⟨h.dis.erase j,fun x hx=>?_,fun x hx=>⟨?_,fun y hy=>?_⟩,fun i b hib=>?_,fun x hx=>?_,fun x hx=>?_⟩
 ·obtain⟨h1,h2,_⟩:=WE h.dis he hx;rw[wm h2]; exact h.blk x h1
 ·rw[wm fun h2=>(h.oth x hx).2 e (List.mem_of_getElem? he) h2.symm]; exact(h.oth x hx).1
 ·exact(h.oth x hx).2 y (WE h.dis he hy).1
 ·by_cases h2:i=e.id
  ·rw[h2,hself] at hib; cases hib
  ·rw[wm h2] at hib;rcases h.all i b hib with⟨y,hy,hyi⟩ | hx
   ·exact .inl ⟨y,mem_erase he hy (.inl fun h3=>h2 (hyi.symm.trans h3)),hyi⟩
   ·exact .inr hx
 ·exact h.us x (WE h.dis he hx).1
 ·exact h.fold x (WE h.dis he hx).1
theorem iQ{D:List (Option Bt)}{i:Int}{b Y:Bt}(hb:Zl D i=some b):WT (D.set (i-1).toNat (some Y)) i=WT D i:=by
 have h1:=WJ (Y:=Y) hb i;rw[if_pos rfl] at h1;unfold WT;rw[h1,hb,if_pos (show(some Y).isSome=true from rfl),if_pos (show(some b).isSome=true from rfl),List.set_set]
set_option maxRecDepth 10000 in
set_option maxHeartbeats 1000000 in
theorem eO{tb ab N:Nat}{D:List (Option Bt)}{H:List Chunk}{L:List Nm}{T:List Chunk}{B:List (Int × Bs)}(hT:Tb tb ab L T)(hA:Ar ab N D H)(hI:vC D L B)(hP:Pos L)(i:Int):
 Tri Tryz.prog 63 #[.pointer (some ⟨tb,0,none⟩),.int .i64 i] [T,H] (fun r S=>r= .int .i64 (au L i)∧∃(T' H':List Chunk) (D':List (Option Bt)),Tb tb ab (vM L i) T'∧Ar ab N D' H'∧vC D' (vM L i) B∧d9 D'=d9 (Um D L i)∧S=[T',H']):=by
 refine Tri.forget (zn Tryz.MX (Nat.le_of_ble_eq_true rfl) ?_);unfold Tryz.O7;refine ze (z8 (yp pC (zf (za (ze (z8 (yp (pP rfl) (yp (pI rfl) ?_))))))));refine zh (zk (JG hT hA hI i) rfl rfl fun r S' h=>?_);obtain⟨rfl,rfl⟩:=h;cases hb:Yd L i with
 | none=>
  have h1:=Jh hb;refine yp (pU rfl) (yp (pExt rfl rfl) (yp (pExt rfl rfl) (yp (pT rfl) (yp (pB rfl) (zf (za (ze (ze (z8 (yp (pB rfl) (yp (Ze rfl) (zf (za (zI rfl (ze (z8 (yp pC (zf (za (zL (zX ?_)))))))))))))))))))));refine zK (rI rfl) ⟨_,.of,by unfold au; rw[hb]; rfl,T,H,D,?_,hA,?_,?_,rfl⟩
  ·unfold vM; rw[h1]; exact hT
  ·unfold vM; rw[h1]; exact hI
  ·unfold Um; rw[hb]
 | some e=>
  obtain⟨j,h1,h2,rfl⟩:=yX hb;have hem:=List.mem_of_getElem? h2;have hpos:=hP e hem;have hblk:=hI.blk e hem;have hus:=hI.us e hem;have hu1:e.u-1<2 ^ 60:=by omega
  have hlen:(Vi (e.u-1)++e.n).length=(Vi e.u++e.n).length:=by rw[List.length_append,List.length_append,ZK,ZK]
  have hR:au L e.id=0:=by unfold au; rw[hb]; rfl
  have hLd:vM L e.id=if e.u=1 then L.eraseIdx j else reuse L j e (e.u-1):=by unfold vM; rw[h1]; simp only[h2]
  have hDd:Um D L e.id=if e.u=1 then WT D e.id else D:=by unfold Um; rw[hb]
  refine yp (pU rfl) (yp (pExt rfl rfl) (yp (pExt rfl rfl) (yp (pT rfl) (yp (pB rfl) (zf (za (ze (ze (z8 (yp (pB rfl) (yp (Ze rfl) (zf (za (zw rfl (zq (za (ze (z8 (yp (pP rfl) (yp (pI rfl) ?_))))))))))))))))))));refine zh (zk (eH hT hA hI e.id) rfl rfl fun r S' h=>?_);obtain⟨rfl,rfl⟩:=h;rw[hb];have hT0:=hT;obtain⟨ib,lb,HI,HG,hMI,hMG,rfl⟩:=hT;refine XT (zG.re (S1:=[Wo tb ab ib lb++HI++HG,H]) (S2:=[Wo tb ab ib lb,HI,HG,H]) (by simp)) ?_;show YL _ _ _ _ _ (Zk _ (.int .i64 (e.u:Int)) _) _;refine yp (Zq rfl rfl (by omega)) (yp (pI rfl) (zf (za (ze (z8 (yp (pP rfl) (yp (pI rfl) (yp (pI rfl) ?_))))))));refine zh (zk (rZ (tb:=tb) (ib:=ib) (lb:=lb) hA hblk (e.u-1) hu1) rfl rfl fun r S' h=>?_);obtain⟨rfl,H2,hA2,rfl⟩:=h;refine zf (za (ze (ze (z8 (yp (pI rfl) (yp (WB rfl rfl) (zf (za ?_))))))));by_cases hu:e.u=1
  ·rw[if_pos hu] at hLd hDd;rw[decide_eq_true (show((e.u-1:Nat):Int)=0 from by omega)];refine zI rfl (ze (z8 (yp (pP rfl) (yp (zS rfl) (yp (zx rfl) ?_)))));refine zh (zF rfl rfl ?_);refine yp (pT rfl) ?_;refine zh (dA hMI (⟨e.n.toArray⟩:ByteArray) kY xS rfl rfl fun HI2 hMI2=>?_);refine zf (za (ze (z8 (yp (pP rfl) (yp (zS rfl) (yp (zx rfl) ?_))))));refine zh (zF rfl rfl ?_);refine yp (pI rfl) ?_;refine zh (dA hMG e.id kZ kX rfl rfl fun HG2 hMG2=>?_);refine zf (za (z8 (yp (pP rfl) (yp (zS rfl) (yp (zx rfl) ?_)))));refine zh (zF rfl rfl ?_);refine yp (pI rfl) ?_;refine zh (zk (mq hA2 e.id) rfl rfl fun r S' h=>?_);obtain⟨rfl,H3,hA3,rfl⟩:=h;rw[iQ hblk] at hA3;have hc1:KA (uO L) (⟨e.n.toArray⟩:ByteArray) L.length=(L.eraseIdx j).length:=by
    unfold KA;rw[(Vk hI.dis).2 ⟨e,hem,rfl,rfl⟩,List.length_eraseIdx,if_pos (List.getElem?_eq_some_iff.1 h2).1]; rfl
   have hc2:KA (WV L) e.id L.length=(L.eraseIdx j).length:=by
    unfold KA;rw[WG.2 ⟨rfl,e,hem,rfl⟩,List.length_eraseIdx,if_pos (List.getElem?_eq_some_iff.1 h2).1]; rfl
   rw[hc1, ←qp hI.dis h2] at hMI2;rw[hc2, ←Jr hI.dis h2] at hMG2;refine zf (za (ze (z8 (yp pC (zf (za (zL ?_)))))));exact zK (rI rfl) ⟨[Wo tb ab ib lb++HI2++HG2,H3],zG.re (S1:=[Wo tb ab ib lb,HI2,HG2,H3]) (by simp),by rw[hR],_,H3,_,hLd▸Tb.mk hMI2 hMG2,hA3,hLd▸hI.drop h2,by rw[hDd],rfl⟩
  ·rw[if_neg hu] at hLd hDd;rw[decide_eq_false (show ¬((e.u-1:Nat):Int)=0 from by omega)];refine zw rfl (zq (za (ze (z8 (yp pC (zf (za (zL ?_))))))));exact zK (rI rfl) ⟨[Wo tb ab ib lb++HI++HG,H2],zG.re (S1:=[Wo tb ab ib lb,HI,HG,H2]) (by simp),by rw[hR],_,H2,_,hLd▸Tb.reuse hT0 hI.dis h2,hA2,hLd▸hI.reuse h2 hu1,by rw[hDd]; exact XA hblk hlen,rfl⟩
theorem vC.nil:vC [] [] []:=⟨⟨List.nodup_nil,List.nodup_nil⟩,fun e he=>by simp at he,fun e he=>by simp at he,fun i b h=>by unfold Zl at h; split at h<;>simp at h,fun e he=>by simp at he,fun e he=>by simp at he⟩
theorem Pos.nil:Pos []:=fun e he=>by simp at he
theorem qU{L:List Nm}{e:Nm}(he:e∈L):(Vn L e.n).isSome=true:=by
 cases hb:Vn L e.n with
 | some x=>rfl
 | none=>exact absurd rfl (Va (WM hb) e he)
theorem mF{D:List (Option Bt)}{L:List Nm}{n:Bs}{k:Nat}(h:∀e∈L,e.u≤k):∀e∈ZN D L n,e.u≤k+1:=fun e he=>by
 cases hb:Vn L n with
 | some x=>
  obtain⟨j,h1,h2,rfl⟩:=vO hb;have:ZN D L x.n=reuse L j x (x.u+1):=by unfold ZN; rw[h1]; simp only[h2]
  rw[this] at he;unfold reuse at he;rcases List.mem_or_eq_of_mem_set he with he | rfl
  ·have:=h e he; omega
  ·have:=h x (List.mem_of_getElem? h2); show x.u+1≤k+1; omega
 | none=>
  have:ZN D L n=L++[⟨((hnd D:Nat):Int),n,1⟩]:=by unfold ZN; rw[WM hb]
  rw[this] at he;rcases List.mem_append.1 he with he | he
  ·have:=h e he; omega
  ·rw[List.mem_singleton.1 he]; show 1≤k+1; omega
theorem mG{D:List (Option Bt)}{L:List Nm}{n:Bs}(h:Pos L):Pos (ZN D L n):=fun e he=>by
 cases hb:Vn L n with
 | some x=>
  obtain⟨j,h1,h2,rfl⟩:=vO hb;have:ZN D L x.n=reuse L j x (x.u+1):=by unfold ZN; rw[h1]; simp only[h2]
  rw[this] at he;unfold reuse at he;rcases List.mem_or_eq_of_mem_set he with he | rfl
  ·exact h e he
  ·show 1≤x.u+1; omega
 | none=>
  have:ZN D L n=L++[⟨((hnd D:Nat):Int),n,1⟩]:=by unfold ZN; rw[WM hb]
  rw[this] at he;rcases List.mem_append.1 he with he | he
  ·exact h e he
  ·rw[List.mem_singleton.1 he]; exact Nat.le_refl _
theorem bL{L:List Nm}{i:Int}(h:Pos L):Pos (vM L i):=fun e he=>by
 unfold vM at he;split at he
 ·split at he
  ·next x hx=>
   split at he
   ·exact h e ((List.eraseIdx_sublist _ _).subset he)
   ·next hu=>
    unfold reuse at he;rcases List.mem_or_eq_of_mem_set he with he | rfl
    ·exact h e he
    ·have:=h x (List.mem_of_getElem? hx); show 1≤x.u-1; omega
  ·exact h e he
 ·exact h e he
end Go.Proofs.YtekgciopamkjlaaGreat
