/- The table of names (chapter 7): contracts of its functions. The table of names (chapter 7): uses, names, Add and Drop. The table of names (chapter 7): Add and Drop. The table of names (chapter 7): what Add does. The table of names (chapter 7): Drop; awake. The table of names (chapter 7): Add, once more. The table of names (chapter 7), beside the document's: what Add and Drop leave. -/
import Derived.Test.YtejmbmenbailmaaGreatN1
import Derived.Test.YtejmbmenbailmaaGreatFIntern
namespace Go.Proofs.YtejmbmenbailmaaGreat
open Go.Xs
open Enc (enc)
theorem Kg:Tryz.prog.underlying 120=some (.map 9 3):=by kernel_rfl
theorem Kh:Tryz.prog.underlying 121=some (.map 3 4):=by kernel_rfl
theorem xV:Tryz.prog.underlying 9=some .string:=by kernel_rfl
theorem Ke:Tryz.prog.underlying 3=some (.int .i64):=by kernel_rfl
theorem JC:(Tryz.prog.info? 3).bind (·.zero)=some (.int .i64 0):=by kernel_rfl
theorem XH:(Tryz.prog.info? 4).bind (·.zero)=some (.bool false):=by kernel_rfl
abbrev Wp(tb ab ib lb:Nat):List Chunk:=[(tb,.cells #[.pointer (some ⟨ab,0,none⟩),.map (some ib),.map (some lb)] 123)]
/-- the table, as one piece of memory -/
def Tb(tb ab:Nat)(L:List Nm)(T:List Chunk):Prop:=
 ∃(ib lb:Nat) (HI HG:List Chunk),Mp ib (uQ L) L.length HI∧Mp lb (WO L) L.length HG∧T=Wp tb ab ib lb++HI++HG
/-- the names stand in the arena, and blocks of others; nothing else does -/
structure vg(D:List (Option Bt))(L:List Nm)(B:List (Int × Bs)):Prop where
 dis:xP L
 blk:∀e∈L,Zj D e.id=some (Vl e.u++e.n)
 oth:∀x∈B,Zj D x.1=some x.2∧∀e∈L,e.id≠x.1
 all:∀i b,Zj D i=some b→(∃e∈L,e.id=i)∨∃x∈B,x.1=i
 us:∀e∈L,e.u<2 ^ 60
 fold:∀e∈L,wR e.n=true∧zB e.n=e.n
theorem Ki{tb ab ib lb:Nat}:Tri Tryz.prog 67 #[.pointer (some ⟨tb,0,none⟩)] [Wp tb ab ib lb] (fun r S=>r= .bool false∧S=[Wp tb ab ib lb]):=by
 refine Tri.forget (zm Tryz.M0 (Nat.le_of_ble_eq_true rfl) ?_);unfold Tryz.Nl;refine ze (z8 (yp pC (zf (za (ze (z8 (yp (pP rfl) (yp (ZW rfl rfl) (yp (pB rfl) (Z5 rfl (Zd (pP rfl) (Z5 rfl (Zd (zK rfl) (Z5 rfl (Zd (zo rfl) (Z5 rfl ?_))))))))))))))));refine(zx rfl rfl ?_);refine Z5 rfl (Zd (ZW rfl rfl) (yp (zR rfl rfl) (yp (pB rfl) (zf (za (zJ ?_))))));exact zI (rB rfl) ⟨_,.of,rfl,rfl⟩
theorem Tb.mk{tb ab ib lb:Nat}{L:List Nm}{HI HG:List Chunk}(h1:Mp ib (uQ L) L.length HI)(h2:Mp lb (WO L) L.length HG):Tb tb ab L (Wp tb ab ib lb++HI++HG):=⟨ib,lb,HI,HG,h1,h2,rfl⟩
theorem Di{ab:Nat}:Tri Tryz.prog 46 #[.pointer (some ⟨ab,0,none⟩)] [] (fun r S=>∃tb T,r= .pointer (some ⟨tb,0,none⟩)∧Tb tb ab [] T∧S=[T]):=by
 refine Tri.forget (zm Tryz.Mg (Nat.le_of_ble_eq_true rfl) ?_);unfold Tryz.NA;refine ze (z8 (yp pC (zf (za (ze (z8 (yp (pP rfl) ?_)))))));refine zh (K7 ByteArray Int fun ib HI hI=>?_);refine zh (K7 Int Bool fun lb HG hG=>?_);refine yp (nR (jf rfl) (NW rfl) (NW rfl)) ?_;refine zh (Zt rfl fun p7=>?_);refine yp (pP rfl) (zf (za (zJ ?_)));exact zI (rP rfl) ⟨[Wp p7 ab ib lb++HI++HG],zD.vJ,p7,_,rfl,Tb.mk (L:=[]) hI hG,rfl⟩
/-- the one of these letters -/
def Vp(L:List Nm)(n:Bs):Option Nm:=(VG n L).bind fun j=>L[j]?
def Yz(L:List Nm)(i:Int):Option Nm:=(VR i L).bind fun j=>L[j]?
theorem tK{tb ab:Nat}{L:List Nm}{T:List Chunk}(hT:Tb tb ab L T)(Y:Bs)(hY:Y.length<2 ^ 62):Tri Tryz.prog 102 #[.pointer (some ⟨tb,0,none⟩),sv Y] [T]
 (fun r S=>r= .tuple #[.int .i64 (((Vp L (zB Y)).map (·.id)).getD 0),.bool (Vp L (zB Y)).isSome]∧S=[T]):=by
 obtain⟨ib,lb,HI,HG,hI,hG,rfl⟩:=hT;refine Tri.vS (Tri.forget (zm Tryz.GA (Nat.le_of_ble_eq_true rfl) ?_));unfold Tryz.x102;refine ze (z8 (yp pC (yp pC (zf (za (ze (ze (z8 (yp (pP rfl) ?_)))))))));refine zh (zk (Ki (tb:=tb) (ab:=ab) (ib:=ib) (lb:=lb)) rfl rfl fun r S' h=>?_);obtain⟨rfl,rfl⟩:=h;refine zf (za (zA rfl (zw (za (ze (zX (zi (pP rfl) (zi (zK rfl) (zi (zo rfl) (zV rfl rfl (zi (pT rfl) ?_)))))))))));refine Zb (zk (KE Y hY) rfl rfl fun r S' h=>?_) zN;obtain⟨rfl,rfl⟩:=h;refine⟨by simp,?_⟩;have hid:uQ L ⟨(zB Y).toArray⟩=(Vp L (zB Y)).map (·.id):=by
  unfold uQ Vp;cases VG (zB Y) L<;>rfl
 refine zO (d9 (v:= .int .i64 (((Vp L (zB Y)).map (·.id)).getD 0)) (bl:=(Vp L (zB Y)).isSome) hI (by simp) (⟨(zB Y).toArray⟩:ByteArray) Kg xV JC rfl rfl ?_ ?_ ?_) zN
 ·rw[hid]; cases Vp L (zB Y)<;>rfl
 ·rw[hid]; cases Vp L (zB Y)<;>rfl
 refine zi (pU rfl) (zi (pExt rfl rfl) (zi (pExt rfl rfl) (zi (pI rfl) (zi (pB rfl) (zL (za (ze (z8 (yp (pI rfl) (yp (pB rfl) (yp (pI rfl) (yp (pB rfl) (zf (za (zJ ?_)))))))))))))));exact zI (nK rfl rfl) ⟨_,zD.vJ,rfl,rfl⟩
theorem tL{tb ab:Nat}{L:List Nm}{T:List Chunk}(hT:Tb tb ab L T)(Y:Bs)(hY:Y.length<2 ^ 62):Tri Tryz.prog 54 #[.pointer (some ⟨tb,0,none⟩),sv Y] [T]
 (fun r S=>r= .int .i64 (if(Vp L (zB Y)).isSome=true∨wR Y=false then 0 else cost (8+Y.length))∧S=[T]):=by
 refine Tri.forget (zm Tryz.M9 (Nat.le_of_ble_eq_true rfl) ?_);unfold Tryz.Nt;refine ze (z8 (yp pC (zf (za (ze (ze (z8 (yp (pP rfl) (yp (pT rfl) ?_)))))))));refine zh (zk (tK hT Y hY) rfl rfl fun r S' h=>?_);obtain⟨rfl,rfl⟩:=h;cases hb:(Vp L (zB Y)).isSome with
 | true=>
  refine yp (pU rfl) (yp (pExt rfl rfl) (yp (pExt rfl rfl) (yp (pI rfl) (yp (pB rfl) (zf (za (ze (z8 (yp (pB rfl) (yp (pB rfl) (Z4 rfl (Z4 rfl (Z4 rfl (yp (zP rfl rfl) (zf (za (zH rfl (ze (z8 (yp pC (zf (za (zJ (zU ?_))))))))))))))))))))))));exact zI (rI rfl) ⟨_,.of,by rw[if_pos (.inl rfl)],rfl⟩
 | false=>
  refine yp (pU rfl) (yp (pExt rfl rfl) (yp (pExt rfl rfl) (yp (pI rfl) (yp (pB rfl) (zf (za (ze (z8 (yp (pB rfl) (yp (pB rfl) (Z5 rfl (Zd (pT rfl) (Z5 rfl ?_)))))))))))));refine zk (vB Y hY) rfl rfl fun r S' h=>?_
  obtain⟨rfl,rfl⟩:=h;cases hv:wR Y with
  | false=>
   refine Z5 rfl (Zd (Zi rfl) (yp (zR rfl rfl) (zf (za (zH rfl (ze (z8 (yp pC (zf (za (zJ (zU ?_))))))))))));exact zI (rI rfl) ⟨_,.of,by rw[if_pos (.inr rfl)],rfl⟩
  | true=>
   refine Z5 rfl (Zd (Zi rfl) (yp (zR rfl rfl) (zf (za (zA rfl (zw (za (ze (z8 (yp (pT rfl) (yp (uW rfl) ?_)))))))))));rw[Qe];refine yp (WT rfl rfl (by omega)) ?_;refine zh (zk (Xn (8+(Y.length:Int))) rfl rfl fun r S' h=>?_);obtain⟨rfl,rfl⟩:=h;refine yp (pI rfl) (zf (za (zJ ?_)));exact zI (rI rfl) ⟨_,.of,by rw[if_neg (by simp)],rfl⟩
theorem rX{E:Env}{x y:Operand}{a s:Nat}(h1:ev E x= .int .i64 (a:Int))(h2:ev E y= .int .i64 (s:Int))(hs:s≤64)(h:a*2 ^ s<2 ^ 63):zl (ev E) (.bin .shl x y)=some (.int .i64 ((a*2 ^ s:Nat):Int)):=by
 have hm:Nat.min ((s:Int).toNat) IntKind.i64.bits=s:=by show Nat.min s 64=s; exact Nat.min_eq_left hs
 have e:(a:Int)*2 ^ s=((a*2 ^ s:Nat):Int):=by push_cast; rfl
 simp only[zl,h1,h2,Wo,vF,hm,e];rw[wrap_i64 (by have:((a*2 ^ s:Nat):Int)<((2 ^ 63:Nat):Int):=Int.ofNat_lt.2 h; omega)];simp
theorem DR{E:Env}{x y:Operand}{a b:Nat}(h1:ev E x= .int .i64 (a:Int))(h2:ev E y= .int .i64 (b:Int))(h:(a ||| b)<2 ^ 63)(ha:a<2 ^ 63)(hb:b<2 ^ 63):zl (ev E) (.bin .or x y)=some (.int .i64 ((a ||| b:Nat):Int)):=by
 have e:uN .or .i64 (a:Int) (b:Int)=((a ||| b:Nat):Int):=by
  unfold uN;simp only;have e1:(BitVec.ofInt IntKind.i64.bits (a:Int) ||| BitVec.ofInt IntKind.i64.bits (b:Int)).toNat=a ||| b:=by
   show(BitVec.ofInt 64 (a:Int) ||| BitVec.ofInt 64 (b:Int)).toNat=a ||| b;rw[BitVec.toNat_or,BitVec.toNat_ofInt,BitVec.toNat_ofInt];congr 1
   ·omega
   ·omega
  rw[e1,wrap_i64 (by omega)]
 simp[zl,h1,h2,Wo,vF,e]
theorem gq{a b i:Nat}(h:a<2 ^ i):a ||| (b*2 ^ i)=a+b*2 ^ i:=by
 rw[Nat.or_comm,Nat.mul_comm b, ←Nat.two_pow_add_eq_or_of_lt h b,Nat.add_comm]
theorem Yh{L:List Nm}{i:Int}{e:Nm}(h:Yz L i=some e):∃j,VR i L=some j∧L[j]?=some e∧e.id=i:=by
 unfold Yz at h;cases hx:VR i L with
 | none=>rw[hx] at h; cases h
 | some j=>
  obtain⟨e',h1,h2⟩:=Uh hx;rw[hx] at h;simp only[Option.bind_some,h1] at h;obtain rfl:=Option.some.inj h;exact⟨j,rfl,h1,h2⟩
theorem Jk{L:List Nm}{i:Int}(h:Yz L i=none):VR i L=none:=by
 unfold Yz at h;cases hx:VR i L with
 | none=>rfl
 | some j=>
  obtain⟨e',h1,h2⟩:=Uh hx;rw[hx] at h;simp only[Option.bind_some,h1] at h;cases h
theorem K3(L:List Nm)(i:Int):((WO L i).map Vv.vv).getD (.bool false)= .bool (Yz L i).isSome:=by
 cases hb:Yz L i with
 | none=>unfold WO; rw[Jk hb]; rfl
 | some e=>obtain⟨j,h1,_,_⟩:=Yh hb; unfold WO; rw[h1]; rfl
theorem KW{L:List Nm}{i:Int}{e:Nm}(h:Yz L i=some e):e∈L∧e.id=i:=by
 obtain⟨j,_,h2,h3⟩:=Yh h;exact⟨List.mem_of_getElem? h2,h3⟩
/-- the first eight bytes of a name's block, the others -/
theorem bH{D:List (Option Bt)}{i:Int}{u:Nat}{n:Bs}(h:Zj D i=some (Vl u++n)):ZT D i 0 8=0∧x8 D i 0 8=Vl u:=by
 have hl:(Vl u++n).length=8+n.length:=by rw[List.length_append,ZI]
 have hp:ZT D i 0 8=0:=by unfold ZT; rw[h]; exact if_neg (by omega)
 refine⟨hp,?_⟩;unfold x8;rw[if_pos hp,h];show((Vl u++n).drop 0).take 8=Vl u;rw[List.drop_zero, ←ZI u,List.take_left]
theorem bG{D:List (Option Bt)}{i:Int}{u:Nat}{n:Bs}(h:Zj D i=some (Vl u++n)):ZT D i 8 (n.length:Int)=0∧x8 D i 8 (n.length:Int)=n:=by
 have hl:(Vl u++n).length=8+n.length:=by rw[List.length_append,ZI]
 have hp:ZT D i 8 (n.length:Int)=0:=by unfold ZT; rw[h]; exact if_neg (by omega)
 refine⟨hp,?_⟩;unfold x8;rw[if_pos hp,h];show((Vl u++n).drop 8).take (n.length:Int).toNat=n;have:(Vl u++n).drop 8=n:=by
  have:=List.drop_left (l₁:=Vl u) (l₂:=n);rw[ZI] at this; exact this
 rw[this,Int.toNat_natCast,List.take_length]
theorem dQ{tb ab N:Nat}{D:List (Option Bt)}{H:List Chunk}{L:List Nm}{T:List Chunk}{B:List (Int × Bs)}(hT:Tb tb ab L T)(hA:Ar ab N D H)(hI:vg D L B)(i:Int):Tri Tryz.prog 105 #[.pointer (some ⟨tb,0,none⟩),.int .i64 i] [T,H]
 (fun r S=>r= .int .i64 (((Yz L i).map (·.u)).getD 0:Nat)∧S=[T,H]):=by
 obtain⟨ib,lb,HI,HG,hMI,hMG,rfl⟩:=hT;refine Tri.forget (Tri.perm (S:=[Wp tb ab ib lb,HI,HG,H]) (by simp) (zm Tryz.Gy (Nat.le_of_ble_eq_true rfl) ?_));unfold Tryz.Df;have hback:∀{S':zu},zD S' [Wp tb ab ib lb,HI,HG,H]→zD S' [Wp tb ab ib lb++HI++HG,H]:=fun h=>h.trans ⟨[],by simp⟩
 refine ze (z8 (yp pC (zf (za (ze (ze (z8 (yp (pP rfl) ?_))))))));refine zh (zk (Ki (tb:=tb) (ab:=ab) (ib:=ib) (lb:=lb)) rfl rfl fun r S' h=>?_);obtain⟨rfl,rfl⟩:=h;refine yp (pB rfl) (Z5 rfl (Zd (pP rfl) (Z5 rfl (Zd (zK rfl) (Z5 rfl (Zd (zo rfl) (Z5 rfl ?_)))))));refine(zx rfl rfl ?_);refine Z5 rfl (Zd (pI rfl) (Z5 rfl (Vf hMG (by simp) i Kh Ke XH rfl rfl (K3 L i) ?_)));cases hb:Yz L i with
 | none=>
  refine Z5 rfl (Zd (Zi rfl) (yp (zR rfl rfl) (zf (za (zH rfl (ze (z8 (yp pC (zf (za (zJ (zU ?_))))))))))));exact zI (rI rfl) ⟨_,hback .of,rfl,rfl⟩
 | some e=>
  obtain⟨hem,rfl⟩:=KW hb;have hblk:=hI.blk e hem;have hu:=hI.us e hem;obtain⟨hp8,hr8⟩:=bH hblk;refine Z5 rfl (Zd (Zi rfl) (yp (zR rfl rfl) (zf (za (zA rfl (zw (za (ze (z8 (yp (pP rfl) (yp (zK rfl) (yp (zo rfl) ?_))))))))))));refine zh (zx rfl rfl ?_);refine yp (pI rfl) ?_;refine zh (zk (qO hA e.id 0 8) rfl rfl fun r S' h=>?_);obtain⟨v,Ho,rfl,hLo,rfl⟩:=h;rw[hp8];rw[hr8] at hLo;obtain⟨va,vc,rfl⟩:=hLo.isSlice;have hl8:=ZI e.u;rw[hl8] at hLo;rw[hl8];refine yp (pU rfl) (yp (pExt rfl rfl) (yp (pExt rfl rfl) (yp (pS rfl) (yp (pI rfl) (zf (za (ze (z8 (yp pC (zf (za (ze (ze (z8 (yp (pS rfl) (yp (ZB rfl) (yp pC (zf (za (zq ?_))))))))))))))))))));refine Z6 (σ:=Nat) (fun k E S=>Has E [(7,.int .i64 ((e.u%2 ^ (8*k):Nat):Int)),(30,.slice va 8 vc),(31,.int .i64 8),(32,.int .i64 (k:Int))]∧k≤8∧zD S [Ho,Wp tb ab ib lb,HI,HG,H]) (fun k=>8-k) 0 ⟨⟨by rw[Nat.mul_zero,Nat.pow_zero,Nat.mod_one]; rfl,rfl,rfl,rfl,trivial⟩,Nat.zero_le _,.of⟩ fun k E S ⟨hE,hk,hJ⟩=>?_
  obtain⟨E0,e0⟩:=zy hE; subst e0; clear hE;refine zn hJ (ze (z8 (yp (ZO rfl rfl) (zf (za (ze ?_))))));refine zQ rfl (fun h=>?_) (fun h=>?_)
  ·have hlt:k<8:=by omega
   have hg:=QE e.u k hlt;have hkl:k<(Vl e.u).length:=by omega
   obtain⟨b,sp,fz,hz,hae,_,hce,rfl⟩:=hLo.at' (by intro h; rw[h] at hl8; simp at hl8);subst hae;have hld:((cells (Vl e.u++sp)).toArray.toList)[0+k*1+0]?=some (.int .u8 ((UInt8.ofNat (e.u/2 ^ (8*k))).toNat:Int)):=(ZC (kk:=1) (j:=0) hkl rfl (by omega)).trans (by rw[List.getElem?_eq_getElem hkl] at hg; rw[Option.some.inj hg]; rfl);have hby:(UInt8.ofNat (e.u/2 ^ (8*k))).toNat=e.u/2 ^ (8*k)%256:=by simp
   have hmod:e.u%2 ^ (8*(k+1))=e.u%2 ^ (8*k)+e.u/2 ^ (8*k)%256*2 ^ (8*k):=by
    have e1:2 ^ (8*(k+1))=2 ^ (8*k)*256:=by rw[show 8*(k+1)=8*k+8 from by omega,Nat.pow_add]
    rw[e1,Nat.mod_mul,Nat.mul_comm (e.u/2 ^ (8*k)%256)]
   have hsm:e.u%2 ^ (8*(k+1))<2 ^ 60:=Nat.lt_of_le_of_lt (Nat.mod_le _ _) hu;have hlt2:e.u%2 ^ (8*k)<2 ^ (8*k):=Nat.mod_lt _ (Nat.pow_pos (by decide));have hor:=gq (b:=e.u/2 ^ (8*k)%256) hlt2;rw[←hmod] at hor;have hpr:e.u/2 ^ (8*k)%256*2 ^ (8*k)≤e.u%2 ^ (8*(k+1)):=by rw[hmod]; exact Nat.le_add_left _ _
   have hpl:e.u%2 ^ (8*k)≤e.u%2 ^ (8*(k+1)):=by rw[hmod]; exact Nat.le_add_right _ _
   refine zw (za (ze (zq (ze (z8 (yp (pI rfl) (yp (zT rfl rfl (by omega)) ?_)))))));refine zh (zx (v:= .int .u8 ((UInt8.ofNat (e.u/2 ^ (8*k))).toNat:Int)) rfl hld ?_);refine yp (pI rfl) (yp (pI rfl) (zf (za (z8 (yp (pI rfl) (yp (pI rfl) (yp (fT rfl) ?_)))))));rw[hby];refine yp (pI rfl) (yp (xq (j:=8) (k:=k) rfl rfl (by omega)) (yp (rX rfl rfl (by omega) (by omega)) (yp (DR rfl rfl (by rw[hor]; omega) (by omega) (by omega)) ?_)));rw[hor];refine yp (pI rfl) (zf (zS (za (z8 (yp (Zg rfl rfl (by omega)) (yp (pI rfl) (zf (za ?_))))))));exact⟨k+1,⟨⟨rfl,rfl,rfl,rfl,trivial⟩,by omega,.of⟩,by omega⟩
  ·have hk8:k=8:=by omega
   subst hk8;have hmodu:e.u%2 ^ (8*8)=e.u:=Nat.mod_eq_of_lt (by omega);rw[hmodu];refine zW (zF (zF (zZ (za (ze (z8 (yp (pI rfl) (yp (pI rfl) (zf (za (zJ ?_)))))))))));exact zI (rI rfl) ⟨_,hback .of,rfl,rfl⟩
theorem JJ{tb ab N:Nat}{D:List (Option Bt)}{H:List Chunk}{L:List Nm}{T:List Chunk}{B:List (Int × Bs)}(hT:Tb tb ab L T)(hA:Ar ab N D H)(hI:vg D L B)(i:Int):Tri Tryz.prog 110 #[.pointer (some ⟨tb,0,none⟩),.int .i64 i] [T,H]
 (fun r S=>r= .tuple #[sv (((Yz L i).map (·.n)).getD []),.bool (Yz L i).isSome]∧S=[T,H]):=by
 obtain⟨ib,lb,HI,HG,hMI,hMG,rfl⟩:=hT;refine Tri.forget (Tri.perm (S:=[Wp tb ab ib lb,HI,HG,H]) (by simp) (zm Tryz.Gt (Nat.le_of_ble_eq_true rfl) ?_));unfold Tryz.D7;have hback:∀{S':zu},zD S' [Wp tb ab ib lb,HI,HG,H]→zD S' [Wp tb ab ib lb++HI++HG,H]:=fun h=>h.trans ⟨[],by simp⟩
 refine ze (z8 (yp pC (yp pC (zf (za (ze (ze (z8 (yp (pP rfl) ?_)))))))));refine zh (zk (Ki (tb:=tb) (ab:=ab) (ib:=ib) (lb:=lb)) rfl rfl fun r S' h=>?_);obtain⟨rfl,rfl⟩:=h;refine yp (pB rfl) (Z5 rfl (Zd (pP rfl) (Z5 rfl (Zd (zK rfl) (Z5 rfl (Zd (zo rfl) (Z5 rfl ?_)))))));refine(zx rfl rfl ?_);refine Z5 rfl (Zd (pI rfl) (Z5 rfl (Vf hMG (by simp) i Kh Ke XH rfl rfl (K3 L i) ?_)));have rTB:∀{E:Env} {S:zu} {t u:Tmp} {s:ByteArray} {b:Bool},E t= .string s→E u= .bool b→XA Tryz.prog #[.tmp t,.tmp u] E S (.tuple #[.string s,.bool b]):=fun h1 h2=>res2 h1 h2
 cases hb:Yz L i with
 | none=>
  refine Z5 rfl (Zd (Zi rfl) (yp (zR rfl rfl) (zf (za (zH rfl (ze (z8 (yp pC (yp pC (zf (za (zJ (zU ?_)))))))))))));exact zI (rTB rfl rfl) ⟨_,hback .of,rfl,rfl⟩
 | some e=>
  obtain⟨hem,rfl⟩:=KW hb;have hblk:=hI.blk e hem;have hnl:=(hA.ok).each;obtain⟨hpn,hrn⟩:=bG hblk;have hsz:yC D e.id=(((8+e.n.length:Nat):Int),true):=by
   unfold yC; rw[hblk]; simp only; rw[List.length_append,ZI]
  obtain⟨q,_,hq⟩:=VZ hblk;have h4:=hnl q _ hq;rw[List.length_append,ZI] at h4;refine Z5 rfl (Zd (Zi rfl) (yp (zR rfl rfl) (zf (za (zA rfl (zw (za (ze (z8 (yp (pP rfl) (yp (zK rfl) (yp (zo rfl) ?_))))))))))));refine zh (zx rfl rfl ?_);refine yp (pI rfl) ?_;refine zh (zk (lC hA e.id) rfl rfl fun r S' h=>?_);obtain⟨rfl,rfl⟩:=h;rw[hsz];refine yp (pU rfl) (yp (pExt rfl rfl) (yp (pExt rfl rfl) (yp (pI rfl) (yp (pB rfl) (zf (za (ze (z8 (yp (pP rfl) (yp (zK rfl) (yp (zo rfl) ?_)))))))))));refine zh (zx rfl rfl ?_);refine yp (pI rfl) (yp (pI rfl) (yp (ZK rfl rfl (by omega)) ?_));rw[show((8+e.n.length:Nat):Int)-8=(e.n.length:Int) from by omega];refine zh (zk (qO hA e.id 8 (e.n.length:Int)) rfl rfl fun r S' h=>?_);obtain⟨v,Ho,rfl,hLo,rfl⟩:=h;rw[hpn];rw[hrn] at hLo;obtain⟨va,vc,rfl⟩:=hLo.isSlice;refine yp (pU rfl) (yp (pExt rfl rfl) (yp (pExt rfl rfl) (yp (pS rfl) (yp (pI rfl) (zf (za (ze (z8 (yp (pS rfl) ?_)))))))));refine zh (YA rfl (hLo.src (by simp)) ?_);refine yp (pI rfl) (yp (WL rfl rfl) (yp (pT rfl) (yp (pB rfl) (zf (za (zJ ?_))))));exact zI (rTB rfl rfl) ⟨_,hback .of,rfl,rfl⟩
theorem jR{E:Env}{x y:Operand}{a s:Nat}(h1:ev E x= .int .i64 (a:Int))(h2:ev E y= .int .i64 (s:Int))(hs:s≤64):zl (ev E) (.bin .shr x y)=some (.int .i64 ((a/2 ^ s:Nat):Int)):=by
 rw[fJ h1 h2 (by omega)];have hm:Nat.min ((s:Int).toNat) IntKind.i64.bits=s:=by show Nat.min s 64=s; exact Nat.min_eq_left hs
 rw[hm,Int.fdiv_eq_ediv_of_nonneg _ (by exact Int.pow_nonneg (by decide))];congr 2
theorem DW{E:Env}{x:Operand}{a:Nat}(h1:ev E x= .int .i64 (a:Int)):zl (ev E) (.conv .u8 x)=some (.int .u8 ((UInt8.ofNat a).toNat:Int)):=by
 rw[Az h1,yA];have:(UInt8.ofNat a).toNat=a%256:=by simp
 rw[this]; congr 2
def Yk(n k:Nat):Bs:=(Vl n).take k++List.replicate (8-k) 0
theorem Jo{n k:Nat}(h:k≤8):(Yk n k).length=8:=by simp[Yk,ZI]; omega
theorem lq(n:Nat):Yk n 8=Vl n:=by
 unfold Yk;rw[List.take_of_length_le (by rw[ZI]; exact Nat.le_refl _)]; simp
theorem lg{n k:Nat}(h:k<8):(Yk n k).set k (UInt8.ofNat (n/2 ^ (8*k)))=Yk n (k+1):=by
 refine List.ext_getElem? fun j=>?_
 have hg:=QE n k h;have hl:=ZI n;have hget:∀k j,k≤8→(Yk n k)[j]?=if j<k then(Vl n)[j]? else if j<8 then some 0 else none:=fun k j hk=>by
  unfold Yk;rw[List.getElem?_append,List.length_take,hl,Nat.min_eq_left hk,List.getElem?_take,List.getElem?_replicate];by_cases h1:j<k
  ·rw[if_pos h1,if_pos h1,if_pos h1]
  ·rw[if_neg h1,if_neg h1];by_cases h2:j<8
   ·rw[if_pos h2,if_pos (by omega)]
   ·rw[if_neg h2,if_neg (by omega)]
 rw[List.getElem?_set,hget _ _ (by omega),hget _ _ (by omega),Jo (by omega)];by_cases hj:k=j
 ·subst hj;rw[if_pos rfl,if_pos h,if_pos (by omega),hg]
 ·rw[if_neg hj];by_cases h1:j<k
  ·rw[if_pos h1,if_pos (by omega)]
  ·rw[if_neg h1,if_neg (show ¬j<k+1 from by omega)]
theorem qJ{D:List (Option Bt)}{i:Int}{u v:Nat}{n:Bs}(h:Zj D i=some (Vl u++n)):ZT D i 0 ((Vl v).length:Nat)=0∧uf D i 0 (Vl v)=D.set (i-1).toNat (some (Vl v++n)):=by
 have hl:(Vl u++n).length=8+n.length:=by rw[List.length_append,ZI]
 have hl8:=ZI v;have hp:ZT D i 0 ((Vl v).length:Nat)=0:=by unfold ZT; rw[h]; exact if_neg (by omega)
 refine⟨hp,?_⟩;unfold uf;rw[if_pos hp,h];refine congrArg (fun z=>D.set (i-1).toNat (some z)) ?_;show spl (Vl u++n) 0 (Vl v)=_;unfold spl;have:(Vl u++n).drop 8=n:=by
  have:=List.drop_left (l₁:=Vl u) (l₂:=n);rw[ZI] at this; exact this
 rw[List.take_zero,hl8,Nat.zero_add,this]; rfl
set_option maxRecDepth 10000 in
theorem rG{tb ab ib lb N:Nat}{D:List (Option Bt)}{H:List Chunk}(hA:Ar ab N D H){i:Int}{u:Nat}{n:Bs}(hb:Zj D i=some (Vl u++n))(v:Nat)(_hv:v<2 ^ 60):Tri Tryz.prog 104 #[.pointer (some ⟨tb,0,none⟩),.int .i64 i,.int .i64 (v:Int)] [Wp tb ab ib lb,H]
 (fun r S=>r= .tuple #[]∧∃H',Ar ab N (D.set (i-1).toNat (some (Vl v++n))) H'∧S=[Wp tb ab ib lb,H']):=by
 refine Tri.forget (zm Tryz.Gz (Nat.le_of_ble_eq_true rfl) ?_);unfold Tryz.x104;have hz8:([.int .u8 0,.int .u8 0,.int .u8 0,.int .u8 0,.int .u8 0,.int .u8 0,.int .u8 0,.int .u8 0]:List Value)=cells (Yk v 0):=rfl;rw[hz8];refine ze (z8 ?_);refine zh (Z9 fun p6=>?_);refine zf (za (ze (ze (z8 (yp pC (zf (za (zq ?_))))))));refine Z6 (σ:=Nat) (fun k E S=>Has E [(0,.pointer (some ⟨tb,0,none⟩)),(1,.int .i64 i),(2,.int .i64 (v:Int)),(6,.pointer (some ⟨p6,0,none⟩)),(8,.int .i64 (k:Int))]∧k≤8∧zD S [[(p6,.cells (cells (Yk v k)).toArray 204)],Wp tb ab ib lb,H]) (fun k=>8-k) 0 ⟨⟨rfl,rfl,rfl,rfl,rfl,trivial⟩,Nat.zero_le _,.of⟩ fun k E S ⟨hE,hk,hJ⟩=>?_
 have hal:=Jo (n:=v) hk;obtain⟨E0,e0⟩:=zy hE; subst e0; clear hE;refine zn hJ (ze (z8 (yp (ZO rfl rfl) (zf (za (ze ?_))))));refine zQ rfl (fun h=>?_) (fun h=>?_)
 ·have hlt:k<8:=by omega
  refine zw (za (ze (zq (ze (z8 (yp (pI rfl) (yp (pI rfl) (zf (za (z8 (yp (pI rfl) (yp (pI rfl) (yp (pI rfl) (yp (xq (j:=8) (k:=k) rfl rfl (by omega)) (yp (jR rfl rfl (by omega)) (yp (DW rfl) (yp (nS (k:=(k:Int)) rfl rfl (by omega)) ?_)))))))))))))))));rw[Int.toNat_natCast];refine zh (Zh (M:=Yk v k) (i:=k) (y:=UInt8.ofNat (v/2 ^ (8*k))) rfl (by omega) rfl rfl (.inl rfl) ?_);rw[lg hlt];refine zf (zS (za (z8 (yp (Zg rfl rfl (by omega)) (yp (pI rfl) (zf (za ?_)))))));exact⟨k+1,⟨⟨rfl,rfl,rfl,rfl,rfl,trivial⟩,by omega,.of⟩,by omega⟩
 ·have hk8:k=8:=by omega
  subst hk8;rw[lq];obtain⟨hp,hw⟩:=qJ (v:=v) hb;refine zW (zF (zF (zZ (za (zX (zi (pP rfl) (zi (zK rfl) (zi (zo rfl) (zV rfl rfl (zi (pI rfl) (zi (v:= .slice (some ⟨p6,0,none⟩) 8 8) rfl ?_)))))))))));refine zO (zk (KZ (S0:=[[(p6,.cells (cells (Vl v)).toArray 204)]]) hA i 0 (Y:=Vl v) (.Lc List.mem_cons_self (ZI v).symm) (by rw[ZI]; decide)) rfl rfl fun r S' h=>?_) zN;obtain⟨rfl,H2,hA2,rfl⟩:=h;rw[hw] at hA2;refine zL ?_;exact ZQ ZX ⟨_,.of,rfl,H2,hA2,rfl⟩
/-- which blocks there are, and how big -/
def bT(D:List (Option Bt)):List (Option Nat):=D.map (Option.map List.length)
theorem XP{D:List (Option Bt)}{h:Int}{b Y:Bt}(hg:Zj D h=some b)(hl:Y.length=b.length):bT (D.set (h-1).toNat (some Y))=bT D:=by
 obtain⟨j,rfl,hj⟩:=VZ hg;rw[show((j:Int)+1-1).toNat=j from by omega];unfold bT;refine List.ext_getElem? fun i=>?_
 rw[List.getElem?_map,List.getElem?_map,List.getElem?_set];split
 ·next h=>subst h; rw[if_pos (List.getElem?_eq_some_iff.1 hj).1,hj]; simp[hl]
 ·rfl
/-! ### small letters once and again -/
theorem o9(b:UInt8):low (low b)=low b:=by
 unfold low;by_cases h:65≤b.toNat∧b.toNat≤90
 ·rw[if_pos h];have:(UInt8.ofNat (b.toNat+32)).toNat=(b.toNat+32)%256:=by simp
  rw[if_neg (by rw[this]; omega)]
 ·rw[if_neg h,if_neg h]
theorem KH:∀(f:Nat) (Y:Bs) (a:Nat),Un f (Y.map low) a=Un f Y a
 | 0,_,_=>rfl
 | f+1,Y,a=>by
  unfold Un;rw[List.getElem?_map];cases hy:Y[a]? with
  | none=>rfl
  | some b=>
   simp only[Option.map_some];have hlow:(low b).toNat=b.toNat∨(63<(low b).toNat∧63<b.toNat):=by
    unfold low;by_cases h:65≤b.toNat∧b.toNat≤90
    ·rw[if_pos h];have:(UInt8.ofNat (b.toNat+32)).toNat=(b.toNat+32)%256:=by simp
     right; omega
    ·rw[if_neg h]; exact .inl rfl
   by_cases h1:255≤a
   ·rw[if_pos h1,if_pos h1]
   ·rw[if_neg h1,if_neg h1];rcases hlow with h | ⟨h2,h3⟩
    ·rw[h,KH f Y]
    ·rw[if_neg (show ¬(low b).toNat=0 from by omega),if_pos h2,if_neg (show ¬b.toNat=0 from by omega),if_pos h3]
theorem Qa(Y:Bs):wR (Y.map low)=wR Y:=by
 unfold wR lead;rw[KH,List.length_map]
theorem VK(Y:Bs):wR (zB Y)=wR Y:=by
 unfold zB;split
 ·exact Qa Y
 ·rfl
theorem Xf(Y:Bs):zB (zB Y)=zB Y:=by
 unfold zB;by_cases h:wR Y=true
 ·rw[if_pos h,if_pos (by rw[Qa]; exact h),List.map_map];exact List.map_congr_left fun b _=>o9 b
 ·rw[if_neg h,if_neg h]
/-! ### Add -/
def WJ(N:Nat)(D:List (Option Bt))(L:List Nm)(Y:Bs):Int:=if wR Y=false then 2 else if(Vp L (zB Y)).isSome then 0 else ZG N D (8+(Y.length:Int))
def ZM(D:List (Option Bt))(L:List Nm)(n:Bs):List Nm:=match VG n L with
 | some j=>(match L[j]? with | some e=>reuse L j e (e.u+1) | none=>L)
 | none=>L++[⟨((hnd D:Nat):Int),n,1⟩]
def U8(D:List (Option Bt))(L:List Nm)(n:Bs):Int:=((Vp L n).map (·.id)).getD ((hnd D:Nat):Int)
def WK(D:List (Option Bt))(L:List Nm)(n:Bs):List (Option Bt):=if(Vp L n).isSome then D else ZH D (8+n.length)
theorem vO{L:List Nm}{n:Bs}{e:Nm}(h:Vp L n=some e):∃j,VG n L=some j∧L[j]?=some e∧e.n=n:=by
 unfold Vp at h;cases hx:VG n L with
 | none=>rw[hx] at h; cases h
 | some j=>
  obtain⟨e',h1,h2⟩:=xC hx;rw[hx] at h;simp only[Option.bind_some,h1] at h;obtain rfl:=Option.some.inj h;exact⟨j,rfl,h1,h2⟩
theorem WI{L:List Nm}{n:Bs}(h:Vp L n=none):VG n L=none:=by
 unfold Vp at h;cases hx:VG n L with
 | none=>rfl
 | some j=>
  obtain⟨e',h1,h2⟩:=xC hx;rw[hx] at h;simp only[Option.bind_some,h1] at h;cases h
/-- a name's uses change, in the arena and in the list -/
theorem vg.reuse{D:List (Option Bt)}{L:List Nm}{B:List (Int × Bs)}(h:vg D L B){j:Nat}{e:Nm}{v:Nat}(he:L[j]?=some e)(hv:v<2 ^ 60):vg (D.set (e.id-1).toNat (some (Vl v++e.n))) (reuse L j e v) B:=by
 have hem:=List.mem_of_getElem? he;have hb:=h.blk e hem;refine⟨h.dis.reuse he,fun x hx=>?_,fun x hx=>⟨?_,fun y hy=>?_⟩,fun i b hib=>?_,fun x hx=>?_,fun x hx=>?_⟩
 ·rw[WE hb];obtain⟨i,hi⟩:=List.mem_iff_getElem?.1 hx;unfold Proofs.YtejmbmenbailmaaGreat.reuse at hi;rw[List.getElem?_set] at hi;split at hi
  ·next hij=>
   subst hij;rw[if_pos (List.getElem?_eq_some_iff.1 he).1] at hi;obtain rfl:=(Option.some.inj hi).symm;rw[if_pos rfl]
  ·next hij=>
   have hne:x.id≠e.id:=fun h2=>by
    have h3:(L.map (·.id))[i]?=some e.id:=by rw[List.getElem?_map,hi,Option.map_some,h2]
    have h4:(L.map (·.id))[j]?=some e.id:=by rw[List.getElem?_map,he,Option.map_some]
    exact hij ((List.getElem?_inj (List.getElem?_eq_some_iff.1 h3).1 h.dis.ids).1 (h3.trans h4.symm)).symm
   rw[if_neg hne];exact h.blk x (List.mem_of_getElem? hi)
 ·rw[WE hb,if_neg fun h2=>(h.oth x hx).2 e hem h2.symm]; exact(h.oth x hx).1
 ·obtain⟨z,hz,h2,_⟩:=VU he hy;rw[←h2]; exact(h.oth x hx).2 z hz
 ·rw[WE hb] at hib;have hin:∀y∈L,y.id=i→∃x∈Proofs.YtejmbmenbailmaaGreat.reuse L j e v,x.id=i:=fun y hy hyi=>by
   obtain⟨x,hx,h2,_⟩:=WS (u:=v) he hy;exact⟨x,hx,h2.trans hyi⟩
  by_cases h2:i=e.id
  ·exact .inl (hin e hem h2.symm)
  ·rw[if_neg h2] at hib;rcases h.all i b hib with⟨y,hy,hyi⟩ | hx
   ·exact .inl (hin y hy hyi)
   ·exact .inr hx
 ·unfold Proofs.YtejmbmenbailmaaGreat.reuse at hx;rcases List.mem_or_eq_of_mem_set hx with hx | rfl
  ·exact h.us x hx
  ·exact hv
 ·obtain⟨y,hy,_,h2⟩:=VU he hx;rw[←h2]; exact h.fold y hy
/-- a new name, not yet used -/
theorem vg.new{D:List (Option Bt)}{L:List Nm}{B:List (Int × Bs)}(h:vg D L B){n:Bs}(hn:VG n L=none)(hv:wR n=true)(hf:zB n=n):
 vg ((ZH D (8+n.length)).set (hnd D-1) (some (Vl 0++n))) (L++[⟨((hnd D:Nat):Int),n,0⟩]) B:=by
 have hno:Zj D ((hnd D:Nat):Int)=none:=by
  have:=vK D;have hp:=wO D;rw[show((hnd D:Nat):Int)=((hnd D-1:Nat):Int)+1 from by omega,ZE]; exact this
 have hid:∀x∈L,x.id≠((hnd D:Nat):Int):=fun x hx e=>by
  have:=h.blk x hx;rw[e,hno] at this; cases this
 have hg:=wZ D (8+n.length);have hidx:(((hnd D:Nat):Int)-1).toNat=hnd D-1:=by have:=wO D; omega
 have hset:=fun k=>WE (Y:=Vl 0++n) hg k
 rw[hidx] at hset;refine⟨h.dis.add hid (Vb hn),fun x hx=>?_,fun x hx=>?_,fun i b hib=>?_,fun x hx=>?_,fun x hx=>?_⟩
 ·rw[hset];rcases List.mem_append.1 hx with hx | hx
  ·rw[if_neg (hid x hx),Zw (hid x hx)]; exact h.blk x hx
  ·rw[List.mem_singleton.1 hx,if_pos rfl]
 ·obtain⟨h1,h2⟩:=h.oth x hx;have hne:x.1≠((hnd D:Nat):Int):=fun e=>by rw[e,hno] at h1; cases h1
  refine⟨?_,fun e he=>?_⟩
  ·rw[hset,if_neg hne,Zw hne]; exact h1
  ·rcases List.mem_append.1 he with he | he
   ·exact h2 e he
   ·rw[List.mem_singleton.1 he]; exact fun h3=>hne h3.symm
 ·rw[hset] at hib;by_cases h2:i=((hnd D:Nat):Int)
  ·exact .inl ⟨⟨((hnd D:Nat):Int),n,0⟩,by simp,h2.symm⟩
  ·rw[if_neg h2,Zw h2] at hib;rcases h.all i b hib with⟨y,hy,hyi⟩ | hx
   ·exact .inl ⟨y,List.mem_append.2 (.inl hy),hyi⟩
   ·exact .inr hx
 ·rcases List.mem_append.1 hx with hx | hx
  ·exact h.us x hx
  ·rw[List.mem_singleton.1 hx]; exact Nat.pow_pos (by decide)
 ·rcases List.mem_append.1 hx with hx | hx
  ·exact h.fold x hx
  ·rw[List.mem_singleton.1 hx]; exact⟨hv,hf⟩
theorem Tb.reuse{tb ab:Nat}{L:List Nm}{T:List Chunk}(h:Tb tb ab L T)(hd:xP L){j:Nat}{e:Nm}{v:Nat}(he:L[j]?=some e):Tb tb ab (reuse L j e v) T:=by
 obtain⟨ib,lb,HI,HG,h1,h2,rfl⟩:=h;refine⟨ib,lb,HI,HG,?_,?_,rfl⟩
 ·rw[qm hd he]; unfold Proofs.YtejmbmenbailmaaGreat.reuse; rw[List.length_set]; exact h1
 ·rw[Js he]; unfold Proofs.YtejmbmenbailmaaGreat.reuse; rw[List.length_set]; exact h2
theorem bA{Y:Bs}(h:wR Y=true):wR (zB Y)=true∧zB (zB Y)=zB Y:=⟨by rw[VK]; exact h,Xf Y⟩
set_option maxRecDepth 10000 in
set_option maxHeartbeats 1000000 in
theorem Dj{tb ab N:Nat}{D:List (Option Bt)}{H:List Chunk}{L:List Nm}{T:List Chunk}{B:List (Int × Bs)}(hT:Tb tb ab L T)(hA:Ar ab N D H)(hI:vg D L B)(hu:∀e∈L,e.u+1<2 ^ 60)(Y:Bs)(hY:Y.length<2 ^ 62):
 Tri Tryz.prog 59 #[.pointer (some ⟨tb,0,none⟩),sv Y] [T,H] (fun r S=>
  (WJ N D L Y≠0∧r= .tuple #[.int .i64 0,.int .i64 (WJ N D L Y)]∧S=[T,H])∨
  (WJ N D L Y=0∧∃(T' H':List Chunk) (D':List (Option Bt)),r= .tuple #[.int .i64 (U8 D L (zB Y)),.int .i64 0]∧Tb tb ab (ZM D L (zB Y)) T'∧Ar ab N D' H'∧vg D' (ZM D L (zB Y)) B∧bT D'=bT (WK D L (zB Y))∧S=[T',H'])):=by
 obtain⟨ib,lb,HI,HG,hMI,hMG,rfl⟩:=hT;refine Tri.forget (Tri.perm (S:=[Wp tb ab ib lb,HI,HG,H]) (by simp) (zm Tryz.M8 (Nat.le_of_ble_eq_true rfl) ?_));unfold Tryz.Ns;have hback:∀{S':zu},zD S' [Wp tb ab ib lb,HI,HG,H]→zD S' [Wp tb ab ib lb++HI++HG,H]:=fun h=>h.trans ⟨[],by simp⟩
 refine ze (z8 (yp pC (yp pC (zf (za (ze (zq (ze (z8 (yp (pT rfl) ?_))))))))));refine zh (zk (vB Y hY) rfl rfl fun r S' h=>?_);obtain⟨rfl,rfl⟩:=h;cases hv:wR Y with
 | false=>
  have hE:WJ N D L Y=2:=by unfold WJ; rw[if_pos hv]
  refine yp (Zi rfl) (yp (pB rfl) (zf (za (zH rfl (ze (z8 (yp pC (yp pC (zf (za (zJ (bret (zU ?_)))))))))))));exact zI (jP rfl rfl) ⟨_,hback .of,.inl ⟨by rw[hE]; decide,by rw[hE],rfl⟩⟩
 | true=>
 obtain⟨hvn,hfn⟩:=bA hv;have hfl:=Wh Y;have h255:=wM hv;refine yp (Zi rfl) (yp (pB rfl) (zf (za (zA rfl (ze (z8 (yp (pP rfl) ?_)))))));refine zh (zk (Ki (tb:=tb) (ab:=ab) (ib:=ib) (lb:=lb)) rfl rfl fun r S' h=>?_);obtain⟨rfl,rfl⟩:=h;refine yp (pB rfl) (zf (za (zA rfl (zw (zS (za (ze (z8 (yp (pT rfl) ?_)))))))));refine zh (zk (KE Y hY) rfl rfl fun r S' h=>?_);obtain⟨rfl,rfl⟩:=h;have hid:uQ L ⟨(zB Y).toArray⟩=(Vp L (zB Y)).map (·.id):=by
  unfold uQ Vp;cases VG (zB Y) L<;>rfl
 generalize hn:zB Y=n at*
 refine yp (pT rfl) (zf (za (ze (z8 (yp (pP rfl) (yp (zK rfl) (yp (zo rfl) ?_)))))));refine zh (zx rfl rfl ?_);refine yp (pT rfl) ?_;refine zh (d9 (v:= .int .i64 (((Vp L n).map (·.id)).getD 0)) (bl:=(Vp L n).isSome) hMI (by simp) (⟨n.toArray⟩:ByteArray) Kg xV JC rfl rfl ?_ ?_ ?_)
 ·rw[hid]; cases Vp L n<;>rfl
 ·rw[hid]; cases Vp L n<;>rfl
 refine yp (pU rfl) (yp (pExt rfl rfl) (yp (pExt rfl rfl) (yp (pI rfl) (yp (pB rfl) (zf (za ?_))))));refine YI (fun E S'=>∃(ib lb:Nat) (L1:List Nm) (HI HG H1:List Chunk) (D1:List (Option Bt)) (j:Nat) (e:Nm),Has E [(0,.pointer (some ⟨tb,0,none⟩)),(6,.int .i64 e.id)]∧Mp ib (uQ L1) L1.length HI∧Mp lb (WO L1) L1.length HG∧Ar ab N D1 H1∧vg D1 L1 B∧L1[j]?=some e∧e.u+1<2 ^ 60∧
  WJ N D L Y=0∧e.id=U8 D L n∧reuse L1 j e (e.u+1)=ZM D L n∧bT D1=bT (WK D L n)∧zD S' [Wp tb ab ib lb,HI,HG,H1]) ?_ ?_
 ·cases hb:Vp L n with
  | some e=>
   obtain⟨j,h1,h2,h3⟩:=vO hb;have hE:WJ N D L Y=0:=by unfold WJ; rw[if_neg (by rw[hv]; decide),hn,hb]; rfl
   refine ze (z8 (yp (pB rfl) (yp (Zi rfl) (zf (za (zA rfl (zw (za ?_))))))));refine⟨ib,lb,L,HI,HG,H,D,j,e,⟨rfl,rfl,trivial⟩,hMI,hMG,hA,hI,h2,hu e (List.mem_of_getElem? h2),hE,?_,?_,?_,.of⟩
   ·unfold U8; rw[hb]; rfl
   ·unfold ZM; rw[h1]; simp only[h2]
   ·unfold WK; rw[hb]; rfl
  | none=>
   have h1:=WI hb;have hEa:WJ N D L Y=ZG N D (8+(n.length:Int)):=by unfold WJ; rw[if_neg (by rw[hv]; decide),hn,hb,if_neg (by decide),hfl]
   refine ze (z8 (yp (pB rfl) (yp (Zi rfl) (zf (za (zH rfl (ze (z8 (yp (pP rfl) (yp (zK rfl) (yp (zo rfl) ?_)))))))))));refine zh (zx rfl rfl ?_);refine yp (pT rfl) (yp (uW rfl) ?_);rw[Qe];refine yp (WT rfl rfl (by omega)) ?_;refine zh (zk (j4 hA ((8+n.length:Nat):Int)) rfl rfl fun r S' h=>?_);rw[show((8+n.length:Nat):Int)=8+(n.length:Int) from by omega] at h;rcases h with⟨he,rfl,rfl⟩ | ⟨he,m,H1,hm,rfl,hA1,rfl⟩
   ·rw[←hEa] at he ⊢;refine yp (pU rfl) (yp (pExt rfl rfl) (yp (pExt rfl rfl) (yp (pI rfl) (yp (pI rfl) (zf (za (ze (ze (z8 (yp (pI rfl) (yp (xk rfl rfl) (zf (za ?_)))))))))))));refine VD rfl (fun _=>?_) (fun h2=>absurd h2 he);refine ze (z8 (yp (pI rfl) (yp pC (yp (pI rfl) (zf (za (zJ (zU (zU ?_)))))))));exact zI (jP rfl rfl) ⟨_,hback .of,.inl ⟨he,rfl,rfl⟩⟩
   obtain rfl:m=8+n.length:=by omega
   have hnew:=hI.new h1 hvn (by rw[←hn]; exact Xf Y);have hno:Zj D ((hnd D:Nat):Int)=none:=by
    have:=vK D;have hp:=wO D;rw[show((hnd D:Nat):Int)=((hnd D-1:Nat):Int)+1 from by omega,ZE]; exact this
   have hidn:∀x∈L,x.id≠(⟨((hnd D:Nat):Int),n,0⟩:Nm).id:=fun x hx e=>by
    have:=hI.blk x hx;rw[e,hno] at this; cases this
   have hnn:∀x∈L,x.n≠(⟨((hnd D:Nat):Int),n,0⟩:Nm).n:=Vb h1;have hf1:=iE hI.dis hidn hnn;have hf2:=bO (L:=L) (e:=⟨((hnd D:Nat):Int),n,0⟩);have hi0:uQ L ⟨n.toArray⟩=none:=by rw[hid,hb]; rfl
   have ha0:WO L ((hnd D:Nat):Int)=none:=by
    cases hx:WO L ((hnd D:Nat):Int) with
    | none=>rfl
    | some b=>obtain⟨_,x,hx1,hx2⟩:=Wz.1 hx; exact absurd hx2 (hidn x hx1)
   refine yp (pU rfl) (yp (pExt rfl rfl) (yp (pExt rfl rfl) (yp (pI rfl) (yp (pI rfl) (zf (za (ze ?_)))))))
   skip
   refine ze (z8 (yp (pI rfl) (yp (xk rfl rfl) (zf (za (zA rfl (zw (za (ze (Vg (R:=[Wp tb ab ib lb]) (by simp) (zi (pP rfl) (zi (zK rfl) (zi (zo rfl) (zV rfl rfl (zi (pT rfl) (zi (pP rfl) (zi (zK rfl) (zi (zo rfl) (zV rfl rfl (zi (pI rfl) (zi (pI rfl) (zi (pI rfl) (zi (pI rfl) ?_)))))))))))))))))))))));refine zO (YH (z0:=(0:Int)) hMI (⟨n.toArray⟩:ByteArray) Kg xV JC rfl rfl fun s1 HI1 hS1=>?_) zN;refine zi (pExt rfl rfl) ?_;refine zO (Xp (v:=((hnd D:Nat):Int)) hS1 rfl rfl rfl fun HI2 hMI2=>?_) zN;refine zO (YH (z0:=false) hMG ((hnd D:Nat):Int) Kh Ke XH rfl rfl fun s2 HG1 hS2=>?_) zN;refine zi (pExt rfl rfl) ?_;refine zO (Xp (v:=true) hS2 rfl rfl rfl fun HG2 hMG2=>?_) zN;rw[aU] at hMI2 hMG2;have hc1:XB (uQ L) (⟨n.toArray⟩:ByteArray) L.length=(L++[(⟨((hnd D:Nat):Int),n,0⟩:Nm)]).length:=by unfold XB; rw[hi0]; simp
   have hc2:XB (WO L) ((hnd D:Nat):Int) L.length=(L++[(⟨((hnd D:Nat):Int),n,0⟩:Nm)]).length:=by unfold XB; rw[ha0]; simp
   rw[hc1, ←hf1] at hMI2;rw[hc2, ←hf2] at hMG2;refine zL (za (z8 (yp (pP rfl) (yp (zK rfl) (yp (zo rfl) ?_)))));refine zh (zx rfl rfl ?_);refine yp (pI rfl) (yp (pT rfl) ?_);refine zh (BK rfl fun v Hs hLs=>?_);have hLs:Za 5 v n Hs:=hLs
   skip
   have hg:=wZ D (8+n.length);have hp:ZT (ZH D (8+n.length)) ((hnd D:Nat):Int) 8 (n.length:Nat)=0:=by
    unfold ZT; rw[hg]; exact if_neg (by rw[bZ]; omega)
   have hw:uf (ZH D (8+n.length)) ((hnd D:Nat):Int) 8 n=(ZH D (8+n.length)).set (hnd D-1) (some (Vl 0++n)):=by
    unfold uf;rw[if_pos hp,hg];have hidx:(((hnd D:Nat):Int)-1).toNat=hnd D-1:=by have:=wO D; omega
    rw[hidx];refine congrArg (fun z=>(ZH D (8+n.length)).set (hnd D-1) (some z)) ?_;show spl (zeros (8+n.length)) 8 n=Vl 0++n;unfold spl zeros;rw[List.take_replicate,List.drop_replicate,Nat.min_eq_left (by omega),Nat.sub_self,List.replicate_zero,List.append_nil];rfl
   refine zh (zk (KZ (S0:=[Hs]) hA1 ((hnd D:Nat):Int) 8 (Y:=n) (hLs.src (by simp)) (by show n.length≤9223372036854775807; omega)) rfl rfl fun r S' h=>?_);obtain⟨rfl,H2,hA2,rfl⟩:=h;rw[hw] at hA2;refine zf (za ?_);refine⟨ib,lb,L++[⟨((hnd D:Nat):Int),n,0⟩],HI2,HG2,H2,_,L.length,⟨((hnd D:Nat):Int),n,0⟩,⟨rfl,rfl,trivial⟩,hMI2,hMG2,hA2,hnew,by simp,(by show 0+1<2 ^ 60; decide),by rw[hEa]; exact he,?_,?_,?_,.of⟩
   ·unfold U8; rw[hb]; rfl
   ·unfold ZM reuse; rw[h1]; simp
   ·have hlen:(Vl 0++n).length=(zeros (8+n.length)).length:=by rw[List.length_append,ZI,bZ]
    have hidx:(((hnd D:Nat):Int)-1).toNat=hnd D-1:=by have:=wO D; omega
    have:=XP (Y:=Vl 0++n) hg hlen;rw[hidx] at this;rw[this]; unfold WK; rw[hb]; rfl
 clear hback hMI hMG;intro E S' ⟨ib,lb,L1,HI1,HG1,H1,D1,j,e,hE,hMI1,hMG1,hA1,hI1,hj,heu,hE0,hea,hre,hsh,hJ⟩;have hem:=List.mem_of_getElem? hj;have hblk:=hI1.blk e hem;obtain⟨E0,e0⟩:=zy hE; subst e0; clear hE;refine zn hJ (zn (zD.re (S1:=[Wp tb ab ib lb,HI1,HG1,H1]) (S2:=[Wp tb ab ib lb++HI1++HG1,H1]) (by simp)) ?_);have hby:Yz L1 e.id=some e:=by unfold Yz; rw[QB hI1.dis.ids hj]; exact hj
 refine ze (z8 (yp (pP rfl) (yp (pI rfl) (yp (pP rfl) (yp (pI rfl) ?_)))));refine zh (zk (dQ (Tb.mk hMI1 hMG1) hA1 hI1 e.id) rfl rfl fun r S' h=>?_);obtain⟨rfl,rfl⟩:=h;rw[hby];refine UN (zD.re (S1:=[Wp tb ab ib lb++HI1++HG1,H1]) (S2:=[Wp tb ab ib lb,HI1,HG1,H1]) (by simp)) ?_;have heu2:e.u<2 ^ 60:=by omega
 show YL _ _ _ _ _ (Zf _ (.int .i64 (e.u:Int)) _) _;refine yp (Zg rfl rfl (by omega)) ?_;refine zh (zk (rG (tb:=tb) (ib:=ib) (lb:=lb) hA1 hblk (e.u+1) heu) rfl rfl fun r S' h=>?_);obtain⟨rfl,H2,hA2,rfl⟩:=h;have hlen:(Vl (e.u+1)++e.n).length=(Vl e.u++e.n).length:=by rw[List.length_append,List.length_append,ZI,ZI]
 have hI2:=hI1.reuse hj heu;have hT2:=Tb.reuse (v:=e.u+1) (Tb.mk (tb:=tb) (ab:=ab) hMI1 hMG1) hI1.dis hj;have hs2:=XP hblk hlen;rw[hre] at hI2 hT2;refine zf (za (ze (z8 (yp (pI rfl) (yp (pI rfl) (yp pC (zf (za (zJ ?_)))))))));exact zI (jP rfl rfl) ⟨[Wp tb ab ib lb++HI1++HG1,H2],zD.re (S1:=[Wp tb ab ib lb,HI1,HG1,H2]) (by simp),.inr ⟨hE0,_,H2,_,by rw[hea],hT2,hA2,hI2,hs2.trans hsh,rfl⟩⟩
def Pos(L:List Nm):Prop:=∀e∈L,1≤e.u
def QW(L:List Nm)(i:Int):Int:=if(Yz L i).isSome then 0 else 5
def vL(L:List Nm)(i:Int):List Nm:=match VR i L with
 | some j=>(match L[j]? with | some e=>if e.u=1 then L.eraseIdx j else reuse L j e (e.u-1) | none=>L)
 | none=>L
def Uw(D:List (Option Bt))(L:List Nm)(i:Int):List (Option Bt):=match Yz L i with
 | some e=>if e.u=1 then WM D i else D
 | none=>D
theorem kI{D:List (Option Bt)}{i:Int}{b:Bt}(hb:Zj D i=some b):Zj (WM D i) i=none:=by
 obtain⟨j,rfl,hj⟩:=VZ hb;unfold WM;rw[hb,if_pos (show(some b).isSome=true from rfl),ZE,show((j:Int)+1-1).toNat=j from by omega,List.getElem?_set_self (List.getElem?_eq_some_iff.1 hj).1]; rfl
theorem vg.drop{D:List (Option Bt)}{L:List Nm}{B:List (Int × Bs)}(h:vg D L B){j:Nat}{e:Nm}(he:L[j]?=some e):vg (WM D e.id) (L.eraseIdx j) B:=by
 have hb:=h.blk e (List.mem_of_getElem? he);have hself:=kI hb;refine⟨h.dis.erase j,fun x hx=>?_,fun x hx=>⟨?_,fun y hy=>?_⟩,fun i b hib=>?_,fun x hx=>?_,fun x hx=>?_⟩
 ·obtain⟨h1,h2,_⟩:=Wy h.dis he hx;rw[wh h2]; exact h.blk x h1
 ·rw[wh fun h2=>(h.oth x hx).2 e (List.mem_of_getElem? he) h2.symm]; exact(h.oth x hx).1
 ·exact(h.oth x hx).2 y (Wy h.dis he hy).1
 ·by_cases h2:i=e.id
  ·rw[h2,hself] at hib; cases hib
  ·rw[wh h2] at hib;rcases h.all i b hib with⟨y,hy,hyi⟩ | hx
   ·exact .inl ⟨y,mem_erase he hy (.inl fun h3=>h2 (hyi.symm.trans h3)),hyi⟩
   ·exact .inr hx
 ·exact h.us x (Wy h.dis he hx).1
 ·exact h.fold x (Wy h.dis he hx).1
theorem iJ{D:List (Option Bt)}{i:Int}{b Y:Bt}(hb:Zj D i=some b):WM (D.set (i-1).toNat (some Y)) i=WM D i:=by
 have h1:=WE (Y:=Y) hb i;rw[if_pos rfl] at h1;unfold WM;rw[h1,hb,if_pos (show(some Y).isSome=true from rfl),if_pos (show(some b).isSome=true from rfl),List.set_set]
set_option maxRecDepth 10000 in
set_option maxHeartbeats 1000000 in
theorem dR{tb ab N:Nat}{D:List (Option Bt)}{H:List Chunk}{L:List Nm}{T:List Chunk}{B:List (Int × Bs)}(hT:Tb tb ab L T)(hA:Ar ab N D H)(hI:vg D L B)(hP:Pos L)(i:Int):
 Tri Tryz.prog 61 #[.pointer (some ⟨tb,0,none⟩),.int .i64 i] [T,H] (fun r S=>r= .int .i64 (QW L i)∧∃(T' H':List Chunk) (D':List (Option Bt)),Tb tb ab (vL L i) T'∧Ar ab N D' H'∧vg D' (vL L i) B∧bT D'=bT (Uw D L i)∧S=[T',H']):=by
 refine Tri.forget (zm Tryz.M6 (Nat.le_of_ble_eq_true rfl) ?_);unfold Tryz.Nq;refine ze (z8 (yp pC (zf (za (ze (z8 (yp (pP rfl) (yp (pI rfl) ?_))))))));refine zh (zk (JJ hT hA hI i) rfl rfl fun r S' h=>?_);obtain⟨rfl,rfl⟩:=h;cases hb:Yz L i with
 | none=>
  have h1:=Jk hb;refine yp (pU rfl) (yp (pExt rfl rfl) (yp (pExt rfl rfl) (yp (pT rfl) (yp (pB rfl) (zf (za (ze (ze (z8 (yp (pB rfl) (yp (Zi rfl) (zf (za (zH rfl (ze (z8 (yp pC (zf (za (zJ (zU ?_)))))))))))))))))))));refine zI (rI rfl) ⟨_,.of,by unfold QW; rw[hb]; rfl,T,H,D,?_,hA,?_,?_,rfl⟩
  ·unfold vL; rw[h1]; exact hT
  ·unfold vL; rw[h1]; exact hI
  ·unfold Uw; rw[hb]
 | some e=>
  obtain⟨j,h1,h2,rfl⟩:=Yh hb;have hem:=List.mem_of_getElem? h2;have hpos:=hP e hem;have hblk:=hI.blk e hem;have hus:=hI.us e hem;have hu1:e.u-1<2 ^ 60:=by omega
  have hlen:(Vl (e.u-1)++e.n).length=(Vl e.u++e.n).length:=by rw[List.length_append,List.length_append,ZI,ZI]
  have hR:QW L e.id=0:=by unfold QW; rw[hb]; rfl
  have hLd:vL L e.id=if e.u=1 then L.eraseIdx j else reuse L j e (e.u-1):=by unfold vL; rw[h1]; simp only[h2]
  have hDd:Uw D L e.id=if e.u=1 then WM D e.id else D:=by unfold Uw; rw[hb]
  refine yp (pU rfl) (yp (pExt rfl rfl) (yp (pExt rfl rfl) (yp (pT rfl) (yp (pB rfl) (zf (za (ze (ze (z8 (yp (pB rfl) (yp (Zi rfl) (zf (za (zA rfl (zw (za (ze (z8 (yp (pP rfl) (yp (pI rfl) ?_))))))))))))))))))));refine zh (zk (dQ hT hA hI e.id) rfl rfl fun r S' h=>?_);obtain⟨rfl,rfl⟩:=h;rw[hb];have hT0:=hT;obtain⟨ib,lb,HI,HG,hMI,hMG,rfl⟩:=hT;refine UN (zD.re (S1:=[Wp tb ab ib lb++HI++HG,H]) (S2:=[Wp tb ab ib lb,HI,HG,H]) (by simp)) ?_;show YL _ _ _ _ _ (Zf _ (.int .i64 (e.u:Int)) _) _;refine yp (ZY rfl rfl (by omega)) (yp (pI rfl) (zf (za (ze (z8 (yp (pP rfl) (yp (pI rfl) (yp (pI rfl) ?_))))))));refine zh (zk (rG (tb:=tb) (ib:=ib) (lb:=lb) hA hblk (e.u-1) hu1) rfl rfl fun r S' h=>?_);obtain⟨rfl,H2,hA2,rfl⟩:=h;refine zf (za (ze (ze (z8 (yp (pI rfl) (yp (WL rfl rfl) (zf (za ?_))))))));by_cases hu:e.u=1
  ·rw[if_pos hu] at hLd hDd;rw[decide_eq_true (show((e.u-1:Nat):Int)=0 from by omega)];refine zH rfl (ze (z8 (yp (pP rfl) (yp (zK rfl) (yp (zo rfl) ?_)))));refine zh (zx rfl rfl ?_);refine yp (pT rfl) ?_;refine zh (cZ hMI (⟨e.n.toArray⟩:ByteArray) Kg xV rfl rfl fun HI2 hMI2=>?_);refine zf (za (ze (z8 (yp (pP rfl) (yp (zK rfl) (yp (zo rfl) ?_))))));refine zh (zx rfl rfl ?_);refine yp (pI rfl) ?_;refine zh (cZ hMG e.id Kh Ke rfl rfl fun HG2 hMG2=>?_);refine zf (za (z8 (yp (pP rfl) (yp (zK rfl) (yp (zo rfl) ?_)))));refine zh (zx rfl rfl ?_);refine yp (pI rfl) ?_;refine zh (zk (lH hA2 e.id) rfl rfl fun r S' h=>?_);obtain⟨rfl,H3,hA3,rfl⟩:=h;rw[iJ hblk] at hA3;have hc1:KF (uQ L) (⟨e.n.toArray⟩:ByteArray) L.length=(L.eraseIdx j).length:=by
    unfold KF;rw[(Vn hI.dis).2 ⟨e,hem,rfl,rfl⟩,List.length_eraseIdx,if_pos (List.getElem?_eq_some_iff.1 h2).1]; rfl
   have hc2:KF (WO L) e.id L.length=(L.eraseIdx j).length:=by
    unfold KF;rw[Wz.2 ⟨rfl,e,hem,rfl⟩,List.length_eraseIdx,if_pos (List.getElem?_eq_some_iff.1 h2).1]; rfl
   rw[hc1, ←qo hI.dis h2] at hMI2;rw[hc2, ←Jt hI.dis h2] at hMG2;refine zf (za (ze (z8 (yp pC (zf (za (zJ ?_)))))));exact zI (rI rfl) ⟨[Wp tb ab ib lb++HI2++HG2,H3],zD.re (S1:=[Wp tb ab ib lb,HI2,HG2,H3]) (by simp),by rw[hR],_,H3,_,hLd▸Tb.mk hMI2 hMG2,hA3,hLd▸hI.drop h2,by rw[hDd],rfl⟩
  ·rw[if_neg hu] at hLd hDd;rw[decide_eq_false (show ¬((e.u-1:Nat):Int)=0 from by omega)];refine zA rfl (zw (za (ze (z8 (yp pC (zf (za (zJ ?_))))))));exact zI (rI rfl) ⟨[Wp tb ab ib lb++HI++HG,H2],zD.re (S1:=[Wp tb ab ib lb,HI,HG,H2]) (by simp),by rw[hR],_,H2,_,hLd▸Tb.reuse hT0 hI.dis h2,hA2,hLd▸hI.reuse h2 hu1,by rw[hDd]; exact XP hblk hlen,rfl⟩
theorem vg.nil:vg [] [] []:=⟨⟨List.nodup_nil,List.nodup_nil⟩,fun e he=>by simp at he,fun e he=>by simp at he,fun i b h=>by unfold Zj at h; split at h<;>simp at h,fun e he=>by simp at he,fun e he=>by simp at he⟩
theorem Pos.nil:Pos []:=fun e he=>by simp at he
theorem qF{L:List Nm}{e:Nm}(he:e∈L):(Vp L e.n).isSome=true:=by
 cases hb:Vp L e.n with
 | some x=>rfl
 | none=>exact absurd rfl (Vb (WI hb) e he)
theorem lM{D:List (Option Bt)}{L:List Nm}{n:Bs}{k:Nat}(h:∀e∈L,e.u≤k):∀e∈ZM D L n,e.u≤k+1:=fun e he=>by
 cases hb:Vp L n with
 | some x=>
  obtain⟨j,h1,h2,rfl⟩:=vO hb;have:ZM D L x.n=reuse L j x (x.u+1):=by unfold ZM; rw[h1]; simp only[h2]
  rw[this] at he;unfold reuse at he;rcases List.mem_or_eq_of_mem_set he with he | rfl
  ·have:=h e he; omega
  ·have:=h x (List.mem_of_getElem? h2); show x.u+1≤k+1; omega
 | none=>
  have:ZM D L n=L++[⟨((hnd D:Nat):Int),n,1⟩]:=by unfold ZM; rw[WI hb]
  rw[this] at he;rcases List.mem_append.1 he with he | he
  ·have:=h e he; omega
  ·rw[List.mem_singleton.1 he]; show 1≤k+1; omega
theorem lN{D:List (Option Bt)}{L:List Nm}{n:Bs}(h:Pos L):Pos (ZM D L n):=fun e he=>by
 cases hb:Vp L n with
 | some x=>
  obtain⟨j,h1,h2,rfl⟩:=vO hb;have:ZM D L x.n=reuse L j x (x.u+1):=by unfold ZM; rw[h1]; simp only[h2]
  rw[this] at he;unfold reuse at he;rcases List.mem_or_eq_of_mem_set he with he | rfl
  ·exact h e he
  ·show 1≤x.u+1; omega
 | none=>
  have:ZM D L n=L++[⟨((hnd D:Nat):Int),n,1⟩]:=by unfold ZM; rw[WI hb]
  rw[this] at he;rcases List.mem_append.1 he with he | he
  ·exact h e he
  ·rw[List.mem_singleton.1 he]; exact Nat.le_refl _
theorem bC{L:List Nm}{i:Int}(h:Pos L):Pos (vL L i):=fun e he=>by
 unfold vL at he;split at he
 ·split at he
  ·next x hx=>
   split at he
   ·exact h e ((List.eraseIdx_sublist _ _).subset he)
   ·next hu=>
    unfold reuse at he;rcases List.mem_or_eq_of_mem_set he with he | rfl
    ·exact h e he
    ·have:=h x (List.mem_of_getElem? hx); show 1≤x.u-1; omega
  ·exact h e he
 ·exact h e he
end Go.Proofs.YtejmbmenbailmaaGreat
