/- Names (chapter 1): what is a name, and with small letters; the program's, and the document's. The table of names (chapter 7), plainly: names by number and by letters, how often a name is used in eight bytes, arenas of like blocks. -/
import Derived.Test.YtekgciopamkjlaaGreatB3
import Derived.Test.YtekgciopamkjlaaGreatFNames
import Derived.Test.YtekgciopamkjlaaGreatA2
namespace Go.Proofs.YtekgciopamkjlaaGreat
open Go.Xs
open Enc (enc)
abbrev Bs:=List UInt8
/-- a text -/
abbrev sv(Y:Bs):Value:= .string ⟨Y.toArray⟩
def Ua:Nat→Bs→Nat→Nat × Bool
 | 0,_,_=>(0,false)
 | f+1,Y,a=>match Y[a]? with
  | some b=>if 255≤a then(0,false) else if b.toNat=0 then(a+1,true) else if 63<b.toNat then(0,false) else Ua f Y (a+1+b.toNat)
  | none=>(0,false)
def lead(Y:Bs):Nat × Bool:=Ua 256 Y 0
def wm(Y:Bs):Bool:=(lead Y).2 && (lead Y).1==Y.length
def low(b:UInt8):UInt8:=if 65≤b.toNat∧b.toNat≤90 then UInt8.ofNat (b.toNat+32) else b
def zM(Y:Bs):Bs:=if wm Y then Y.map low else Y
theorem Wp(Y:Bs):(zM Y).length=Y.length:=by unfold zM; split<;>simp
theorem JF{Y:Bs}{a:Nat}(h:Y.length≤a∨255≤a):∀f,Ua f Y a=(0,false)
 | 0=>rfl
 | f+1=>by
  unfold Ua;cases hy:Y[a]? with
  | none=>rfl
  | some b=>
   have:=(List.getElem?_eq_some_iff.1 hy).1;simp only;rw[if_pos (by omega)]
theorem XJ{Y:Bs}{a f:Nat}{b:UInt8}(hy:Y[a]?=some b)(ha:a<255):Ua (f+1) Y a=if b.toNat=0 then(a+1,true) else if 63<b.toNat then(0,false) else Ua f Y (a+1+b.toNat):=by
 rw[Ua,hy];simp only;rw[if_neg (by omega)]
theorem bM:∀(f:Nat) (Y:Bs) (a:Nat),(Ua f Y a).1≤255
 | 0,_,_=>Nat.zero_le _
 | f+1,Y,a=>by
  unfold Ua;split
  ·split
   ·exact Nat.zero_le _
   ·split
    ·show a+1≤255; omega
    ·split
     ·exact Nat.zero_le _
     ·exact bM f Y _
  ·exact Nat.zero_le _
theorem Wt{Y:Bs}(h:wm Y=true):Y.length≤255:=by
 unfold wm at h;have h1:=(Bool.and_eq_true _ _▸h).2;have:=bM 256 Y 0;have e:(lead Y).1=Y.length:=by simpa using h1
 unfold lead at e;omega
theorem Xt(Y:Bs):(⟨Y.toArray⟩:ByteArray).size=Y.length:=rfl
theorem Jv{E:Env}{x i:Operand}{Y:Bs}{q:IntKind}{k:Nat}{b:UInt8}(h1:ev E x=sv Y)(h2:ev E i= .int q (k:Int))(h:Y[k]?=some b):zB (ev E) (.sidx x i)=some (.int .u8 (b.toNat:Int)):=by
 obtain⟨hk,rfl⟩:=List.getElem?_eq_some_iff.1 h;exact LW h1 h2 hk
theorem kG{E:Env}{x:Operand}{k:IntKind}{b:UInt8}(h:ev E x= .int k (b.toNat:Int)):zB (ev E) (.conv .i64 x)=some (.int .i64 (b.toNat:Int)):=by
 simp only[zB,h];have:=b.toNat_lt;rw[wrap_i64 (by omega)]
theorem YS(a:Int):IntKind.u8.wrap a=a%256:=by simp[IntKind.wrap,IntKind.signed,IntKind.bits]
theorem Dz{E:Env}{x y:Operand}{a b:Int}(h1:ev E x= .int .u8 a)(h2:ev E y= .int .u8 b):zB (ev E) (.bin .add x y)=some (.int .u8 ((a+b)%256)):=by
 simp[zB,h1,h2,vE,V7,YS]
theorem LM{E:Env}{x y:Operand}{a b:Int}(h1:ev E x= .int .u8 a)(h2:ev E y= .int .u8 b):zB (ev E) (.bin .sub x y)=some (.int .u8 ((a-b)%256)):=by
 simp[zB,h1,h2,vE,V7,YS]
set_option maxRecDepth 10000 in
theorem rA(Y:Bs)(_hY:Y.length<2 ^ 62):Tri Tryz.prog 139 #[sv Y] [] (fun r S=>r= .tuple #[.int .i64 ((lead Y).1:Int),.bool (lead Y).2]∧S=[]):=by
 refine Tri.forget (zq Tryz.O5 (Nat.le_of_ble_eq_true rfl) ?_);unfold Tryz.Iq;refine ze (z8 (yp pC (yp pC (zf (za (ze (ze (z8 (yp pC (zf (za (zu ?_))))))))))));refine Z7 (σ:=Nat) (fun a E S=>Has E [(0,sv Y),(4,.int .i64 (a:Int))]∧(a≤255+64∧∃f,lead Y=Ua f Y a∧256≤a+f)∧zG S []) (fun a=>400-a) 0 ⟨⟨rfl,rfl,trivial⟩,⟨Nat.zero_le _,256,rfl,Nat.le_refl _⟩,.of⟩ fun a E S ⟨hE,⟨ha,f,hl,hf⟩,hJ⟩=>?_
 have hend:Y.length≤a∨255≤a→lead Y=(0,false):=fun h=>by rw[hl]; exact JF h f
 obtain⟨E0,e0⟩:=zm hE; subst e0; clear hE;refine zn hJ (ze (ze (z8 (yp (pI rfl) (yp (pT rfl) (yp (Wm rfl) (yp (ZE rfl rfl) (yp (pB rfl) ?_))))))));rw[Xt];by_cases h1:a<Y.length
 ·rw[decide_eq_true (show(a:Int)<(Y.length:Int) from by omega)];refine zK rfl (zQ (pI rfl) (zK rfl (zQ (ZE rfl rfl) (yp (zw rfl rfl) (zf (za ?_))))));by_cases h2:a<255
  ·rw[decide_eq_true (show(a:Int)<255 from by omega)];have hy:Y[a]?=some Y[a]:=List.getElem?_eq_getElem h1;generalize Y[a]=b at hy;obtain⟨f',rfl⟩:∃f',f=f'+1:=⟨f-1,by omega⟩
   rw[XJ hy h2] at hl;have hb:=b.toNat_lt;refine zC rfl (zl (za (zu (ze (z8 (yp (pT rfl) (yp (pI rfl) (yp (Jv rfl rfl hy) (yp (kG rfl) (yp (pI rfl) (zf (za (ze (z8 (yp (pI rfl) (yp (Z8 rfl rfl (by omega)) (yp (pI rfl) (zf (za (ze (ze (z8 (yp (pI rfl) (yp (wB rfl rfl) (zf (za ?_))))))))))))))))))))))))));refine zR rfl (fun h3=>?_) (fun h3=>?_)
   ·rw[if_pos (by omega)] at hl;refine ze (z8 (yp (pI rfl) (yp (pI rfl) (yp pC (zf (za (zJ (zV (bret (zV (bret (zV ?_))))))))))));exact zI (dZ rfl rfl) ⟨_,.of,by rw[hl],rfl⟩
   ·rw[if_neg (by omega)] at hl;refine zl (za (ze (z8 (yp (pI rfl) (yp (pI rfl) (yp (Zj rfl rfl (by omega)) (yp (pI rfl) (zf (za (ze (z8 (yp (pI rfl) (yp (WS rfl rfl) (zf (za ?_)))))))))))))));refine zR rfl (fun h4=>?_) (fun h4=>?_)
    ·rw[if_pos (by omega)] at hl;refine zZ (Vg rfl (zA (Z0 (za (ze (z8 (yp pC (yp pC (zf (za (zJ ?_)))))))))));exact zI (dZ rfl rfl) ⟨_,.of,by rw[hl]; rfl,rfl⟩
    ·rw[if_neg (by omega)] at hl;refine zl (zW (za ?_));exact⟨a+1+b.toNat,⟨⟨rfl,rfl,trivial⟩,⟨by omega,f',hl,by omega⟩,.of⟩,by omega⟩
  ·rw[decide_eq_false (show ¬(a:Int)<255 from by omega)];refine zo rfl (zZ (zA (zA (Z0 (za (ze (z8 (yp pC (yp pC (zf (za (zJ ?_))))))))))));exact zI (dZ rfl rfl) ⟨_,.of,by rw[hend (by omega)]; rfl,rfl⟩
 ·rw[decide_eq_false (show ¬(a:Int)<(Y.length:Int) from by omega)];refine zP rfl (zP rfl (yp (zD rfl rfl) (zf (za (zo rfl (zZ (zA (zA (Z0 (za (ze (z8 (yp pC (yp pC (zf (za (zJ ?_)))))))))))))))));exact zI (dZ rfl rfl) ⟨_,.of,by rw[hend (by omega)]; rfl,rfl⟩
theorem VG(Y:Bs)(hY:Y.length<2 ^ 62):Tri Tryz.prog 89 #[sv Y] [] (fun r S=>r= .bool (wm Y)∧S=[]):=by
 refine Tri.forget (zq Tryz.RN (Nat.le_of_ble_eq_true rfl) ?_);unfold Tryz.TG;refine ze (z8 (yp pC (zf (za (ze (z8 (yp (pT rfl) ?_)))))));refine zh (zk (rA Y hY) rfl rfl fun r S' h=>?_);obtain⟨rfl,rfl⟩:=h;unfold wm;cases hb:(lead Y).2 with
 | false=>
  refine yp (pU rfl) (yp (pExt rfl rfl) (yp (pExt rfl rfl) (yp (pI rfl) (yp (pB rfl) (zf (za (ze (z8 (yp (pB rfl) (yp (pB rfl) (zP rfl (zP rfl (zP rfl (zP rfl (yp (zD rfl rfl) (yp (pB rfl) (zf (za (zJ ?_)))))))))))))))))));exact zI (rB rfl) ⟨_,.of,rfl,rfl⟩
 | true=>
  refine yp (pU rfl) (yp (pExt rfl rfl) (yp (pExt rfl rfl) (yp (pI rfl) (yp (pB rfl) (zf (za (ze (z8 (yp (pB rfl) (yp (pB rfl) (zK rfl (zQ (pI rfl) (zK rfl (zQ (pT rfl) (zK rfl (zQ (Wm rfl) (zK rfl (zQ (wB rfl rfl) (yp (zw rfl rfl) (yp (pB rfl) (zf (za (zJ ?_)))))))))))))))))))))));rw[Xt];refine zI (rB rfl) ⟨_,.of,?_,rfl⟩;congr 1;by_cases h:(lead Y).1=Y.length
  ·rw[decide_eq_true (by omega),h]; simp
  ·rw[decide_eq_false (by omega)]; simp[h]
def wF(i:Nat)(Y:Bs):Bs:=(Y.take i).map low++Y.drop i
theorem Vd{i:Nat}{Y:Bs}(h:i≤Y.length):(wF i Y).length=Y.length:=by simp[wF]; omega
theorem ug{i:Nat}{Y:Bs}(h:i≤Y.length)(j:Nat):(wF i Y)[j]?=if j<i then(Y[j]?).map low else Y[j]?:=by
 unfold wF;rw[List.getElem?_append];have hl:((Y.take i).map low).length=i:=by simp; omega
 rw[hl];split
 ·rw[List.getElem?_map,List.getElem?_take,if_pos (by omega)]
 ·rw[List.getElem?_drop]; congr 1; omega
theorem Xg{i:Nat}{Y:Bs}(h:i<Y.length):(wF i Y).set i (low Y[i])=wF (i+1) Y:=by
 refine List.ext_getElem? fun j=>?_
 rw[List.getElem?_set,ug (by omega),ug (by omega),Vd (by omega)];by_cases hj:i=j
 ·subst hj;rw[if_pos rfl,if_pos h,if_pos (by omega),List.getElem?_eq_getElem h]; rfl
 ·rw[if_neg hj];by_cases h2:j<i
  ·rw[if_pos h2,if_pos (by omega)]
  ·rw[if_neg h2,if_neg (by omega)]
theorem Y0{i:Nat}{Y:Bs}(h:i<Y.length)(hl:low Y[i]=Y[i]):wF i Y=wF (i+1) Y:=by
 rw[←Xg h];refine List.ext_getElem? fun j=>?_
 rw[List.getElem?_set,Vd (by omega)];by_cases hj:i=j
 ·subst hj;rw[if_pos rfl,if_pos h,ug (by omega),if_neg (by omega),hl,List.getElem?_eq_getElem h]
 ·rw[if_neg hj]
theorem yZ(Y:Bs):wF 0 Y=Y:=by simp[wF]
theorem kX(Y:Bs):wF Y.length Y=Y.map low:=by simp[wF]
set_option maxRecDepth 10000 in
theorem bF(Y:Bs)(hY:Y.length<2 ^ 62):Tri Tryz.prog 99 #[sv Y] [] (fun r S=>r=sv (Y.map low)∧S=[]):=by
 refine Tri.forget (zq Tryz.Rz (Nat.le_of_ble_eq_true rfl) ?_);unfold Tryz.x99;refine ze (z8 (yp pC (zf (za (ze (z8 (yp (pT rfl) ?_)))))));refine zh (EA rfl fun v H hL=>?_);have hL:Zg 5 v Y H:=hL;obtain⟨a,c,rfl⟩:=hL.isSlice;rw[←yZ Y,Vd (Nat.zero_le _)] at hL;refine yp (pS rfl) (zf (za (ze (ze (z8 (yp (pS rfl) (yp (Zp rfl) (yp pC (zf (za (zu ?_)))))))))));refine Z7 (σ:=Nat) (fun i E S=>∃H,Has E [(3,.slice a Y.length c),(8,.slice a Y.length c),(9,.int .i64 (Y.length:Int)),(10,.int .i64 (i:Int))]∧i≤Y.length∧Zg 5 (.slice a Y.length c) (wF i Y) H∧zG S [H]) (fun i=>Y.length-i) 0 ⟨H,⟨rfl,rfl,rfl,rfl,trivial⟩,Nat.zero_le _,hL,.of⟩ fun i E S ⟨H,hE,hi,hL,hJ⟩=>?_
 have hfl:=Vd hi;obtain⟨E0,e0⟩:=zm hE; subst e0; clear hE;refine zn hJ (ze (z8 (yp (ZE rfl rfl) (zf (za (ze ?_))))));refine zR rfl (fun h=>?_) (fun h=>?_)
 ·have hlt:i<Y.length:=by omega
  have hg:=ug hi i;rw[if_neg (by omega)] at hg;have hset:=Xg hlt;have hsame:=Y0 hlt;have hyi:Y[i]?=some Y[i]:=List.getElem?_eq_getElem hlt;rw[hyi] at hg;generalize Y[i]=y at hg hset hsame;have hy:=y.toNat_lt;obtain⟨b,sp,fz,hz,hae,_,hce,rfl⟩:=hL.at' (by intro h; rw[h] at hfl; simp at hfl; omega);subst hae;rw[hfl] at hce;have hif:i<(wF i Y).length:=by omega
  have hld:((cells (wF i Y++sp)).toArray.toList)[0+i*1+0]?=some (.int .u8 (y.toNat:Int)):=(wZ (kk:=1) (j:=0) hif rfl (by omega)).trans (by rw[List.getElem?_eq_getElem hif] at hg; rw[Option.some.inj hg]; rfl);refine zl (za (ze (zu (ze (z8 (yp (pI rfl) (yp (zT rfl rfl (by omega)) ?_)))))));refine zh (zy (v:= .int .u8 (y.toNat:Int)) rfl hld ?_);refine yp (pI rfl) (yp (pI rfl) (zf (za (ze (z8 (yp (pI rfl) (yp (Ux rfl rfl) (yp (pB rfl) ?_))))))));have hno:low y=y→Zg 5 (.slice (some ⟨b,0,none⟩) Y.length c) (wF (i+1) Y) [(b,.cells (cells (wF i Y++sp)).toArray 5 fz)]:=fun hl=>by rw[←hsame hl]; exact hL
  by_cases h1:65≤(y.toNat:Int)
  ·rw[decide_eq_true h1];refine zK rfl (zQ (pI rfl) (zK rfl (zQ (XB rfl rfl) (yp (zw rfl rfl) (zf (za ?_))))));by_cases h2:(y.toNat:Int)≤90
   ·rw[decide_eq_true h2];have hlow:low y=UInt8.ofNat (y.toNat+32):=by unfold low; rw[if_pos (by omega)]
    have hln:((low y).toNat:Int)=(((y.toNat:Int)+97)%256-65)%256:=by
     rw[hlow];have:(UInt8.ofNat (y.toNat+32)).toNat=(y.toNat+32)%256:=by simp
     rw[this]; omega
    refine zC rfl (z8 (yp (pS rfl) (yp (pI rfl) (yp (pI rfl) (yp (Dz rfl rfl) ?_)))))
    skip
    refine yp (LM rfl rfl) ?_;rw[←hln];refine yp (zT rfl rfl (by omega)) ?_;refine zh (Zc (M:=wF i Y++sp) (i:=i) (y:=low y) rfl (by simp; omega) rfl rfl hz ?_);have hs2:=Zg.setAt (ty:=5) (b:=b) (c:=c) (y:=low y) hz hif (by omega);rw[hset,hfl] at hs2;refine zf (zW (za (z8 (yp (Z8 rfl rfl (by omega)) (yp (pI rfl) (zf (za ?_)))))));exact⟨i+1,⟨_,⟨rfl,rfl,rfl,rfl,trivial⟩,by omega,hs2,.of⟩,by omega⟩
   ·rw[decide_eq_false h2];refine zo rfl (zl (zW (za (z8 (yp (Z8 rfl rfl (by omega)) (yp (pI rfl) (zf (za ?_))))))));exact⟨i+1,⟨_,⟨rfl,rfl,rfl,rfl,trivial⟩,by omega,hno (by unfold low; rw[if_neg (by omega)]),.of⟩,by omega⟩
  ·rw[decide_eq_false h1];refine zP rfl (zP rfl (yp (zD rfl rfl) (zf (za (zo rfl (zl (zW (za (z8 (yp (Z8 rfl rfl (by omega)) (yp (pI rfl) (zf (za ?_)))))))))))));exact⟨i+1,⟨_,⟨rfl,rfl,rfl,rfl,trivial⟩,by omega,hno (by unfold low; rw[if_neg (by omega)]),.of⟩,by omega⟩
 ·have hiY:i=Y.length:=by omega
  subst hiY;rw[kX] at hL;have hml:(Y.map low).length=Y.length:=by simp
  rw[←hml] at hL;refine zZ (zA (zA (Z0 (za (ze (z8 (yp (pS rfl) ?_)))))));refine zh (YN (Y:=Y.map low) (by rw[hml]; rfl) (hL.src (by simp)) ?_);refine yp (pT rfl) (zf (za (zJ ?_)));exact zI (res1 rfl) ⟨_,.of,rfl,rfl⟩
theorem JA(Y:Bs)(hY:Y.length<2 ^ 62):Tri Tryz.prog 55 #[sv Y] [] (fun r S=>r=sv (zM Y)∧S=[]):=by
 refine Tri.forget (zq Tryz.Sz (Nat.le_of_ble_eq_true rfl) ?_);unfold Tryz.x55;refine ze (z8 (yp pC (zf (za (ze (ze (z8 (yp (pT rfl) ?_))))))));refine zh (zk (VG Y hY) rfl rfl fun r S' h=>?_);obtain⟨rfl,rfl⟩:=h;unfold zM;cases wm Y with
 | false=>
  refine yp (Za rfl) (zf (za (zC rfl (ze (z8 (yp (pT rfl) (yp (pT rfl) (zf (za (zJ (zV ?_)))))))))));exact zI (res1 rfl) ⟨_,.of,rfl,rfl⟩
 | true=>
  refine yp (Za rfl) (zf (za (zo rfl (zl (za (ze (z8 (yp (pT rfl) ?_))))))));refine zh (zk (bF Y hY) rfl rfl fun r S' h=>?_);obtain⟨rfl,rfl⟩:=h;refine yp (pT rfl) (zf (za (zJ ?_)));exact zI (res1 rfl) ⟨_,.of,rfl,rfl⟩
instance:Enc ByteArray:=⟨fun s=>[.string s],1,fun _=>rfl,fun _=>rfl⟩
set_option maxRecDepth 10000 in
theorem oh(Y:Bs)(hY:Y.length<2 ^ 62):Tri Tryz.prog 134 #[sv Y] [] (fun r S=>∃v L H,r= .tuple #[v,.bool (wm Y)]∧Zg 9 v (L:List ByteArray) H∧S=[H]):=by
 refine Tri.forget (zq Tryz.O8 (Nat.le_of_ble_eq_true rfl) ?_);unfold Tryz.Iw;refine ze (z8 (yp pC (yp pC (zf (za (ze (ze (z8 (yp (pT rfl) (yp (Wm rfl) (yp (WS rfl rfl) (zf (za ?_)))))))))))));rw[Xt];have hno:∀{v:Value},wm Y=false→v= .tuple #[.slice none 0 0,.bool false]→∀S,∃S'',zG S S''∧∃w L H,v= .tuple #[w,.bool (wm Y)]∧Zg 9 w (L:List ByteArray) H∧S''=[H]:=fun h hv S=>⟨[[]],⟨S.flatten,by simp⟩,_,[],[],by rw[h]; exact hv,.nil,rfl⟩
 by_cases h0:255<(Y.length:Int)
 ·rw[decide_eq_true h0];refine zC rfl (ze (z8 (yp pC (yp pC (zf (za (zJ (zV ?_))))))));refine zI (KG rfl rfl) (hno ?_ rfl _);cases hv:wm Y with
  | false=>rfl
  | true=>have:=Wt hv; omega
 rw[decide_eq_false h0];refine zo rfl (zl (za (ze (z8 (yp pC (zf (za (ze (z8 (yp pC (zf (za (ze (zu ?_))))))))))))));refine Z7 (σ:=Nat) (fun a E S=>∃(v:Value) (L:List ByteArray) (H:List Chunk),Has E [(0,sv Y),(5,.int .i64 (a:Int))]∧E 4=v∧Zg 9 v L H∧L.length≤a∧(a≤Y.length∧∃f,lead Y=Ua f Y a∧256≤a+f)∧zG S [H]) (fun a=>Y.length-a) 0 ⟨_,[],[],⟨rfl,rfl,trivial⟩,rfl,.nil,Nat.le_refl _,⟨Nat.zero_le _,256,rfl,Nat.le_refl _⟩,.of⟩ fun a E S ⟨v,L,H,hE,hE4,hL,hLl,⟨ha,f,hl,hf⟩,hJ⟩=>?_
 obtain⟨la,lc,rfl⟩:=hL.isSlice;have hE2:Has E [(0,sv Y),(4,.slice la L.length lc),(5,.int .i64 (a:Int))]:=⟨hE.1,hE4,hE.2.1,trivial⟩
 clear hE hE4;obtain⟨E0,e0⟩:=zm hE2; subst e0; clear hE2;refine zn hJ (ze (ze (z8 (yp (pI rfl) (yp (pT rfl) (yp (Wm rfl) (yp (ZE rfl rfl) (zf (za ?_)))))))));rw[Xt];refine zR rfl (fun h1=>?_) (fun h1=>?_)
 ·have hlt:a<Y.length:=by omega
  have hy:Y[a]?=some Y[a]:=List.getElem?_eq_getElem hlt;generalize Y[a]=b at hy;obtain⟨f',rfl⟩:∃f',f=f'+1:=⟨f-1,by omega⟩
  rw[XJ hy (by omega)] at hl;have hb:=b.toNat_lt;refine zl (za (zu (ze (z8 (yp (pT rfl) (yp (pI rfl) (yp (Jv rfl rfl hy) (yp (kG rfl) (yp (pI rfl) (zf (za (ze (ze (z8 (yp (pI rfl) (yp (wB rfl rfl) (zf (za ?_))))))))))))))))));refine zR rfl (fun h3=>?_) (fun h3=>?_)
  ·rw[if_pos (by omega)] at hl;refine ze (z8 (yp (pS rfl) (yp (pI rfl) (yp (pT rfl) (yp (Wm rfl) ?_)))));rw[Xt];refine yp (Zz rfl rfl (by omega)) (yp (wB rfl rfl) (yp (pS rfl) (yp (pB rfl) (zf (za (zJ (zV (bret (zV (bret (zV ?_)))))))))));have hvl:wm Y=decide ((a:Int)=((Y.length-1:Nat):Int)):=by
    unfold wm;rw[hl,Bool.true_and];by_cases h:a+1=Y.length
    ·rw[decide_eq_true (by omega)]; simp[h]
    ·rw[decide_eq_false (by omega)]; simp[h]
   exact zI (KG rfl rfl) ⟨_,.of,_,L,H,by rw[hvl],hL,rfl⟩
  rw[if_neg (by omega)] at hl;refine zl (za (ze (ze (z8 (yp (pI rfl) (yp (WS rfl rfl) (yp (pB rfl) ?_)))))));have hbad:(63<b.toNat∨Y.length<a+1+b.toNat)→wm Y=false:=fun h=>by
   unfold wm;rw[hl];split
   ·rfl
   ·rw[JF (by omega)]; rfl
  by_cases h4:63<(b.toNat:Int)
  ·rw[decide_eq_true h4];refine zP rfl (zP rfl (zP rfl (zP rfl (zP rfl (zP rfl (zP rfl (yp (zw rfl rfl) (zf (za (zC rfl (ze (z8 (yp pC (yp pC (zf (za (zJ (zV (bret (zV (bret (zV ?_))))))))))))))))))))));exact zI (KG rfl rfl) (hno (hbad (by omega)) rfl _)
  rw[decide_eq_false h4];refine zK rfl (zQ (pI rfl) (zK rfl (zQ (pT rfl) (zK rfl (zQ (Wm rfl) (zK rfl (zQ (pI rfl) (zK rfl ?_))))))));rw[Xt];refine zQ (Zy rfl rfl (by omega)) (zK rfl (zQ (Zy rfl rfl (by omega)) (zK rfl (zQ (WS rfl rfl) (yp (zD rfl rfl) (zf (za ?_)))))));by_cases h5:(Y.length:Int)-(a:Int)-1<(b.toNat:Int)
  ·rw[decide_eq_true h5];refine zC rfl (ze (z8 (yp pC (yp pC (zf (za (zJ (zV (bret (zV (bret (zV ?_))))))))))));exact zI (KG rfl rfl) (hno (hbad (by omega)) rfl _)
  rw[decide_eq_false h5];rw[if_neg (by omega)] at hl;refine zo rfl (zl (za (ze (z8 (yp (pS rfl) (yp (pT rfl) (yp (pI rfl) (yp (Z8 rfl rfl (by omega)) (yp (pI rfl) (yp (Z8 rfl rfl (by omega)) (yp (pI rfl) (yp (Zj rfl rfl (by omega)) (yp (Dw (j:=a+1) (k:=a+1+b.toNat) rfl rfl rfl ⟨by omega,by rw[Xt]; omega⟩) ?_)))))))))))));refine zh (wJ ((⟨Y.toArray⟩:ByteArray).extract (a+1) (a+1+b.toNat)) rfl rfl (by decide) (by decide) rfl fun p46=>?_);refine zh (V6 (Y:=[(⟨Y.toArray⟩:ByteArray).extract (a+1) (a+1+b.toNat)]) rfl rfl hL (.lit (by repeat (first | exact List.mem_cons_self | apply List.mem_cons_of_mem)) rfl) rfl (⟨#[]⟩:ByteArray) rfl (by simp; omega) (by simp; omega) fun v2 H2 hL2=>?_);have hl2:(L++[(⟨Y.toArray⟩:ByteArray).extract (a+1) (a+1+b.toNat)]).length=L.length+1:=by simp
  generalize L++[(⟨Y.toArray⟩:ByteArray).extract (a+1) (a+1+b.toNat)]=L2 at hL2 hl2;obtain⟨a2,c2,rfl⟩:=hL2.isSlice;refine yp (pS rfl) (zf (za (z8 (yp (pI rfl) (yp (Z8 rfl rfl (by omega)) (yp (pI rfl) (yp (Zj rfl rfl (by omega)) (yp (pI rfl) (zf (zW (za ?_)))))))))));have hle:a+1+b.toNat≤Y.length:=by omega
  exact⟨a+1+b.toNat,⟨_,L2,H2,⟨rfl,rfl,trivial⟩,rfl,hL2,by omega,⟨hle,f',hl,by omega⟩,.of⟩,by omega⟩
 ·refine zZ (zA (zA (Z0 (za (ze (z8 (yp pC (yp pC (zf (za (zJ ?_)))))))))));refine zI (KG rfl rfl) (hno ?_ rfl _);unfold wm;rw[hl,JF (by omega)]; rfl
theorem xE(Y:Bs)(hY:Y.length<2 ^ 62):Tri Tryz.prog 82 #[sv Y] [] (fun r S=>r= .bool (wm Y)∧S=[]):=by
 refine Tri.forget (zq Tryz.RS (Nat.le_of_ble_eq_true rfl) ?_);unfold Tryz.TK;refine ze (z8 (yp pC (zf (za (ze (z8 (yp (pT rfl) ?_)))))));refine zh (zk (oh Y hY) rfl rfl fun r S' h=>?_);obtain⟨v,L,H,rfl,hL,rfl⟩:=h;obtain⟨a,c,rfl⟩:=hL.isSlice;refine yp (pU rfl) (yp (pExt rfl rfl) (yp (pExt rfl rfl) (yp (pS rfl) (yp (pB rfl) (zf (za (ze (z8 (yp (pB rfl) (yp (pB rfl) (zf (za (zJ ?_)))))))))))));exact zI (rB rfl) ⟨_,.of,rfl,rfl⟩
set_option maxRecDepth 10000 in
theorem om(Y:Bs)(hY:Y.length<2 ^ 62):Tri Tryz.prog 59 #[sv Y] [] (fun r S=>r=sv (zM Y)∧S=[]):=by
 refine Tri.forget (zq Tryz.Sv (Nat.le_of_ble_eq_true rfl) ?_);unfold Tryz.x59;refine ze (z8 (yp pC (zf (za (ze (ze (z8 (yp (pT rfl) ?_))))))));refine zh (zk (xE Y hY) rfl rfl fun r S' h=>?_);obtain⟨rfl,rfl⟩:=h;unfold zM;cases wm Y with
 | false=>
  refine yp (Za rfl) (zf (za (zC rfl (ze (z8 (yp (pT rfl) (yp (pT rfl) (zf (za (zJ (zV ?_)))))))))));exact zI (res1 rfl) ⟨_,.of,rfl,rfl⟩
 | true=>
 refine yp (Za rfl) (zf (za (zo rfl (zl (za (ze (z8 (yp (pT rfl) ?_))))))));refine zh (EA rfl fun v H hL=>?_);have hL:Zg 5 v Y H:=hL;obtain⟨a,c,rfl⟩:=hL.isSlice;rw[←yZ Y,Vd (Nat.zero_le _)] at hL;refine yp (pS rfl) (zf (za (ze (ze (z8 (yp pC (zf (za (zu ?_)))))))));refine Z7 (σ:=Nat) (fun i E S=>∃H,Has E [(3,.slice a Y.length c),(4,.int .i64 (i:Int))]∧i≤Y.length∧Zg 5 (.slice a Y.length c) (wF i Y) H∧zG S [H]) (fun i=>Y.length-i) 0 ⟨H,⟨rfl,rfl,trivial⟩,Nat.zero_le _,hL,.of⟩ fun i E S ⟨H,hE,hi,hL,hJ⟩=>?_
 have hfl:=Vd hi;obtain⟨E0,e0⟩:=zm hE; subst e0; clear hE;refine zn hJ (ze (ze (z8 (yp (pI rfl) (yp (pS rfl) (yp (Zp rfl) (yp (ZE rfl rfl) (zf (za ?_)))))))));refine zR rfl (fun h=>?_) (fun h=>?_)
 ·have hlt:i<Y.length:=by omega
  have hg:=ug hi i;rw[if_neg (by omega)] at hg;have hset:=Xg hlt;have hsame:=Y0 hlt;have hyi:Y[i]?=some Y[i]:=List.getElem?_eq_getElem hlt;rw[hyi] at hg;generalize Y[i]=y at hg hset hsame;have hy:=y.toNat_lt;obtain⟨b,sp,fz,hz,hae,_,hce,rfl⟩:=hL.at' (by intro h; rw[h] at hfl; simp at hfl; omega);subst hae;rw[hfl] at hce;have hif:i<(wF i Y).length:=by omega
  have hld:((cells (wF i Y++sp)).toArray.toList)[0+i*1+0]?=some (.int .u8 (y.toNat:Int)):=(wZ (kk:=1) (j:=0) hif rfl (by omega)).trans (by rw[List.getElem?_eq_getElem hif] at hg; rw[Option.some.inj hg]; rfl);have hno:low y=y→Zg 5 (.slice (some ⟨b,0,none⟩) Y.length c) (wF (i+1) Y) [(b,.cells (cells (wF i Y++sp)).toArray 5 fz)]:=fun hl=>by rw[←hsame hl]; exact hL
  refine zl (za (ze (zu (ze (z8 (yp (pS rfl) (yp (pI rfl) (yp (zT rfl rfl (by omega)) ?_))))))));refine zh (zy (v:= .int .u8 (y.toNat:Int)) rfl hld ?_);refine yp (Ux rfl rfl) (yp (pB rfl) ?_);by_cases h1:65≤(y.toNat:Int)
  ·rw[decide_eq_true h1];refine zK rfl (zQ (pS rfl) (zK rfl (zQ (pI rfl) (zK rfl (zQ (zT rfl rfl (by omega)) (zK rfl ?_))))));refine zy (v:= .int .u8 (y.toNat:Int)) rfl hld ?_;refine zK rfl (zQ (XB rfl rfl) (yp (zw rfl rfl) (zf (za ?_))));by_cases h2:(y.toNat:Int)≤90
   ·rw[decide_eq_true h2];have hlow:low y=UInt8.ofNat (y.toNat+32):=by unfold low; rw[if_pos (by omega)]
    have hln:((low y).toNat:Int)=((y.toNat:Int)+32)%256:=by
     rw[hlow];have:(UInt8.ofNat (y.toNat+32)).toNat=(y.toNat+32)%256:=by simp
     rw[this]; omega
    refine zC rfl (z8 (yp (pS rfl) (yp (pI rfl) (yp (pS rfl) (yp (pI rfl) (yp (zT rfl rfl (by omega)) ?_))))));refine zh (zy (v:= .int .u8 (y.toNat:Int)) rfl hld ?_);refine yp (Dz rfl rfl) ?_;rw[←hln];refine yp (zT rfl rfl (by omega)) ?_;refine zh (Zc (M:=wF i Y++sp) (i:=i) (y:=low y) rfl (by simp; omega) rfl rfl hz ?_);have hs2:=Zg.setAt (ty:=5) (b:=b) (c:=c) (y:=low y) hz hif (by omega);rw[hset,hfl] at hs2;refine zf (zW (za (z8 (yp (pI rfl) (yp (Z8 rfl rfl (by omega)) (yp (pI rfl) (zf (za ?_))))))));exact⟨i+1,⟨_,⟨rfl,rfl,trivial⟩,by omega,hs2,.of⟩,by omega⟩
   ·rw[decide_eq_false h2];refine zo rfl (zl (zW (za (z8 (yp (pI rfl) (yp (Z8 rfl rfl (by omega)) (yp (pI rfl) (zf (za ?_)))))))));exact⟨i+1,⟨_,⟨rfl,rfl,trivial⟩,by omega,hno (by unfold low; rw[if_neg (by omega)]),.of⟩,by omega⟩
  ·rw[decide_eq_false h1];refine zP rfl (zP rfl (zP rfl (zP rfl (zP rfl (yp (zD rfl rfl) (zf (za (zo rfl (zl (zW (za (z8 (yp (pI rfl) (yp (Z8 rfl rfl (by omega)) (yp (pI rfl) (zf (za ?_)))))))))))))))));exact⟨i+1,⟨_,⟨rfl,rfl,trivial⟩,by omega,hno (by unfold low; rw[if_neg (by omega)]),.of⟩,by omega⟩
 ·have hiY:i=Y.length:=by omega
  subst hiY;rw[kX] at hL;have hml:(Y.map low).length=Y.length:=by simp
  rw[←hml] at hL;refine zZ (zA (zA (Z0 (za (ze (z8 (yp (pS rfl) ?_)))))));refine zh (YN (Y:=Y.map low) (by rw[hml]; rfl) (hL.src (by simp)) ?_);refine yp (pT rfl) (zf (za (zJ ?_)));exact zI (res1 rfl) ⟨_,.of,rfl,rfl⟩
structure Nm where
 id:Int
 n:Bs
 u:Nat
instance:Enc Nm:=⟨fun x=>[.int .i64 x.id,sv x.n,.int .i64 (x.u:Int)],3,fun _=>rfl,fun _=>rfl⟩
/-- where one is: by its letters, by its number -/
def uQ(n:Bs):List Nm→Option Nat
 | []=>none
 | x::l=>if x.n=n then some 0 else(uQ n l).map (· +1)
def U2(i:Int):List Nm→Option Nat
 | []=>none
 | x::l=>if x.id=i then some 0 else(U2 i l).map (· +1)
theorem XF{n:Bs}:∀{L:List Nm} {j:Nat},uQ n L=some j→∃e,L[j]?=some e∧e.n=n
 | [],_,h=>by cases h
 | x::l,j,h=>by
  unfold uQ at h;split at h
  ·next hx=>obtain rfl:=Option.some.inj h; exact⟨x,rfl,hx⟩
  ·cases hl:uQ n l with
   | none=>rw[hl] at h; cases h
   | some k=>
    rw[hl] at h;obtain rfl:k+1=j:=Option.some.inj h;obtain⟨e,h1,h2⟩:=XF hl;exact⟨e,by simpa using h1,h2⟩
theorem xI{i:Int}:∀{L:List Nm} {j:Nat},U2 i L=some j→∃e,L[j]?=some e∧e.id=i
 | [],_,h=>by cases h
 | x::l,j,h=>by
  unfold U2 at h;split at h
  ·next hx=>obtain rfl:=Option.some.inj h; exact⟨x,rfl,hx⟩
  ·cases hl:U2 i l with
   | none=>rw[hl] at h; cases h
   | some k=>
    rw[hl] at h;obtain rfl:k+1=j:=Option.some.inj h;obtain⟨e,h1,h2⟩:=xI hl;exact⟨e,by simpa using h1,h2⟩
theorem VU{n:Bs}:∀{L:List Nm},uQ n L=none→∀e∈L,e.n≠n
 | x::l,h,e,he=>by
  unfold uQ at h;split at h
  ·cases h
  ·next hx=>
   have hl:uQ n l=none:=by
    cases hl:uQ n l with
    | none=>rfl
    | some k=>rw[hl] at h; cases h
   rcases List.mem_cons.1 he with rfl | he
   ·exact hx
   ·exact VU hl e he
theorem yB{i:Int}:∀{L:List Nm},U2 i L=none→∀e∈L,e.id≠i
 | x::l,h,e,he=>by
  unfold U2 at h;split at h
  ·cases h
  ·next hx=>
   have hl:U2 i l=none:=by
    cases hl:U2 i l with
    | none=>rfl
    | some k=>rw[hl] at h; cases h
   rcases List.mem_cons.1 he with rfl | he
   ·exact hx
   ·exact yB hl e he
/-- what the two maps have -/
def UA(L:List Nm):ByteArray→Option Int:=fun s=>(uQ s.data.toList L).bind fun j=>(L[j]?).map (·.id)
def V5(L:List Nm):Int→Option Bool:=fun i=>(U2 i L).map fun _=>true
/-- nobody twice -/
structure y8(L:List Nm):Prop where
 ids:(L.map (·.id)).Nodup
 ns:(L.map (·.n)).Nodup
theorem C8{L:List Nm}(h:(L.map (·.n)).Nodup){j:Nat}{e:Nm}(he:L[j]?=some e):uQ e.n L=some j:=by
 cases hx:uQ e.n L with
 | none=>exact absurd rfl (VU hx e (List.mem_of_getElem? he))
 | some k=>
  obtain⟨e',h1,h2⟩:=XF hx;have h3:(L.map (·.n))[k]?=some e.n:=by rw[List.getElem?_map,h1,Option.map_some,h2]
  have h4:(L.map (·.n))[j]?=some e.n:=by rw[List.getElem?_map,he,Option.map_some]
  rw[(List.getElem?_inj (List.getElem?_eq_some_iff.1 h3).1 h).1 (h3.trans h4.symm)]
theorem fG{L:List Nm}(h:(L.map (·.id)).Nodup){j:Nat}{e:Nm}(he:L[j]?=some e):U2 e.id L=some j:=by
 cases hx:U2 e.id L with
 | none=>exact absurd rfl (yB hx e (List.mem_of_getElem? he))
 | some k=>
  obtain⟨e',h1,h2⟩:=xI hx;have h3:(L.map (·.id))[k]?=some e.id:=by rw[List.getElem?_map,h1,Option.map_some,h2]
  have h4:(L.map (·.id))[j]?=some e.id:=by rw[List.getElem?_map,he,Option.map_some]
  rw[(List.getElem?_inj (List.getElem?_eq_some_iff.1 h3).1 h).1 (h3.trans h4.symm)]
/-- the maps by their elements alone -/
theorem uf{L:List Nm}(h:y8 L){s:ByteArray}{i:Int}:UA L s=some i↔∃e∈L,e.n=s.data.toList∧e.id=i:=by
 unfold UA;constructor
 ·intro hx;cases hn:uQ s.data.toList L with
  | none=>rw[hn] at hx; cases hx
  | some j=>
   obtain⟨e,h1,h2⟩:=XF hn;rw[hn] at hx;simp only[Option.bind_some,h1,Option.map_some] at hx;exact⟨e,List.mem_of_getElem? h1,h2,Option.some.inj hx⟩
 ·rintro⟨e,he,h1,rfl⟩;obtain⟨j,hj⟩:=List.mem_iff_getElem?.1 he;rw[←h1,C8 h.ns hj];simp[hj]
theorem vN{L:List Nm}{i:Int}{b:Bool}:V5 L i=some b↔b=true∧∃e∈L,e.id=i:=by
 unfold V5;cases hn:U2 i L with
 | none=>
  have:=yB hn;constructor
  ·intro h; cases h
  ·rintro⟨_,e,he,h⟩; exact absurd h (this e he)
 | some j=>
  obtain⟨e,h1,h2⟩:=xI hn;constructor
  ·intro h; exact⟨(Option.some.inj h).symm,e,List.mem_of_getElem? h1,h2⟩
  ·rintro⟨rfl,_⟩; rfl
theorem xL{κ ν:Type}{f g:κ→Option ν}(h:∀k v,f k=some v↔g k=some v):f=g:=by
 funext k;cases hf:f k with
 | some v=>exact((h k v).1 hf).symm
 | none=>
  cases hg:g k with
  | none=>rfl
  | some v=>rw[(h k v).2 hg] at hf; cases hf
theorem Kj(s:ByteArray)(n:Bs):s=⟨n.toArray⟩↔s.data.toList=n:=by
 constructor
 ·rintro rfl; rfl
 ·rintro rfl; rfl
theorem y8.add{L:List Nm}(h:y8 L){e:Nm}(hi:∀x∈L,x.id≠e.id)(hn:∀x∈L,x.n≠e.n):y8 (L++[e]):=by
 constructor
 ·rw[List.map_append];refine List.nodup_append.2 ⟨h.ids,by simp,fun a ha b hb=>?_⟩;obtain⟨x,hx,rfl⟩:=List.mem_map.1 ha;simp at hb; rw[hb]; exact hi x hx
 ·rw[List.map_append];refine List.nodup_append.2 ⟨h.ns,by simp,fun a ha b hb=>?_⟩;obtain⟨x,hx,rfl⟩:=List.mem_map.1 ha;simp at hb; rw[hb]; exact hn x hx
theorem sj{L:List Nm}(h:y8 L){e:Nm}(hi:∀x∈L,x.id≠e.id)(hn:∀x∈L,x.n≠e.n):UA (L++[e])=Wy (UA L) (⟨e.n.toArray⟩:ByteArray) (some e.id):=by
 refine xL fun s i=>?_
 rw[uf (h.add hi hn)];unfold Wy;by_cases hs:s=⟨e.n.toArray⟩
 ·rw[if_pos hs];have hs2:=(Kj s e.n).1 hs;constructor
  ·rintro⟨x,hx,h1,rfl⟩;rcases List.mem_append.1 hx with hx | hx
   ·exact absurd (h1.trans hs2) (hn x hx)
   ·rw[List.mem_singleton.1 hx]
  ·intro h1;exact⟨e,by simp,hs2.symm,Option.some.inj h1⟩
 ·rw[if_neg hs,uf h];constructor
  ·rintro⟨x,hx,h1,rfl⟩;rcases List.mem_append.1 hx with hx | hx
   ·exact⟨x,hx,h1,rfl⟩
   ·rw[List.mem_singleton.1 hx] at h1; exact absurd ((Kj s e.n).2 h1.symm) hs
  ·rintro⟨x,hx,h1,rfl⟩;exact⟨x,List.mem_append.2 (.inl hx),h1,rfl⟩
theorem lV{L:List Nm}{e:Nm}:V5 (L++[e])=Wy (V5 L) e.id (some true):=by
 refine xL fun i b=>?_
 rw[vN];unfold Wy;by_cases hs:i=e.id
 ·rw[if_pos hs];constructor
  ·rintro⟨rfl,_⟩; rfl
  ·intro h1; exact⟨(Option.some.inj h1).symm,e,by simp,hs.symm⟩
 ·rw[if_neg hs,vN];constructor
  ·rintro⟨rfl,x,hx,h1⟩;rcases List.mem_append.1 hx with hx | hx
   ·exact⟨rfl,x,hx,h1⟩
   ·rw[List.mem_singleton.1 hx] at h1; exact absurd h1.symm hs
  ·rintro⟨rfl,x,hx,h1⟩;exact⟨rfl,x,List.mem_append.2 (.inl hx),h1⟩
/-- a name is used so often -/
def reuse(L:List Nm)(j:Nat)(e:Nm)(u:Nat):List Nm:=L.set j ⟨e.id,e.n,u⟩
theorem iN{L:List Nm}{j:Nat}{e:Nm}{u:Nat}(he:L[j]?=some e):(reuse L j e u).map (·.id)=L.map (·.id):=by
 refine List.ext_getElem? fun i=>?_
 unfold reuse;rw[List.getElem?_map,List.getElem?_map,List.getElem?_set];split
 ·next h=>subst h; rw[if_pos (List.getElem?_eq_some_iff.1 he).1,he]; rfl
 ·rfl
theorem oq{L:List Nm}{j:Nat}{e:Nm}{u:Nat}(he:L[j]?=some e):(reuse L j e u).map (·.n)=L.map (·.n):=by
 refine List.ext_getElem? fun i=>?_
 unfold reuse;rw[List.getElem?_map,List.getElem?_map,List.getElem?_set];split
 ·next h=>subst h; rw[if_pos (List.getElem?_eq_some_iff.1 he).1,he]; rfl
 ·rfl
theorem U3{L:List Nm}{j:Nat}{e x:Nm}{u:Nat}(he:L[j]?=some e)(hx:x∈reuse L j e u):∃y∈L,y.id=x.id∧y.n=x.n:=by
 unfold reuse at hx;rcases List.mem_or_eq_of_mem_set hx with hx | rfl
 ·exact⟨x,hx,rfl,rfl⟩
 ·exact⟨e,List.mem_of_getElem? he,rfl,rfl⟩
theorem V8{L:List Nm}{j:Nat}{e y:Nm}{u:Nat}(he:L[j]?=some e)(hy:y∈L):∃x∈reuse L j e u,x.id=y.id∧x.n=y.n:=by
 obtain⟨i,hi⟩:=List.mem_iff_getElem?.1 hy;by_cases hij:j=i
 ·subst hij;rw[he] at hi;obtain rfl:=Option.some.inj hi;exact⟨⟨e.id,e.n,u⟩,List.mem_of_getElem? (i:=j) (by unfold reuse; rw[List.getElem?_set_self (List.getElem?_eq_some_iff.1 he).1]),rfl,rfl⟩
 ·exact⟨y,List.mem_of_getElem? (i:=i) (by unfold reuse; rw[List.getElem?_set_ne hij]; exact hi),rfl,rfl⟩
theorem y8.reuse{L:List Nm}(h:y8 L){j:Nat}{e:Nm}{u:Nat}(he:L[j]?=some e):y8 (reuse L j e u):=⟨by rw[iN he]; exact h.ids,by rw[oq he]; exact h.ns⟩
theorem bO{L:List Nm}(h:y8 L){j:Nat}{e:Nm}{u:Nat}(he:L[j]?=some e):UA (reuse L j e u)=UA L:=by
 refine xL fun s i=>?_
 rw[uf (h.reuse he),uf h];constructor
 ·rintro⟨x,hx,h1,h2⟩;obtain⟨y,hy,h3,h4⟩:=U3 he hx;exact⟨y,hy,h4.trans h1,h3.trans h2⟩
 ·rintro⟨y,hy,h1,h2⟩;obtain⟨x,hx,h3,h4⟩:=V8 (u:=u) he hy;exact⟨x,hx,h4.trans h1,h3.trans h2⟩
theorem aj{L:List Nm}{j:Nat}{e:Nm}{u:Nat}(he:L[j]?=some e):V5 (reuse L j e u)=V5 L:=by
 refine xL fun i b=>?_
 rw[vN,vN];constructor
 ·rintro⟨h0,x,hx,h2⟩;obtain⟨y,hy,h3,h4⟩:=U3 he hx;exact⟨h0,y,hy,h3.trans h2⟩
 ·rintro⟨h0,y,hy,h2⟩;obtain⟨x,hx,h3,h4⟩:=V8 (u:=u) he hy;exact⟨h0,x,hx,h3.trans h2⟩
theorem vM{L:List Nm}(h:y8 L){j:Nat}{e x:Nm}(he:L[j]?=some e)(hx:x∈L.eraseIdx j):x∈L∧x.id≠e.id∧x.n≠e.n:=by
 obtain⟨i,hi⟩:=List.mem_iff_getElem?.1 hx;rw[List.getElem?_eraseIdx] at hi;have key:∀k,L[k]?=some x→k≠j→x∈L∧x.id≠e.id∧x.n≠e.n:=fun k hk hne=>by
  refine⟨List.mem_of_getElem? hk,fun h1=>hne ?_,fun h1=>hne ?_⟩
  ·have h3:(L.map (·.id))[k]?=some e.id:=by rw[List.getElem?_map,hk,Option.map_some,h1]
   have h4:(L.map (·.id))[j]?=some e.id:=by rw[List.getElem?_map,he,Option.map_some]
   exact(List.getElem?_inj (List.getElem?_eq_some_iff.1 h3).1 h.ids).1 (h3.trans h4.symm)
  ·have h3:(L.map (·.n))[k]?=some e.n:=by rw[List.getElem?_map,hk,Option.map_some,h1]
   have h4:(L.map (·.n))[j]?=some e.n:=by rw[List.getElem?_map,he,Option.map_some]
   exact(List.getElem?_inj (List.getElem?_eq_some_iff.1 h3).1 h.ns).1 (h3.trans h4.symm)
 split at hi
 ·exact key i hi (by omega)
 ·exact key (i+1) hi (by omega)
theorem mem_erase{L:List Nm}{j:Nat}{e x:Nm}(he:L[j]?=some e)(hx:x∈L)(hne:x.id≠e.id∨x.n≠e.n):x∈L.eraseIdx j:=by
 obtain⟨i,hi⟩:=List.mem_iff_getElem?.1 hx;have hij:i≠j:=fun e2=>by rw[e2,he] at hi; obtain rfl:=Option.some.inj hi; simp at hne
 refine List.mem_of_getElem? (i:=if i<j then i else i-1) ?_;rw[List.getElem?_eraseIdx];by_cases h7:i<j
 ·rw[if_pos h7,if_pos h7]; exact hi
 ·rw[if_neg h7,if_neg (by omega),show i-1+1=i from by omega]; exact hi
theorem y8.erase{L:List Nm}(h:y8 L)(j:Nat):y8 (L.eraseIdx j):=⟨((List.eraseIdx_sublist L j).map _).nodup h.ids,((List.eraseIdx_sublist L j).map _).nodup h.ns⟩
theorem bP{L:List Nm}(h:y8 L){j:Nat}{e:Nm}(he:L[j]?=some e):UA (L.eraseIdx j)=Wy (UA L) (⟨e.n.toArray⟩:ByteArray) none:=by
 refine xL fun s i=>?_
 rw[uf (h.erase j)];unfold Wy;by_cases hs:s=⟨e.n.toArray⟩
 ·rw[if_pos hs];have hs2:=(Kj s e.n).1 hs;constructor
  ·rintro⟨x,hx,h1,_⟩;exact absurd (h1.trans hs2) (vM h he hx).2.2
  ·intro h1; cases h1
 ·rw[if_neg hs,uf h];constructor
  ·rintro⟨x,hx,h1,h2⟩;exact⟨x,(vM h he hx).1,h1,h2⟩
  ·rintro⟨x,hx,h1,h2⟩;exact⟨x,mem_erase he hx (.inr fun h3=>hs ((Kj s e.n).2 (h1.symm.trans h3))),h1,h2⟩
theorem ak{L:List Nm}(h:y8 L){j:Nat}{e:Nm}(he:L[j]?=some e):V5 (L.eraseIdx j)=Wy (V5 L) e.id none:=by
 refine xL fun i b=>?_
 rw[vN];unfold Wy;by_cases hs:i=e.id
 ·rw[if_pos hs];constructor
  ·rintro⟨_,x,hx,h1⟩;exact absurd (h1.trans hs) (vM h he hx).2.1
  ·intro h1; cases h1
 ·rw[if_neg hs,vN];constructor
  ·rintro⟨h0,x,hx,h1⟩;exact⟨h0,x,(vM h he hx).1,h1⟩
  ·rintro⟨h0,x,hx,h1⟩;exact⟨h0,x,mem_erase he hx (.inl fun h3=>hs (h1.symm.trans h3)),h1⟩
/-- how often, in eight bytes -/
def u6(n:Nat):Bs:=(List.range 8).map fun i=>UInt8.ofNat (n/2 ^ (8*i))
theorem ZX(n:Nat):(u6 n).length=8:=by simp[u6]
theorem fK(n i:Nat)(h:i<8):(u6 n)[i]?=some (UInt8.ofNat (n/2 ^ (8*i))):=by
 unfold u6;rw[List.getElem?_map,List.getElem?_range h]; rfl
end Go.Proofs.YtekgciopamkjlaaGreat
