/- Names (chapter 1): what is a name, and with small letters; the program's, and the document's. The table of names (chapter 7), plainly: names by number and by letters, how often a name is used in eight bytes, arenas of like blocks. -/
import Derived.Test.YtekgciopamkjlaaGreatB3
import Derived.Test.YtekgciopamkjlaaGreatFNames
import Derived.Test.YtekgciopamkjlaaGreatA2
namespace Go.Proofs.YtekgciopamkjlaaGreat
open Go.Xs
open Enc (enc)
abbrev Bs:=List UInt8
/-- a text -/
abbrev sv(Y:Bs):Value:= .string ⟨Y.toArray⟩
def Xr:Nat→Bs→Nat→Nat × Bool
 | 0,_,_=>(0,false)
 | f+1,Y,a=>match Y[a]? with
  | some b=>if 255≤a then(0,false) else if b.toNat=0 then(a+1,true) else if 63<b.toNat then(0,false) else Xr f Y (a+1+b.toNat)
  | none=>(0,false)
def lead(Y:Bs):Nat × Bool:=Xr 256 Y 0
def WR(Y:Bs):Bool:=(lead Y).2 && (lead Y).1==Y.length
def low(b:UInt8):UInt8:=if 65≤b.toNat∧b.toNat≤90 then UInt8.ofNat (b.toNat+32) else b
def zC(Y:Bs):Bs:=if WR Y then Y.map low else Y
theorem wM(Y:Bs):(zC Y).length=Y.length:=by unfold zC; split<;>simp
theorem oQ{Y:Bs}{a:Nat}(h:Y.length≤a∨255≤a):∀f,Xr f Y a=(0,false)
 | 0=>rfl
 | f+1=>by
  unfold Xr;cases hy:Y[a]? with
  | none=>rfl
  | some b=>
   have:=(List.getElem?_eq_some_iff.1 hy).1;simp only;rw[if_pos (by omega)]
theorem iF{Y:Bs}{a f:Nat}{b:UInt8}(hy:Y[a]?=some b)(ha:a<255):Xr (f+1) Y a=if b.toNat=0 then(a+1,true) else if 63<b.toNat then(0,false) else Xr f Y (a+1+b.toNat):=by
 rw[Xr,hy];simp only;rw[if_neg (by omega)]
theorem ql:∀(f:Nat) (Y:Bs) (a:Nat),(Xr f Y a).1≤255
 | 0,_,_=>Nat.zero_le _
 | f+1,Y,a=>by
  unfold Xr;split
  ·split
   ·exact Nat.zero_le _
   ·split
    ·show a+1≤255; omega
    ·split
     ·exact Nat.zero_le _
     ·exact ql f Y _
  ·exact Nat.zero_le _
theorem Ww{Y:Bs}(h:WR Y=true):Y.length≤255:=by
 unfold WR at h;have h1:=(Bool.and_eq_true _ _▸h).2;have:=ql 256 Y 0;have e:(lead Y).1=Y.length:=by simpa using h1
 unfold lead at e;omega
theorem Qm(Y:Bs):(⟨Y.toArray⟩:ByteArray).size=Y.length:=rfl
theorem bq{E:Env}{x i:Operand}{Y:Bs}{q:IntKind}{k:Nat}{b:UInt8}(h1:ev E x=sv Y)(h2:ev E i= .int q (k:Int))(h:Y[k]?=some b):zu (ev E) (.sidx x i)=some (.int .u8 (b.toNat:Int)):=by
 obtain⟨hk,rfl⟩:=List.getElem?_eq_some_iff.1 h;exact EM h1 h2 hk
theorem jS{E:Env}{x:Operand}{k:IntKind}{b:UInt8}(h:ev E x= .int k (b.toNat:Int)):zu (ev E) (.conv .i64 x)=some (.int .i64 (b.toNat:Int)):=by
 simp only[zu,h];have:=b.toNat_lt;rw[wrap_i64 (by omega)]
theorem XY(a:Int):IntKind.u8.wrap a=a%256:=by simp[IntKind.wrap,IntKind.signed,IntKind.bits]
theorem EY{E:Env}{x y:Operand}{a b:Int}(h1:ev E x= .int .u8 a)(h2:ev E y= .int .u8 b):zu (ev E) (.bin .add x y)=some (.int .u8 ((a+b)%256)):=by
 simp[zu,h1,h2,Wy,WW,XY]
theorem EG{E:Env}{x y:Operand}{a b:Int}(h1:ev E x= .int .u8 a)(h2:ev E y= .int .u8 b):zu (ev E) (.bin .sub x y)=some (.int .u8 ((a-b)%256)):=by
 simp[zu,h1,h2,Wy,WW,XY]
set_option maxRecDepth 10000 in
theorem ig(Y:Bs)(_hY:Y.length<2 ^ 62):Tri Tryz.prog 139 #[sv Y] [] (fun r S=>r= .tuple #[.int .i64 ((lead Y).1:Int),.bool (lead Y).2]∧S=[]):=by
 refine Tri.forget (zn Tryz.H9 (Nat.le_of_ble_eq_true rfl) ?_);unfold Tryz.DC;refine ze (z8 (yp pC (yp pC (zf (za (ze (ze (z8 (yp pC (zf (za (zo ?_))))))))))));refine Z4 (σ:=Nat) (fun a E S=>Has E [(0,sv Y),(4,.int .i64 (a:Int))]∧(a≤255+64∧∃f,lead Y=Xr f Y a∧256≤a+f)∧zG S []) (fun a=>400-a) 0 ⟨⟨rfl,rfl,trivial⟩,⟨Nat.zero_le _,256,rfl,Nat.le_refl _⟩,.of⟩ fun a E S ⟨hE,⟨ha,f,hl,hf⟩,hJ⟩=>?_
 have hend:Y.length≤a∨255≤a→lead Y=(0,false):=fun h=>by rw[hl]; exact oQ h f
 obtain⟨E0,e0⟩:=zl hE; subst e0; clear hE;refine zm hJ (ze (ze (z8 (yp (pI rfl) (yp (pT rfl) (yp (uU rfl) (yp (ZL rfl rfl) (yp (pB rfl) ?_))))))));rw[Qm];by_cases h1:a<Y.length
 ·rw[decide_eq_true (show(a:Int)<(Y.length:Int) from by omega)];refine Z0 rfl (Zc (pI rfl) (Z0 rfl (Zc (ZL rfl rfl) (yp (zP rfl rfl) (zf (za ?_))))));by_cases h2:a<255
  ·rw[decide_eq_true (show(a:Int)<255 from by omega)];have hy:Y[a]?=some Y[a]:=List.getElem?_eq_getElem h1;generalize Y[a]=b at hy;obtain⟨f',rfl⟩:∃f',f=f'+1:=⟨f-1,by omega⟩
   rw[iF hy h2] at hl;have hb:=b.toNat_lt;refine zI rfl (zq (za (zo (ze (z8 (yp (pT rfl) (yp (pI rfl) (yp (bq rfl rfl hy) (yp (jS rfl) (yp (pI rfl) (zf (za (ze (z8 (yp (pI rfl) (yp (Za rfl rfl (by omega)) (yp (pI rfl) (zf (za (ze (ze (z8 (yp (pI rfl) (yp (WB rfl rfl) (zf (za ?_))))))))))))))))))))))))));refine zO rfl (fun h3=>?_) (fun h3=>?_)
   ·rw[if_pos (by omega)] at hl;refine ze (z8 (yp (pI rfl) (yp (pI rfl) (yp pC (zf (za (zL (zX (bret (zX (bret (zX ?_))))))))))));exact zK (fU rfl rfl) ⟨_,.of,by rw[hl],rfl⟩
   ·rw[if_neg (by omega)] at hl;refine zq (za (ze (z8 (yp (pI rfl) (yp (pI rfl) (yp (Zi rfl rfl (by omega)) (yp (pI rfl) (zf (za (ze (z8 (yp (pI rfl) (yp (VE rfl rfl) (zf (za ?_)))))))))))))));refine zO rfl (fun h4=>?_) (fun h4=>?_)
    ·rw[if_pos (by omega)] at hl;refine zV (vV rfl (zy (zW (za (ze (z8 (yp pC (yp pC (zf (za (zL ?_)))))))))));exact zK (fU rfl rfl) ⟨_,.of,by rw[hl]; rfl,rfl⟩
    ·rw[if_neg (by omega)] at hl;refine zq (zT (za ?_));exact⟨a+1+b.toNat,⟨⟨rfl,rfl,trivial⟩,⟨by omega,f',hl,by omega⟩,.of⟩,by omega⟩
  ·rw[decide_eq_false (show ¬(a:Int)<255 from by omega)];refine zw rfl (zV (zy (zy (zW (za (ze (z8 (yp pC (yp pC (zf (za (zL ?_))))))))))));exact zK (fU rfl rfl) ⟨_,.of,by rw[hend (by omega)]; rfl,rfl⟩
 ·rw[decide_eq_false (show ¬(a:Int)<(Y.length:Int) from by omega)];refine Z5 rfl (Z5 rfl (yp (zU rfl rfl) (zf (za (zw rfl (zV (zy (zy (zW (za (ze (z8 (yp pC (yp pC (zf (za (zL ?_)))))))))))))))));exact zK (fU rfl rfl) ⟨_,.of,by rw[hend (by omega)]; rfl,rfl⟩
theorem uy(Y:Bs)(hY:Y.length<2 ^ 62):Tri Tryz.prog 89 #[sv Y] [] (fun r S=>r= .bool (WR Y)∧S=[]):=by
 refine Tri.forget (zn Tryz.MG (Nat.le_of_ble_eq_true rfl) ?_);unfold Tryz.NP;refine ze (z8 (yp pC (zf (za (ze (z8 (yp (pT rfl) ?_)))))));refine zh (zk (ig Y hY) rfl rfl fun r S' h=>?_);obtain⟨rfl,rfl⟩:=h;unfold WR;cases hb:(lead Y).2 with
 | false=>
  refine yp (pU rfl) (yp (pExt rfl rfl) (yp (pExt rfl rfl) (yp (pI rfl) (yp (pB rfl) (zf (za (ze (z8 (yp (pB rfl) (yp (pB rfl) (Z5 rfl (Z5 rfl (Z5 rfl (Z5 rfl (yp (zU rfl rfl) (yp (pB rfl) (zf (za (zL ?_)))))))))))))))))));exact zK (rB rfl) ⟨_,.of,rfl,rfl⟩
 | true=>
  refine yp (pU rfl) (yp (pExt rfl rfl) (yp (pExt rfl rfl) (yp (pI rfl) (yp (pB rfl) (zf (za (ze (z8 (yp (pB rfl) (yp (pB rfl) (Z0 rfl (Zc (pI rfl) (Z0 rfl (Zc (pT rfl) (Z0 rfl (Zc (uU rfl) (Z0 rfl (Zc (WB rfl rfl) (yp (zP rfl rfl) (yp (pB rfl) (zf (za (zL ?_)))))))))))))))))))))));rw[Qm];refine zK (rB rfl) ⟨_,.of,?_,rfl⟩;congr 1;by_cases h:(lead Y).1=Y.length
  ·rw[decide_eq_true (by omega),h]; simp
  ·rw[decide_eq_false (by omega)]; simp[h]
def wP(i:Nat)(Y:Bs):Bs:=(Y.take i).map low++Y.drop i
theorem uF{i:Nat}{Y:Bs}(h:i≤Y.length):(wP i Y).length=Y.length:=by simp[wP]; omega
theorem uG{i:Nat}{Y:Bs}(h:i≤Y.length)(j:Nat):(wP i Y)[j]?=if j<i then(Y[j]?).map low else Y[j]?:=by
 unfold wP;rw[List.getElem?_append];have hl:((Y.take i).map low).length=i:=by simp; omega
 rw[hl];split
 ·rw[List.getElem?_map,List.getElem?_take,if_pos (by omega)]
 ·rw[List.getElem?_drop]; congr 1; omega
theorem yL{i:Nat}{Y:Bs}(h:i<Y.length):(wP i Y).set i (low Y[i])=wP (i+1) Y:=by
 refine List.ext_getElem? fun j=>?_
 rw[List.getElem?_set,uG (by omega),uG (by omega),uF (by omega)];by_cases hj:i=j
 ·subst hj;rw[if_pos rfl,if_pos h,if_pos (by omega),List.getElem?_eq_getElem h]; rfl
 ·rw[if_neg hj];by_cases h2:j<i
  ·rw[if_pos h2,if_pos (by omega)]
  ·rw[if_neg h2,if_neg (by omega)]
theorem J5{i:Nat}{Y:Bs}(h:i<Y.length)(hl:low Y[i]=Y[i]):wP i Y=wP (i+1) Y:=by
 rw[←yL h];refine List.ext_getElem? fun j=>?_
 rw[List.getElem?_set,uF (by omega)];by_cases hj:i=j
 ·subst hj;rw[if_pos rfl,if_pos h,uG (by omega),if_neg (by omega),hl,List.getElem?_eq_getElem h]
 ·rw[if_neg hj]
theorem J4(Y:Bs):wP 0 Y=Y:=by simp[wP]
theorem qw(Y:Bs):wP Y.length Y=Y.map low:=by simp[wP]
set_option maxRecDepth 10000 in
theorem qc(Y:Bs)(hY:Y.length<2 ^ 62):Tri Tryz.prog 99 #[sv Y] [] (fun r S=>r=sv (Y.map low)∧S=[]):=by
 refine Tri.forget (zn Tryz.Mv (Nat.le_of_ble_eq_true rfl) ?_);unfold Tryz.x99;refine ze (z8 (yp pC (zf (za (ze (z8 (yp (pT rfl) ?_)))))));refine zh (CV rfl fun v H hL=>?_);have hL:Zf 5 v Y H:=hL;obtain⟨a,c,rfl⟩:=hL.isSlice;rw[←J4 Y,uF (Nat.zero_le _)] at hL;refine yp (pS rfl) (zf (za (ze (ze (z8 (yp (pS rfl) (yp (Zz rfl) (yp pC (zf (za (zo ?_)))))))))));refine Z4 (σ:=Nat) (fun i E S=>∃H,Has E [(3,.slice a Y.length c),(8,.slice a Y.length c),(9,.int .i64 (Y.length:Int)),(10,.int .i64 (i:Int))]∧i≤Y.length∧Zf 5 (.slice a Y.length c) (wP i Y) H∧zG S [H]) (fun i=>Y.length-i) 0 ⟨H,⟨rfl,rfl,rfl,rfl,trivial⟩,Nat.zero_le _,hL,.of⟩ fun i E S ⟨H,hE,hi,hL,hJ⟩=>?_
 have hfl:=uF hi;obtain⟨E0,e0⟩:=zl hE; subst e0; clear hE;refine zm hJ (ze (z8 (yp (ZL rfl rfl) (zf (za (ze ?_))))));refine zO rfl (fun h=>?_) (fun h=>?_)
 ·have hlt:i<Y.length:=by omega
  have hg:=uG hi i;rw[if_neg (by omega)] at hg;have hset:=yL hlt;have hsame:=J5 hlt;have hyi:Y[i]?=some Y[i]:=List.getElem?_eq_getElem hlt;rw[hyi] at hg;generalize Y[i]=y at hg hset hsame;have hy:=y.toNat_lt;obtain⟨b,sp,fz,hz,hae,_,hce,rfl⟩:=hL.at' (by intro h; rw[h] at hfl; simp at hfl; omega);subst hae;rw[hfl] at hce;have hif:i<(wP i Y).length:=by omega
  have hld:((cells (wP i Y++sp)).toArray.toList)[0+i*1+0]?=some (.int .u8 (y.toNat:Int)):=(wH (kk:=1) (j:=0) hif rfl (by omega)).trans (by rw[List.getElem?_eq_getElem hif] at hg; rw[Option.some.inj hg]; rfl);refine zq (za (ze (zo (ze (z8 (yp (pI rfl) (yp (zN rfl rfl (by omega)) ?_)))))));refine zh (zF (v:= .int .u8 (y.toNat:Int)) rfl hld ?_);refine yp (pI rfl) (yp (pI rfl) (zf (za (ze (z8 (yp (pI rfl) (yp (U9 rfl rfl) (yp (pB rfl) ?_))))))));have hno:low y=y→Zf 5 (.slice (some ⟨b,0,none⟩) Y.length c) (wP (i+1) Y) [(b,.cells (cells (wP i Y++sp)).toArray 5 fz)]:=fun hl=>by rw[←hsame hl]; exact hL
  by_cases h1:65≤(y.toNat:Int)
  ·rw[decide_eq_true h1];refine Z0 rfl (Zc (pI rfl) (Z0 rfl (Zc (Xl rfl rfl) (yp (zP rfl rfl) (zf (za ?_))))));by_cases h2:(y.toNat:Int)≤90
   ·rw[decide_eq_true h2];have hlow:low y=UInt8.ofNat (y.toNat+32):=by unfold low; rw[if_pos (by omega)]
    have hln:((low y).toNat:Int)=(((y.toNat:Int)+97)%256-65)%256:=by
     rw[hlow];have:(UInt8.ofNat (y.toNat+32)).toNat=(y.toNat+32)%256:=by simp
     rw[this]; omega
    refine zI rfl (z8 (yp (pS rfl) (yp (pI rfl) (yp (pI rfl) (yp (EY rfl rfl) ?_)))))
    skip
    refine yp (EG rfl rfl) ?_;rw[←hln];refine yp (zN rfl rfl (by omega)) ?_;refine zh (Z7 (M:=wP i Y++sp) (i:=i) (y:=low y) rfl (by simp; omega) rfl rfl hz ?_);have hs2:=Zf.setAt (ty:=5) (b:=b) (c:=c) (y:=low y) hz hif (by omega);rw[hset,hfl] at hs2;refine zf (zT (za (z8 (yp (Za rfl rfl (by omega)) (yp (pI rfl) (zf (za ?_)))))));exact⟨i+1,⟨_,⟨rfl,rfl,rfl,rfl,trivial⟩,by omega,hs2,.of⟩,by omega⟩
   ·rw[decide_eq_false h2];refine zw rfl (zq (zT (za (z8 (yp (Za rfl rfl (by omega)) (yp (pI rfl) (zf (za ?_))))))));exact⟨i+1,⟨_,⟨rfl,rfl,rfl,rfl,trivial⟩,by omega,hno (by unfold low; rw[if_neg (by omega)]),.of⟩,by omega⟩
  ·rw[decide_eq_false h1];refine Z5 rfl (Z5 rfl (yp (zU rfl rfl) (zf (za (zw rfl (zq (zT (za (z8 (yp (Za rfl rfl (by omega)) (yp (pI rfl) (zf (za ?_)))))))))))));exact⟨i+1,⟨_,⟨rfl,rfl,rfl,rfl,trivial⟩,by omega,hno (by unfold low; rw[if_neg (by omega)]),.of⟩,by omega⟩
 ·have hiY:i=Y.length:=by omega
  subst hiY;rw[qw] at hL;have hml:(Y.map low).length=Y.length:=by simp
  rw[←hml] at hL;refine zV (zy (zy (zW (za (ze (z8 (yp (pS rfl) ?_)))))));refine zh (aM (Y:=Y.map low) (by rw[hml]; rfl) (hL.src (by simp)) ?_);refine yp (pT rfl) (zf (za (zL ?_)));exact zK (res1 rfl) ⟨_,.of,rfl,rfl⟩
theorem Kz(Y:Bs)(hY:Y.length<2 ^ 62):Tri Tryz.prog 55 #[sv Y] [] (fun r S=>r=sv (zC Y)∧S=[]):=by
 refine Tri.forget (zn Tryz.N9 (Nat.le_of_ble_eq_true rfl) ?_);unfold Tryz.Ob;refine ze (z8 (yp pC (zf (za (ze (ze (z8 (yp (pT rfl) ?_))))))));refine zh (zk (uy Y hY) rfl rfl fun r S' h=>?_);obtain⟨rfl,rfl⟩:=h;unfold zC;cases WR Y with
 | false=>
  refine yp (Ze rfl) (zf (za (zI rfl (ze (z8 (yp (pT rfl) (yp (pT rfl) (zf (za (zL (zX ?_)))))))))));exact zK (res1 rfl) ⟨_,.of,rfl,rfl⟩
 | true=>
  refine yp (Ze rfl) (zf (za (zw rfl (zq (za (ze (z8 (yp (pT rfl) ?_))))))));refine zh (zk (qc Y hY) rfl rfl fun r S' h=>?_);obtain⟨rfl,rfl⟩:=h;refine yp (pT rfl) (zf (za (zL ?_)));exact zK (res1 rfl) ⟨_,.of,rfl,rfl⟩
instance:Enc ByteArray:=⟨fun s=>[.string s],1,fun _=>rfl,fun _=>rfl⟩
structure Nm where
 id:Int
 n:Bs
 u:Nat
instance:Enc Nm:=⟨fun x=>[.int .i64 x.id,sv x.n,.int .i64 (x.u:Int)],3,fun _=>rfl,fun _=>rfl⟩
/-- where one is: by its letters, by its number -/
def VF(n:Bs):List Nm→Option Nat
 | []=>none
 | x::l=>if x.n=n then some 0 else(VF n l).map (· +1)
def VU(i:Int):List Nm→Option Nat
 | []=>none
 | x::l=>if x.id=i then some 0 else(VU i l).map (· +1)
theorem x8{n:Bs}:∀{L:List Nm} {j:Nat},VF n L=some j→∃e,L[j]?=some e∧e.n=n
 | [],_,h=>by cases h
 | x::l,j,h=>by
  unfold VF at h;split at h
  ·next hx=>obtain rfl:=Option.some.inj h; exact⟨x,rfl,hx⟩
  ·cases hl:VF n l with
   | none=>rw[hl] at h; cases h
   | some k=>
    rw[hl] at h;obtain rfl:k+1=j:=Option.some.inj h;obtain⟨e,h1,h2⟩:=x8 hl;exact⟨e,by simpa using h1,h2⟩
theorem Ua{i:Int}:∀{L:List Nm} {j:Nat},VU i L=some j→∃e,L[j]?=some e∧e.id=i
 | [],_,h=>by cases h
 | x::l,j,h=>by
  unfold VU at h;split at h
  ·next hx=>obtain rfl:=Option.some.inj h; exact⟨x,rfl,hx⟩
  ·cases hl:VU i l with
   | none=>rw[hl] at h; cases h
   | some k=>
    rw[hl] at h;obtain rfl:k+1=j:=Option.some.inj h;obtain⟨e,h1,h2⟩:=Ua hl;exact⟨e,by simpa using h1,h2⟩
theorem Va{n:Bs}:∀{L:List Nm},VF n L=none→∀e∈L,e.n≠n
 | x::l,h,e,he=>by
  unfold VF at h;split at h
  ·cases h
  ·next hx=>
   have hl:VF n l=none:=by
    cases hl:VF n l with
    | none=>rfl
    | some k=>rw[hl] at h; cases h
   rcases List.mem_cons.1 he with rfl | he
   ·exact hx
   ·exact Va hl e he
theorem xZ{i:Int}:∀{L:List Nm},VU i L=none→∀e∈L,e.id≠i
 | x::l,h,e,he=>by
  unfold VU at h;split at h
  ·cases h
  ·next hx=>
   have hl:VU i l=none:=by
    cases hl:VU i l with
    | none=>rfl
    | some k=>rw[hl] at h; cases h
   rcases List.mem_cons.1 he with rfl | he
   ·exact hx
   ·exact xZ hl e he
/-- what the two maps have -/
def uO(L:List Nm):ByteArray→Option Int:=fun s=>(VF s.data.toList L).bind fun j=>(L[j]?).map (·.id)
def WV(L:List Nm):Int→Option Bool:=fun i=>(VU i L).map fun _=>true
/-- nobody twice -/
structure xL(L:List Nm):Prop where
 ids:(L.map (·.id)).Nodup
 ns:(L.map (·.n)).Nodup
theorem oz{L:List Nm}(h:(L.map (·.n)).Nodup){j:Nat}{e:Nm}(he:L[j]?=some e):VF e.n L=some j:=by
 cases hx:VF e.n L with
 | none=>exact absurd rfl (Va hx e (List.mem_of_getElem? he))
 | some k=>
  obtain⟨e',h1,h2⟩:=x8 hx;have h3:(L.map (·.n))[k]?=some e.n:=by rw[List.getElem?_map,h1,Option.map_some,h2]
  have h4:(L.map (·.n))[j]?=some e.n:=by rw[List.getElem?_map,he,Option.map_some]
  rw[(List.getElem?_inj (List.getElem?_eq_some_iff.1 h3).1 h).1 (h3.trans h4.symm)]
theorem QK{L:List Nm}(h:(L.map (·.id)).Nodup){j:Nat}{e:Nm}(he:L[j]?=some e):VU e.id L=some j:=by
 cases hx:VU e.id L with
 | none=>exact absurd rfl (xZ hx e (List.mem_of_getElem? he))
 | some k=>
  obtain⟨e',h1,h2⟩:=Ua hx;have h3:(L.map (·.id))[k]?=some e.id:=by rw[List.getElem?_map,h1,Option.map_some,h2]
  have h4:(L.map (·.id))[j]?=some e.id:=by rw[List.getElem?_map,he,Option.map_some]
  rw[(List.getElem?_inj (List.getElem?_eq_some_iff.1 h3).1 h).1 (h3.trans h4.symm)]
/-- the maps by their elements alone -/
theorem Vk{L:List Nm}(h:xL L){s:ByteArray}{i:Int}:uO L s=some i↔∃e∈L,e.n=s.data.toList∧e.id=i:=by
 unfold uO;constructor
 ·intro hx;cases hn:VF s.data.toList L with
  | none=>rw[hn] at hx; cases hx
  | some j=>
   obtain⟨e,h1,h2⟩:=x8 hn;rw[hn] at hx;simp only[Option.bind_some,h1,Option.map_some] at hx;exact⟨e,List.mem_of_getElem? h1,h2,Option.some.inj hx⟩
 ·rintro⟨e,he,h1,rfl⟩;obtain⟨j,hj⟩:=List.mem_iff_getElem?.1 he;rw[←h1,oz h.ns hj];simp[hj]
theorem WG{L:List Nm}{i:Int}{b:Bool}:WV L i=some b↔b=true∧∃e∈L,e.id=i:=by
 unfold WV;cases hn:VU i L with
 | none=>
  have:=xZ hn;constructor
  ·intro h; cases h
  ·rintro⟨_,e,he,h⟩; exact absurd h (this e he)
 | some j=>
  obtain⟨e,h1,h2⟩:=Ua hn;constructor
  ·intro h; exact⟨(Option.some.inj h).symm,e,List.mem_of_getElem? h1,h2⟩
  ·rintro⟨rfl,_⟩; rfl
theorem Uc{κ ν:Type}{f g:κ→Option ν}(h:∀k v,f k=some v↔g k=some v):f=g:=by
 funext k;cases hf:f k with
 | some v=>exact((h k v).1 hf).symm
 | none=>
  cases hg:g k with
  | none=>rfl
  | some v=>rw[(h k v).2 hg] at hf; cases hf
theorem yY(s:ByteArray)(n:Bs):s=⟨n.toArray⟩↔s.data.toList=n:=by
 constructor
 ·rintro rfl; rfl
 ·rintro rfl; rfl
theorem xL.add{L:List Nm}(h:xL L){e:Nm}(hi:∀x∈L,x.id≠e.id)(hn:∀x∈L,x.n≠e.n):xL (L++[e]):=by
 constructor
 ·rw[List.map_append];refine List.nodup_append.2 ⟨h.ids,by simp,fun a ha b hb=>?_⟩;obtain⟨x,hx,rfl⟩:=List.mem_map.1 ha;simp at hb; rw[hb]; exact hi x hx
 ·rw[List.map_append];refine List.nodup_append.2 ⟨h.ns,by simp,fun a ha b hb=>?_⟩;obtain⟨x,hx,rfl⟩:=List.mem_map.1 ha;simp at hb; rw[hb]; exact hn x hx
theorem iK{L:List Nm}(h:xL L){e:Nm}(hi:∀x∈L,x.id≠e.id)(hn:∀x∈L,x.n≠e.n):uO (L++[e])=wT (uO L) (⟨e.n.toArray⟩:ByteArray) (some e.id):=by
 refine Uc fun s i=>?_
 rw[Vk (h.add hi hn)];unfold wT;by_cases hs:s=⟨e.n.toArray⟩
 ·rw[if_pos hs];have hs2:=(yY s e.n).1 hs;constructor
  ·rintro⟨x,hx,h1,rfl⟩;rcases List.mem_append.1 hx with hx | hx
   ·exact absurd (h1.trans hs2) (hn x hx)
   ·rw[List.mem_singleton.1 hx]
  ·intro h1;exact⟨e,by simp,hs2.symm,Option.some.inj h1⟩
 ·rw[if_neg hs,Vk h];constructor
  ·rintro⟨x,hx,h1,rfl⟩;rcases List.mem_append.1 hx with hx | hx
   ·exact⟨x,hx,h1,rfl⟩
   ·rw[List.mem_singleton.1 hx] at h1; exact absurd ((yY s e.n).2 h1.symm) hs
  ·rintro⟨x,hx,h1,rfl⟩;exact⟨x,List.mem_append.2 (.inl hx),h1,rfl⟩
theorem bZ{L:List Nm}{e:Nm}:WV (L++[e])=wT (WV L) e.id (some true):=by
 refine Uc fun i b=>?_
 rw[WG];unfold wT;by_cases hs:i=e.id
 ·rw[if_pos hs];constructor
  ·rintro⟨rfl,_⟩; rfl
  ·intro h1; exact⟨(Option.some.inj h1).symm,e,by simp,hs.symm⟩
 ·rw[if_neg hs,WG];constructor
  ·rintro⟨rfl,x,hx,h1⟩;rcases List.mem_append.1 hx with hx | hx
   ·exact⟨rfl,x,hx,h1⟩
   ·rw[List.mem_singleton.1 hx] at h1; exact absurd h1.symm hs
  ·rintro⟨rfl,x,hx,h1⟩;exact⟨rfl,x,List.mem_append.2 (.inl hx),h1⟩
/-- a name is used so often -/
def reuse(L:List Nm)(j:Nat)(e:Nm)(u:Nat):List Nm:=L.set j ⟨e.id,e.n,u⟩
theorem aZ{L:List Nm}{j:Nat}{e:Nm}{u:Nat}(he:L[j]?=some e):(reuse L j e u).map (·.id)=L.map (·.id):=by
 refine List.ext_getElem? fun i=>?_
 unfold reuse;rw[List.getElem?_map,List.getElem?_map,List.getElem?_set];split
 ·next h=>subst h; rw[if_pos (List.getElem?_eq_some_iff.1 he).1,he]; rfl
 ·rfl
theorem fK{L:List Nm}{j:Nat}{e:Nm}{u:Nat}(he:L[j]?=some e):(reuse L j e u).map (·.n)=L.map (·.n):=by
 refine List.ext_getElem? fun i=>?_
 unfold reuse;rw[List.getElem?_map,List.getElem?_map,List.getElem?_set];split
 ·next h=>subst h; rw[if_pos (List.getElem?_eq_some_iff.1 he).1,he]; rfl
 ·rfl
theorem VX{L:List Nm}{j:Nat}{e x:Nm}{u:Nat}(he:L[j]?=some e)(hx:x∈reuse L j e u):∃y∈L,y.id=x.id∧y.n=x.n:=by
 unfold reuse at hx;rcases List.mem_or_eq_of_mem_set hx with hx | rfl
 ·exact⟨x,hx,rfl,rfl⟩
 ·exact⟨e,List.mem_of_getElem? he,rfl,rfl⟩
theorem WX{L:List Nm}{j:Nat}{e y:Nm}{u:Nat}(he:L[j]?=some e)(hy:y∈L):∃x∈reuse L j e u,x.id=y.id∧x.n=y.n:=by
 obtain⟨i,hi⟩:=List.mem_iff_getElem?.1 hy;by_cases hij:j=i
 ·subst hij;rw[he] at hi;obtain rfl:=Option.some.inj hi;exact⟨⟨e.id,e.n,u⟩,List.mem_of_getElem? (i:=j) (by unfold reuse; rw[List.getElem?_set_self (List.getElem?_eq_some_iff.1 he).1]),rfl,rfl⟩
 ·exact⟨y,List.mem_of_getElem? (i:=i) (by unfold reuse; rw[List.getElem?_set_ne hij]; exact hi),rfl,rfl⟩
theorem xL.reuse{L:List Nm}(h:xL L){j:Nat}{e:Nm}{u:Nat}(he:L[j]?=some e):xL (reuse L j e u):=⟨by rw[aZ he]; exact h.ids,by rw[fK he]; exact h.ns⟩
theorem qo{L:List Nm}(h:xL L){j:Nat}{e:Nm}{u:Nat}(he:L[j]?=some e):uO (reuse L j e u)=uO L:=by
 refine Uc fun s i=>?_
 rw[Vk (h.reuse he),Vk h];constructor
 ·rintro⟨x,hx,h1,h2⟩;obtain⟨y,hy,h3,h4⟩:=VX he hx;exact⟨y,hy,h4.trans h1,h3.trans h2⟩
 ·rintro⟨y,hy,h1,h2⟩;obtain⟨x,hx,h3,h4⟩:=WX (u:=u) he hy;exact⟨x,hx,h4.trans h1,h3.trans h2⟩
theorem Jq{L:List Nm}{j:Nat}{e:Nm}{u:Nat}(he:L[j]?=some e):WV (reuse L j e u)=WV L:=by
 refine Uc fun i b=>?_
 rw[WG,WG];constructor
 ·rintro⟨h0,x,hx,h2⟩;obtain⟨y,hy,h3,h4⟩:=VX he hx;exact⟨h0,y,hy,h3.trans h2⟩
 ·rintro⟨h0,y,hy,h2⟩;obtain⟨x,hx,h3,h4⟩:=WX (u:=u) he hy;exact⟨h0,x,hx,h3.trans h2⟩
theorem WE{L:List Nm}(h:xL L){j:Nat}{e x:Nm}(he:L[j]?=some e)(hx:x∈L.eraseIdx j):x∈L∧x.id≠e.id∧x.n≠e.n:=by
 obtain⟨i,hi⟩:=List.mem_iff_getElem?.1 hx;rw[List.getElem?_eraseIdx] at hi;have key:∀k,L[k]?=some x→k≠j→x∈L∧x.id≠e.id∧x.n≠e.n:=fun k hk hne=>by
  refine⟨List.mem_of_getElem? hk,fun h1=>hne ?_,fun h1=>hne ?_⟩
  ·have h3:(L.map (·.id))[k]?=some e.id:=by rw[List.getElem?_map,hk,Option.map_some,h1]
   have h4:(L.map (·.id))[j]?=some e.id:=by rw[List.getElem?_map,he,Option.map_some]
   exact(List.getElem?_inj (List.getElem?_eq_some_iff.1 h3).1 h.ids).1 (h3.trans h4.symm)
  ·have h3:(L.map (·.n))[k]?=some e.n:=by rw[List.getElem?_map,hk,Option.map_some,h1]
   have h4:(L.map (·.n))[j]?=some e.n:=by rw[List.getElem?_map,he,Option.map_some]
   exact(List.getElem?_inj (List.getElem?_eq_some_iff.1 h3).1 h.ns).1 (h3.trans h4.symm)
 split at hi
 ·exact key i hi (by omega)
 ·exact key (i+1) hi (by omega)
theorem mem_erase{L:List Nm}{j:Nat}{e x:Nm}(he:L[j]?=some e)(hx:x∈L)(hne:x.id≠e.id∨x.n≠e.n):x∈L.eraseIdx j:=by
 obtain⟨i,hi⟩:=List.mem_iff_getElem?.1 hx;have hij:i≠j:=fun e2=>by rw[e2,he] at hi; obtain rfl:=Option.some.inj hi; simp at hne
 refine List.mem_of_getElem? (i:=if i<j then i else i-1) ?_;rw[List.getElem?_eraseIdx];by_cases h7:i<j
 ·rw[if_pos h7,if_pos h7]; exact hi
 ·rw[if_neg h7,if_neg (by omega),show i-1+1=i from by omega]; exact hi
theorem xL.erase{L:List Nm}(h:xL L)(j:Nat):xL (L.eraseIdx j):=⟨((List.eraseIdx_sublist L j).map _).nodup h.ids,((List.eraseIdx_sublist L j).map _).nodup h.ns⟩
theorem qp{L:List Nm}(h:xL L){j:Nat}{e:Nm}(he:L[j]?=some e):uO (L.eraseIdx j)=wT (uO L) (⟨e.n.toArray⟩:ByteArray) none:=by
 refine Uc fun s i=>?_
 rw[Vk (h.erase j)];unfold wT;by_cases hs:s=⟨e.n.toArray⟩
 ·rw[if_pos hs];have hs2:=(yY s e.n).1 hs;constructor
  ·rintro⟨x,hx,h1,_⟩;exact absurd (h1.trans hs2) (WE h he hx).2.2
  ·intro h1; cases h1
 ·rw[if_neg hs,Vk h];constructor
  ·rintro⟨x,hx,h1,h2⟩;exact⟨x,(WE h he hx).1,h1,h2⟩
  ·rintro⟨x,hx,h1,h2⟩;exact⟨x,mem_erase he hx (.inr fun h3=>hs ((yY s e.n).2 (h1.symm.trans h3))),h1,h2⟩
theorem Jr{L:List Nm}(h:xL L){j:Nat}{e:Nm}(he:L[j]?=some e):WV (L.eraseIdx j)=wT (WV L) e.id none:=by
 refine Uc fun i b=>?_
 rw[WG];unfold wT;by_cases hs:i=e.id
 ·rw[if_pos hs];constructor
  ·rintro⟨_,x,hx,h1⟩;exact absurd (h1.trans hs) (WE h he hx).2.1
  ·intro h1; cases h1
 ·rw[if_neg hs,WG];constructor
  ·rintro⟨h0,x,hx,h1⟩;exact⟨h0,x,(WE h he hx).1,h1⟩
  ·rintro⟨h0,x,hx,h1⟩;exact⟨h0,x,mem_erase he hx (.inl fun h3=>hs (h1.symm.trans h3)),h1⟩
/-- how often, in eight bytes -/
def Vi(n:Nat):Bs:=(List.range 8).map fun i=>UInt8.ofNat (n/2 ^ (8*i))
theorem ZK(n:Nat):(Vi n).length=8:=by simp[Vi]
theorem QM(n i:Nat)(h:i<8):(Vi n)[i]?=some (UInt8.ofNat (n/2 ^ (8*i))):=by
 unfold Vi;rw[List.getElem?_map,List.getElem?_range h]; rfl
end Go.Proofs.YtekgciopamkjlaaGreat
