/- Names (chapter 1): what is a name, and with small letters; the program's, and the document's. The table of names (chapter 7), plainly: names by number and by letters, how often a name is used in eight bytes, arenas of like blocks. -/
import Derived.Test.YtekgciopamkjlaaGreatB3
import Derived.Test.YtekgciopamkjlaaGreatFNames
import Derived.Test.YtekgciopamkjlaaGreatA2
namespace Go.Proofs.YtekgciopamkjlaaGreat
open Go.Xs
open Enc (enc)
abbrev Bs:=List UInt8
/-- a text -/
abbrev sv(Y:Bs):Value:= .string ⟨Y.toArray⟩
def Xx:Nat→Bs→Nat→Nat × Bool
 | 0,_,_=>(0,false)
 | f+1,Y,a=>match Y[a]? with
  | some b=>if 255≤a then(0,false) else if b.toNat=0 then(a+1,true) else if 63<b.toNat then(0,false) else Xx f Y (a+1+b.toNat)
  | none=>(0,false)
def lead(Y:Bs):Nat × Bool:=Xx 256 Y 0
def WQ(Y:Bs):Bool:=(lead Y).2 && (lead Y).1==Y.length
def low(b:UInt8):UInt8:=if 65≤b.toNat∧b.toNat≤90 then UInt8.ofNat (b.toNat+32) else b
def zA(Y:Bs):Bs:=if WQ Y then Y.map low else Y
theorem wM(Y:Bs):(zA Y).length=Y.length:=by unfold zA; split<;>simp
theorem o7{Y:Bs}{a:Nat}(h:Y.length≤a∨255≤a):∀f,Xx f Y a=(0,false)
 | 0=>rfl
 | f+1=>by
  unfold Xx;cases hy:Y[a]? with
  | none=>rfl
  | some b=>
   have:=(List.getElem?_eq_some_iff.1 hy).1;simp only;rw[if_pos (by omega)]
theorem iy{Y:Bs}{a f:Nat}{b:UInt8}(hy:Y[a]?=some b)(ha:a<255):Xx (f+1) Y a=if b.toNat=0 then(a+1,true) else if 63<b.toNat then(0,false) else Xx f Y (a+1+b.toNat):=by
 rw[Xx,hy];simp only;rw[if_neg (by omega)]
theorem qx:∀(f:Nat) (Y:Bs) (a:Nat),(Xx f Y a).1≤255
 | 0,_,_=>Nat.zero_le _
 | f+1,Y,a=>by
  unfold Xx;split
  ·split
   ·exact Nat.zero_le _
   ·split
    ·show a+1≤255; omega
    ·split
     ·exact Nat.zero_le _
     ·exact qx f Y _
  ·exact Nat.zero_le _
theorem Ws{Y:Bs}(h:WQ Y=true):Y.length≤255:=by
 unfold WQ at h;have h1:=(Bool.and_eq_true _ _▸h).2;have:=qx 256 Y 0;have e:(lead Y).1=Y.length:=by simpa using h1
 unfold lead at e;omega
theorem Qo(Y:Bs):(⟨Y.toArray⟩:ByteArray).size=Y.length:=rfl
theorem bC{E:Env}{x i:Operand}{Y:Bs}{q:IntKind}{k:Nat}{b:UInt8}(h1:ev E x=sv Y)(h2:ev E i= .int q (k:Int))(h:Y[k]?=some b):zm (ev E) (.sidx x i)=some (.int .u8 (b.toNat:Int)):=by
 obtain⟨hk,rfl⟩:=List.getElem?_eq_some_iff.1 h;exact Ed h1 h2 hk
theorem jO{E:Env}{x:Operand}{k:IntKind}{b:UInt8}(h:ev E x= .int k (b.toNat:Int)):zm (ev E) (.conv .i64 x)=some (.int .i64 (b.toNat:Int)):=by
 simp only[zm,h];have:=b.toNat_lt;rw[wrap_i64 (by omega)]
theorem y5(a:Int):IntKind.u8.wrap a=a%256:=by simp[IntKind.wrap,IntKind.signed,IntKind.bits]
theorem Eo{E:Env}{x y:Operand}{a b:Int}(h1:ev E x= .int .u8 a)(h2:ev E y= .int .u8 b):zm (ev E) (.bin .add x y)=some (.int .u8 ((a+b)%256)):=by
 simp[zm,h1,h2,WA,vE,y5]
theorem E5{E:Env}{x y:Operand}{a b:Int}(h1:ev E x= .int .u8 a)(h2:ev E y= .int .u8 b):zm (ev E) (.bin .sub x y)=some (.int .u8 ((a-b)%256)):=by
 simp[zm,h1,h2,WA,vE,y5]
set_option maxRecDepth 10000 in
theorem gU(Y:Bs)(_hY:Y.length<2 ^ 62):zP Tryz.prog 139 #[sv Y] [] (fun r S=>r= .tuple #[.int .i64 ((lead Y).1:Int),.bool (lead Y).2]∧S=[]):=by
 refine zP.forget (zl Tryz.Gf (Nat.le_of_ble_eq_true rfl) ?_);unfold Tryz.CQ;refine ze (z8 (yp pC (yp pC (zf (za (ze (ze (z8 (yp pC (zf (za (zy ?_))))))))))));refine Zb (σ:=Nat) (fun a E S=>Has E [(0,sv Y),(4,.int .i64 (a:Int))]∧(a≤255+64∧∃f,lead Y=Xx f Y a∧256≤a+f)∧zD S []) (fun a=>400-a) 0 ⟨⟨rfl,rfl,trivial⟩,⟨Nat.zero_le _,256,rfl,Nat.le_refl _⟩,.of⟩ fun a E S ⟨hE,⟨ha,f,hl,hf⟩,hJ⟩=>?_
 have hend:Y.length≤a∨255≤a→lead Y=(0,false):=fun h=>by rw[hl]; exact o7 h f
 obtain⟨E0,e0⟩:=zu hE; subst e0; clear hE;refine zo hJ (ze (ze (z8 (yp (pI rfl) (yp (pT rfl) (yp (uX rfl) (yp (ZP rfl rfl) (yp (pB rfl) ?_))))))));rw[Qo];by_cases h1:a<Y.length
 ·rw[decide_eq_true (show(a:Int)<(Y.length:Int) from by omega)];refine zY rfl (Z7 (pI rfl) (zY rfl (Z7 (ZP rfl rfl) (yp (zK rfl rfl) (zf (za ?_))))));by_cases h2:a<255
  ·rw[decide_eq_true (show(a:Int)<255 from by omega)];have hy:Y[a]?=some Y[a]:=List.getElem?_eq_getElem h1;generalize Y[a]=b at hy;obtain⟨f',rfl⟩:∃f',f=f'+1:=⟨f-1,by omega⟩
   rw[iy hy h2] at hl;have hb:=b.toNat_lt;refine zF rfl (zq (za (zy (ze (z8 (yp (pT rfl) (yp (pI rfl) (yp (bC rfl rfl hy) (yp (jO rfl) (yp (pI rfl) (zf (za (ze (z8 (yp (pI rfl) (yp (Zj rfl rfl (by omega)) (yp (pI rfl) (zf (za (ze (ze (z8 (yp (pI rfl) (yp (WT rfl rfl) (zf (za ?_))))))))))))))))))))))))));refine zR rfl (fun h3=>?_) (fun h3=>?_)
   ·rw[if_pos (by omega)] at hl;refine ze (z8 (yp (pI rfl) (yp (pI rfl) (yp pC (zf (za (zH (zX (bret (zX (bret (zX ?_))))))))))));exact zG (nM rfl rfl) ⟨_,.of,by rw[hl],rfl⟩
   ·rw[if_neg (by omega)] at hl;refine zq (za (ze (z8 (yp (pI rfl) (yp (pI rfl) (yp (Zt rfl rfl (by omega)) (yp (pI rfl) (zf (za (ze (z8 (yp (pI rfl) (yp (uf rfl rfl) (zf (za ?_)))))))))))))));refine zR rfl (fun h4=>?_) (fun h4=>?_)
    ·rw[if_pos (by omega)] at hl;refine Z0 (UG rfl (zI (Z5 (za (ze (z8 (yp pC (yp pC (zf (za (zH ?_)))))))))));exact zG (nM rfl rfl) ⟨_,.of,by rw[hl]; rfl,rfl⟩
    ·rw[if_neg (by omega)] at hl;refine zq (zT (za ?_));exact⟨a+1+b.toNat,⟨⟨rfl,rfl,trivial⟩,⟨by omega,f',hl,by omega⟩,.of⟩,by omega⟩
  ·rw[decide_eq_false (show ¬(a:Int)<255 from by omega)];refine zx rfl (Z0 (zI (zI (Z5 (za (ze (z8 (yp pC (yp pC (zf (za (zH ?_))))))))))));exact zG (nM rfl rfl) ⟨_,.of,by rw[hend (by omega)]; rfl,rfl⟩
 ·rw[decide_eq_false (show ¬(a:Int)<(Y.length:Int) from by omega)];refine zW rfl (zW rfl (yp (zQ rfl rfl) (zf (za (zx rfl (Z0 (zI (zI (Z5 (za (ze (z8 (yp pC (yp pC (zf (za (zH ?_)))))))))))))))));exact zG (nM rfl rfl) ⟨_,.of,by rw[hend (by omega)]; rfl,rfl⟩
theorem uw(Y:Bs)(hY:Y.length<2 ^ 62):zP Tryz.prog 89 #[sv Y] [] (fun r S=>r= .bool (WQ Y)∧S=[]):=by
 refine zP.forget (zl Tryz.Lm (Nat.le_of_ble_eq_true rfl) ?_);unfold Tryz.MF;refine ze (z8 (yp pC (zf (za (ze (z8 (yp (pT rfl) ?_)))))));refine zh (zk (gU Y hY) rfl rfl fun r S' h=>?_);obtain⟨rfl,rfl⟩:=h;unfold WQ;cases hb:(lead Y).2 with
 | false=>
  refine yp (pU rfl) (yp (pExt rfl rfl) (yp (pExt rfl rfl) (yp (pI rfl) (yp (pB rfl) (zf (za (ze (z8 (yp (pB rfl) (yp (pB rfl) (zW rfl (zW rfl (zW rfl (zW rfl (yp (zQ rfl rfl) (yp (pB rfl) (zf (za (zH ?_)))))))))))))))))));exact zG (rB rfl) ⟨_,.of,rfl,rfl⟩
 | true=>
  refine yp (pU rfl) (yp (pExt rfl rfl) (yp (pExt rfl rfl) (yp (pI rfl) (yp (pB rfl) (zf (za (ze (z8 (yp (pB rfl) (yp (pB rfl) (zY rfl (Z7 (pI rfl) (zY rfl (Z7 (pT rfl) (zY rfl (Z7 (uX rfl) (zY rfl (Z7 (WT rfl rfl) (yp (zK rfl rfl) (yp (pB rfl) (zf (za (zH ?_)))))))))))))))))))))));rw[Qo];refine zG (rB rfl) ⟨_,.of,?_,rfl⟩;congr 1;by_cases h:(lead Y).1=Y.length
  ·rw[decide_eq_true (by omega),h]; simp
  ·rw[decide_eq_false (by omega)]; simp[h]
def wP(i:Nat)(Y:Bs):Bs:=(Y.take i).map low++Y.drop i
theorem uF{i:Nat}{Y:Bs}(h:i≤Y.length):(wP i Y).length=Y.length:=by simp[wP]; omega
theorem uG{i:Nat}{Y:Bs}(h:i≤Y.length)(j:Nat):(wP i Y)[j]?=if j<i then(Y[j]?).map low else Y[j]?:=by
 unfold wP;rw[List.getElem?_append];have hl:((Y.take i).map low).length=i:=by simp; omega
 rw[hl];split
 ·rw[List.getElem?_map,List.getElem?_take,if_pos (by omega)]
 ·rw[List.getElem?_drop]; congr 1; omega
theorem yM{i:Nat}{Y:Bs}(h:i<Y.length):(wP i Y).set i (low Y[i])=wP (i+1) Y:=by
 refine List.ext_getElem? fun j=>?_
 rw[List.getElem?_set,uG (by omega),uG (by omega),uF (by omega)];by_cases hj:i=j
 ·subst hj;rw[if_pos rfl,if_pos h,if_pos (by omega),List.getElem?_eq_getElem h]; rfl
 ·rw[if_neg hj];by_cases h2:j<i
  ·rw[if_pos h2,if_pos (by omega)]
  ·rw[if_neg h2,if_neg (by omega)]
theorem J7{i:Nat}{Y:Bs}(h:i<Y.length)(hl:low Y[i]=Y[i]):wP i Y=wP (i+1) Y:=by
 rw[←yM h];refine List.ext_getElem? fun j=>?_
 rw[List.getElem?_set,uF (by omega)];by_cases hj:i=j
 ·subst hj;rw[if_pos rfl,if_pos h,uG (by omega),if_neg (by omega),hl,List.getElem?_eq_getElem h]
 ·rw[if_neg hj]
theorem J6(Y:Bs):wP 0 Y=Y:=by simp[wP]
theorem qC(Y:Bs):wP Y.length Y=Y.map low:=by simp[wP]
set_option maxRecDepth 10000 in
theorem qm(Y:Bs)(hY:Y.length<2 ^ 62):zP Tryz.prog 99 #[sv Y] [] (fun r S=>r=sv (Y.map low)∧S=[]):=by
 refine zP.forget (zl Tryz.Le (Nat.le_of_ble_eq_true rfl) ?_);unfold Tryz.x99;refine ze (z8 (yp pC (zf (za (ze (z8 (yp (pT rfl) ?_)))))));refine zh (BR rfl fun v H hL=>?_);have hL:Zc 5 v Y H:=hL;obtain⟨a,c,rfl⟩:=hL.isSlice;rw[←J6 Y,uF (Nat.zero_le _)] at hL;refine yp (pS rfl) (zf (za (ze (ze (z8 (yp (pS rfl) (yp (ZM rfl) (yp pC (zf (za (zy ?_)))))))))));refine Zb (σ:=Nat) (fun i E S=>∃H,Has E [(3,.slice a Y.length c),(8,.slice a Y.length c),(9,.int .i64 (Y.length:Int)),(10,.int .i64 (i:Int))]∧i≤Y.length∧Zc 5 (.slice a Y.length c) (wP i Y) H∧zD S [H]) (fun i=>Y.length-i) 0 ⟨H,⟨rfl,rfl,rfl,rfl,trivial⟩,Nat.zero_le _,hL,.of⟩ fun i E S ⟨H,hE,hi,hL,hJ⟩=>?_
 have hfl:=uF hi;obtain⟨E0,e0⟩:=zu hE; subst e0; clear hE;refine zo hJ (ze (z8 (yp (ZP rfl rfl) (zf (za (ze ?_))))));refine zR rfl (fun h=>?_) (fun h=>?_)
 ·have hlt:i<Y.length:=by omega
  have hg:=uG hi i;rw[if_neg (by omega)] at hg;have hset:=yM hlt;have hsame:=J7 hlt;have hyi:Y[i]?=some Y[i]:=List.getElem?_eq_getElem hlt;rw[hyi] at hg;generalize Y[i]=y at hg hset hsame;have hy:=y.toNat_lt;obtain⟨b,sp,fz,hz,hae,_,hce,rfl⟩:=hL.at' (by intro h; rw[h] at hfl; simp at hfl; omega);subst hae;rw[hfl] at hce;have hif:i<(wP i Y).length:=by omega
  have hld:((cells (wP i Y++sp)).toArray.toList)[0+i*1+0]?=some (.int .u8 (y.toNat:Int)):=(wJ (kk:=1) (j:=0) hif rfl (by omega)).trans (by rw[List.getElem?_eq_getElem hif] at hg; rw[Option.some.inj hg]; rfl);refine zq (za (ze (zy (ze (z8 (yp (pI rfl) (yp (zV rfl rfl (by omega)) ?_)))))));refine zh (zB (v:= .int .u8 (y.toNat:Int)) rfl hld ?_);refine yp (pI rfl) (yp (pI rfl) (zf (za (ze (z8 (yp (pI rfl) (yp (Yg rfl rfl) (yp (pB rfl) ?_))))))));have hno:low y=y→Zc 5 (.slice (some ⟨b,0,none⟩) Y.length c) (wP (i+1) Y) [(b,.cells (cells (wP i Y++sp)).toArray 5 fz)]:=fun hl=>by rw[←hsame hl]; exact hL
  by_cases h1:65≤(y.toNat:Int)
  ·rw[decide_eq_true h1];refine zY rfl (Z7 (pI rfl) (zY rfl (Z7 (jN rfl rfl) (yp (zK rfl rfl) (zf (za ?_))))));by_cases h2:(y.toNat:Int)≤90
   ·rw[decide_eq_true h2];have hlow:low y=UInt8.ofNat (y.toNat+32):=by unfold low; rw[if_pos (by omega)]
    have hln:((low y).toNat:Int)=(((y.toNat:Int)+97)%256-65)%256:=by
     rw[hlow];have:(UInt8.ofNat (y.toNat+32)).toNat=(y.toNat+32)%256:=by simp
     rw[this]; omega
    refine zF rfl (z8 (yp (pS rfl) (yp (pI rfl) (yp (pI rfl) (yp (Eo rfl rfl) ?_)))))
    skip
    refine yp (E5 rfl rfl) ?_;rw[←hln];refine yp (zV rfl rfl (by omega)) ?_;refine zh (Zl (M:=wP i Y++sp) (i:=i) (y:=low y) rfl (by simp; omega) rfl rfl hz ?_);have hs2:=Zc.setAt (ty:=5) (b:=b) (c:=c) (y:=low y) hz hif (by omega);rw[hset,hfl] at hs2;refine zf (zT (za (z8 (yp (Zj rfl rfl (by omega)) (yp (pI rfl) (zf (za ?_)))))));exact⟨i+1,⟨_,⟨rfl,rfl,rfl,rfl,trivial⟩,by omega,hs2,.of⟩,by omega⟩
   ·rw[decide_eq_false h2];refine zx rfl (zq (zT (za (z8 (yp (Zj rfl rfl (by omega)) (yp (pI rfl) (zf (za ?_))))))));exact⟨i+1,⟨_,⟨rfl,rfl,rfl,rfl,trivial⟩,by omega,hno (by unfold low; rw[if_neg (by omega)]),.of⟩,by omega⟩
  ·rw[decide_eq_false h1];refine zW rfl (zW rfl (yp (zQ rfl rfl) (zf (za (zx rfl (zq (zT (za (z8 (yp (Zj rfl rfl (by omega)) (yp (pI rfl) (zf (za ?_)))))))))))));exact⟨i+1,⟨_,⟨rfl,rfl,rfl,rfl,trivial⟩,by omega,hno (by unfold low; rw[if_neg (by omega)]),.of⟩,by omega⟩
 ·have hiY:i=Y.length:=by omega
  subst hiY;rw[qC] at hL;have hml:(Y.map low).length=Y.length:=by simp
  rw[←hml] at hL;refine Z0 (zI (zI (Z5 (za (ze (z8 (yp (pS rfl) ?_)))))));refine zh (aR (Y:=Y.map low) (by rw[hml]; rfl) (hL.src (by simp)) ?_);refine yp (pT rfl) (zf (za (zH ?_)));exact zG (res1 rfl) ⟨_,.of,rfl,rfl⟩
theorem Kz(Y:Bs)(hY:Y.length<2 ^ 62):zP Tryz.prog 55 #[sv Y] [] (fun r S=>r=sv (zA Y)∧S=[]):=by
 refine zP.forget (zl Tryz.LY (Nat.le_of_ble_eq_true rfl) ?_);unfold Tryz.N7;refine ze (z8 (yp pC (zf (za (ze (ze (z8 (yp (pT rfl) ?_))))))));refine zh (zk (uw Y hY) rfl rfl fun r S' h=>?_);obtain⟨rfl,rfl⟩:=h;unfold zA;cases WQ Y with
 | false=>
  refine yp (Zd rfl) (zf (za (zF rfl (ze (z8 (yp (pT rfl) (yp (pT rfl) (zf (za (zH (zX ?_)))))))))));exact zG (res1 rfl) ⟨_,.of,rfl,rfl⟩
 | true=>
  refine yp (Zd rfl) (zf (za (zx rfl (zq (za (ze (z8 (yp (pT rfl) ?_))))))));refine zh (zk (qm Y hY) rfl rfl fun r S' h=>?_);obtain⟨rfl,rfl⟩:=h;refine yp (pT rfl) (zf (za (zH ?_)));exact zG (res1 rfl) ⟨_,.of,rfl,rfl⟩
instance:Enc ByteArray:=⟨fun s=>[.string s],1,fun _=>rfl,fun _=>rfl⟩
structure Nm where
 id:Int
 n:Bs
 u:Nat
instance:Enc Nm:=⟨fun x=>[.int .i64 x.id,sv x.n,.int .i64 (x.u:Int)],3,fun _=>rfl,fun _=>rfl⟩
/-- where one is: by its letters, by its number -/
def VF(n:Bs):List Nm→Option Nat
 | []=>none
 | x::l=>if x.n=n then some 0 else(VF n l).map (· +1)
def VQ(i:Int):List Nm→Option Nat
 | []=>none
 | x::l=>if x.id=i then some 0 else(VQ i l).map (· +1)
theorem xD{n:Bs}:∀{L:List Nm} {j:Nat},VF n L=some j→∃e,L[j]?=some e∧e.n=n
 | [],_,h=>by cases h
 | x::l,j,h=>by
  unfold VF at h;split at h
  ·next hx=>obtain rfl:=Option.some.inj h; exact⟨x,rfl,hx⟩
  ·cases hl:VF n l with
   | none=>rw[hl] at h; cases h
   | some k=>
    rw[hl] at h;obtain rfl:k+1=j:=Option.some.inj h;obtain⟨e,h1,h2⟩:=xD hl;exact⟨e,by simpa using h1,h2⟩
theorem Ue{i:Int}:∀{L:List Nm} {j:Nat},VQ i L=some j→∃e,L[j]?=some e∧e.id=i
 | [],_,h=>by cases h
 | x::l,j,h=>by
  unfold VQ at h;split at h
  ·next hx=>obtain rfl:=Option.some.inj h; exact⟨x,rfl,hx⟩
  ·cases hl:VQ i l with
   | none=>rw[hl] at h; cases h
   | some k=>
    rw[hl] at h;obtain rfl:k+1=j:=Option.some.inj h;obtain⟨e,h1,h2⟩:=Ue hl;exact⟨e,by simpa using h1,h2⟩
theorem Va{n:Bs}:∀{L:List Nm},VF n L=none→∀e∈L,e.n≠n
 | x::l,h,e,he=>by
  unfold VF at h;split at h
  ·cases h
  ·next hx=>
   have hl:VF n l=none:=by
    cases hl:VF n l with
    | none=>rfl
    | some k=>rw[hl] at h; cases h
   rcases List.mem_cons.1 he with rfl | he
   ·exact hx
   ·exact Va hl e he
theorem X6{i:Int}:∀{L:List Nm},VQ i L=none→∀e∈L,e.id≠i
 | x::l,h,e,he=>by
  unfold VQ at h;split at h
  ·cases h
  ·next hx=>
   have hl:VQ i l=none:=by
    cases hl:VQ i l with
    | none=>rfl
    | some k=>rw[hl] at h; cases h
   rcases List.mem_cons.1 he with rfl | he
   ·exact hx
   ·exact X6 hl e he
/-- what the two maps have -/
def uR(L:List Nm):ByteArray→Option Int:=fun s=>(VF s.data.toList L).bind fun j=>(L[j]?).map (·.id)
def WO(L:List Nm):Int→Option Bool:=fun i=>(VQ i L).map fun _=>true
/-- nobody twice -/
structure xS(L:List Nm):Prop where
 ids:(L.map (·.id)).Nodup
 ns:(L.map (·.n)).Nodup
theorem nT{L:List Nm}(h:(L.map (·.n)).Nodup){j:Nat}{e:Nm}(he:L[j]?=some e):VF e.n L=some j:=by
 cases hx:VF e.n L with
 | none=>exact absurd rfl (Va hx e (List.mem_of_getElem? he))
 | some k=>
  obtain⟨e',h1,h2⟩:=xD hx;have h3:(L.map (·.n))[k]?=some e.n:=by rw[List.getElem?_map,h1,Option.map_some,h2]
  have h4:(L.map (·.n))[j]?=some e.n:=by rw[List.getElem?_map,he,Option.map_some]
  rw[(List.getElem?_inj (List.getElem?_eq_some_iff.1 h3).1 h).1 (h3.trans h4.symm)]
theorem QS{L:List Nm}(h:(L.map (·.id)).Nodup){j:Nat}{e:Nm}(he:L[j]?=some e):VQ e.id L=some j:=by
 cases hx:VQ e.id L with
 | none=>exact absurd rfl (X6 hx e (List.mem_of_getElem? he))
 | some k=>
  obtain⟨e',h1,h2⟩:=Ue hx;have h3:(L.map (·.id))[k]?=some e.id:=by rw[List.getElem?_map,h1,Option.map_some,h2]
  have h4:(L.map (·.id))[j]?=some e.id:=by rw[List.getElem?_map,he,Option.map_some]
  rw[(List.getElem?_inj (List.getElem?_eq_some_iff.1 h3).1 h).1 (h3.trans h4.symm)]
/-- the maps by their elements alone -/
theorem Vn{L:List Nm}(h:xS L){s:ByteArray}{i:Int}:uR L s=some i↔∃e∈L,e.n=s.data.toList∧e.id=i:=by
 unfold uR;constructor
 ·intro hx;cases hn:VF s.data.toList L with
  | none=>rw[hn] at hx; cases hx
  | some j=>
   obtain⟨e,h1,h2⟩:=xD hn;rw[hn] at hx;simp only[Option.bind_some,h1,Option.map_some] at hx;exact⟨e,List.mem_of_getElem? h1,h2,Option.some.inj hx⟩
 ·rintro⟨e,he,h1,rfl⟩;obtain⟨j,hj⟩:=List.mem_iff_getElem?.1 he;rw[←h1,nT h.ns hj];simp[hj]
theorem Wy{L:List Nm}{i:Int}{b:Bool}:WO L i=some b↔b=true∧∃e∈L,e.id=i:=by
 unfold WO;cases hn:VQ i L with
 | none=>
  have:=X6 hn;constructor
  ·intro h; cases h
  ·rintro⟨_,e,he,h⟩; exact absurd h (this e he)
 | some j=>
  obtain⟨e,h1,h2⟩:=Ue hn;constructor
  ·intro h; exact⟨(Option.some.inj h).symm,e,List.mem_of_getElem? h1,h2⟩
  ·rintro⟨rfl,_⟩; rfl
theorem Ug{κ ν:Type}{f g:κ→Option ν}(h:∀k v,f k=some v↔g k=some v):f=g:=by
 funext k;cases hf:f k with
 | some v=>exact((h k v).1 hf).symm
 | none=>
  cases hg:g k with
  | none=>rfl
  | some v=>rw[(h k v).2 hg] at hf; cases hf
theorem Y4(s:ByteArray)(n:Bs):s=⟨n.toArray⟩↔s.data.toList=n:=by
 constructor
 ·rintro rfl; rfl
 ·rintro rfl; rfl
theorem xS.add{L:List Nm}(h:xS L){e:Nm}(hi:∀x∈L,x.id≠e.id)(hn:∀x∈L,x.n≠e.n):xS (L++[e]):=by
 constructor
 ·rw[List.map_append];refine List.nodup_append.2 ⟨h.ids,by simp,fun a ha b hb=>?_⟩;obtain⟨x,hx,rfl⟩:=List.mem_map.1 ha;simp at hb; rw[hb]; exact hi x hx
 ·rw[List.map_append];refine List.nodup_append.2 ⟨h.ns,by simp,fun a ha b hb=>?_⟩;obtain⟨x,hx,rfl⟩:=List.mem_map.1 ha;simp at hb; rw[hb]; exact hn x hx
theorem iF{L:List Nm}(h:xS L){e:Nm}(hi:∀x∈L,x.id≠e.id)(hn:∀x∈L,x.n≠e.n):uR (L++[e])=wT (uR L) (⟨e.n.toArray⟩:ByteArray) (some e.id):=by
 refine Ug fun s i=>?_
 rw[Vn (h.add hi hn)];unfold wT;by_cases hs:s=⟨e.n.toArray⟩
 ·rw[if_pos hs];have hs2:=(Y4 s e.n).1 hs;constructor
  ·rintro⟨x,hx,h1,rfl⟩;rcases List.mem_append.1 hx with hx | hx
   ·exact absurd (h1.trans hs2) (hn x hx)
   ·rw[List.mem_singleton.1 hx]
  ·intro h1;exact⟨e,by simp,hs2.symm,Option.some.inj h1⟩
 ·rw[if_neg hs,Vn h];constructor
  ·rintro⟨x,hx,h1,rfl⟩;rcases List.mem_append.1 hx with hx | hx
   ·exact⟨x,hx,h1,rfl⟩
   ·rw[List.mem_singleton.1 hx] at h1; exact absurd ((Y4 s e.n).2 h1.symm) hs
  ·rintro⟨x,hx,h1,rfl⟩;exact⟨x,List.mem_append.2 (.inl hx),h1,rfl⟩
theorem cZ{L:List Nm}{e:Nm}:WO (L++[e])=wT (WO L) e.id (some true):=by
 refine Ug fun i b=>?_
 rw[Wy];unfold wT;by_cases hs:i=e.id
 ·rw[if_pos hs];constructor
  ·rintro⟨rfl,_⟩; rfl
  ·intro h1; exact⟨(Option.some.inj h1).symm,e,by simp,hs.symm⟩
 ·rw[if_neg hs,Wy];constructor
  ·rintro⟨rfl,x,hx,h1⟩;rcases List.mem_append.1 hx with hx | hx
   ·exact⟨rfl,x,hx,h1⟩
   ·rw[List.mem_singleton.1 hx] at h1; exact absurd h1.symm hs
  ·rintro⟨rfl,x,hx,h1⟩;exact⟨rfl,x,List.mem_append.2 (.inl hx),h1⟩
/-- a name is used so often -/
def reuse(L:List Nm)(j:Nat)(e:Nm)(u:Nat):List Nm:=L.set j ⟨e.id,e.n,u⟩
theorem bA{L:List Nm}{j:Nat}{e:Nm}{u:Nat}(he:L[j]?=some e):(reuse L j e u).map (·.id)=L.map (·.id):=by
 refine List.ext_getElem? fun i=>?_
 unfold reuse;rw[List.getElem?_map,List.getElem?_map,List.getElem?_set];split
 ·next h=>subst h; rw[if_pos (List.getElem?_eq_some_iff.1 he).1,he]; rfl
 ·rfl
theorem fI{L:List Nm}{j:Nat}{e:Nm}{u:Nat}(he:L[j]?=some e):(reuse L j e u).map (·.n)=L.map (·.n):=by
 refine List.ext_getElem? fun i=>?_
 unfold reuse;rw[List.getElem?_map,List.getElem?_map,List.getElem?_set];split
 ·next h=>subst h; rw[if_pos (List.getElem?_eq_some_iff.1 he).1,he]; rfl
 ·rfl
theorem VT{L:List Nm}{j:Nat}{e x:Nm}{u:Nat}(he:L[j]?=some e)(hx:x∈reuse L j e u):∃y∈L,y.id=x.id∧y.n=x.n:=by
 unfold reuse at hx;rcases List.mem_or_eq_of_mem_set hx with hx | rfl
 ·exact⟨x,hx,rfl,rfl⟩
 ·exact⟨e,List.mem_of_getElem? he,rfl,rfl⟩
theorem WR{L:List Nm}{j:Nat}{e y:Nm}{u:Nat}(he:L[j]?=some e)(hy:y∈L):∃x∈reuse L j e u,x.id=y.id∧x.n=y.n:=by
 obtain⟨i,hi⟩:=List.mem_iff_getElem?.1 hy;by_cases hij:j=i
 ·subst hij;rw[he] at hi;obtain rfl:=Option.some.inj hi;exact⟨⟨e.id,e.n,u⟩,List.mem_of_getElem? (i:=j) (by unfold reuse; rw[List.getElem?_set_self (List.getElem?_eq_some_iff.1 he).1]),rfl,rfl⟩
 ·exact⟨y,List.mem_of_getElem? (i:=i) (by unfold reuse; rw[List.getElem?_set_ne hij]; exact hi),rfl,rfl⟩
theorem xS.reuse{L:List Nm}(h:xS L){j:Nat}{e:Nm}{u:Nat}(he:L[j]?=some e):xS (reuse L j e u):=⟨by rw[bA he]; exact h.ids,by rw[fI he]; exact h.ns⟩
theorem qy{L:List Nm}(h:xS L){j:Nat}{e:Nm}{u:Nat}(he:L[j]?=some e):uR (reuse L j e u)=uR L:=by
 refine Ug fun s i=>?_
 rw[Vn (h.reuse he),Vn h];constructor
 ·rintro⟨x,hx,h1,h2⟩;obtain⟨y,hy,h3,h4⟩:=VT he hx;exact⟨y,hy,h4.trans h1,h3.trans h2⟩
 ·rintro⟨y,hy,h1,h2⟩;obtain⟨x,hx,h3,h4⟩:=WR (u:=u) he hy;exact⟨x,hx,h4.trans h1,h3.trans h2⟩
theorem Ju{L:List Nm}{j:Nat}{e:Nm}{u:Nat}(he:L[j]?=some e):WO (reuse L j e u)=WO L:=by
 refine Ug fun i b=>?_
 rw[Wy,Wy];constructor
 ·rintro⟨h0,x,hx,h2⟩;obtain⟨y,hy,h3,h4⟩:=VT he hx;exact⟨h0,y,hy,h3.trans h2⟩
 ·rintro⟨h0,y,hy,h2⟩;obtain⟨x,hx,h3,h4⟩:=WR (u:=u) he hy;exact⟨h0,x,hx,h3.trans h2⟩
theorem Wx{L:List Nm}(h:xS L){j:Nat}{e x:Nm}(he:L[j]?=some e)(hx:x∈L.eraseIdx j):x∈L∧x.id≠e.id∧x.n≠e.n:=by
 obtain⟨i,hi⟩:=List.mem_iff_getElem?.1 hx;rw[List.getElem?_eraseIdx] at hi;have key:∀k,L[k]?=some x→k≠j→x∈L∧x.id≠e.id∧x.n≠e.n:=fun k hk hne=>by
  refine⟨List.mem_of_getElem? hk,fun h1=>hne ?_,fun h1=>hne ?_⟩
  ·have h3:(L.map (·.id))[k]?=some e.id:=by rw[List.getElem?_map,hk,Option.map_some,h1]
   have h4:(L.map (·.id))[j]?=some e.id:=by rw[List.getElem?_map,he,Option.map_some]
   exact(List.getElem?_inj (List.getElem?_eq_some_iff.1 h3).1 h.ids).1 (h3.trans h4.symm)
  ·have h3:(L.map (·.n))[k]?=some e.n:=by rw[List.getElem?_map,hk,Option.map_some,h1]
   have h4:(L.map (·.n))[j]?=some e.n:=by rw[List.getElem?_map,he,Option.map_some]
   exact(List.getElem?_inj (List.getElem?_eq_some_iff.1 h3).1 h.ns).1 (h3.trans h4.symm)
 split at hi
 ·exact key i hi (by omega)
 ·exact key (i+1) hi (by omega)
theorem mem_erase{L:List Nm}{j:Nat}{e x:Nm}(he:L[j]?=some e)(hx:x∈L)(hne:x.id≠e.id∨x.n≠e.n):x∈L.eraseIdx j:=by
 obtain⟨i,hi⟩:=List.mem_iff_getElem?.1 hx;have hij:i≠j:=fun e2=>by rw[e2,he] at hi; obtain rfl:=Option.some.inj hi; simp at hne
 refine List.mem_of_getElem? (i:=if i<j then i else i-1) ?_;rw[List.getElem?_eraseIdx];by_cases h7:i<j
 ·rw[if_pos h7,if_pos h7]; exact hi
 ·rw[if_neg h7,if_neg (by omega),show i-1+1=i from by omega]; exact hi
theorem xS.erase{L:List Nm}(h:xS L)(j:Nat):xS (L.eraseIdx j):=⟨((List.eraseIdx_sublist L j).map _).nodup h.ids,((List.eraseIdx_sublist L j).map _).nodup h.ns⟩
theorem qz{L:List Nm}(h:xS L){j:Nat}{e:Nm}(he:L[j]?=some e):uR (L.eraseIdx j)=wT (uR L) (⟨e.n.toArray⟩:ByteArray) none:=by
 refine Ug fun s i=>?_
 rw[Vn (h.erase j)];unfold wT;by_cases hs:s=⟨e.n.toArray⟩
 ·rw[if_pos hs];have hs2:=(Y4 s e.n).1 hs;constructor
  ·rintro⟨x,hx,h1,_⟩;exact absurd (h1.trans hs2) (Wx h he hx).2.2
  ·intro h1; cases h1
 ·rw[if_neg hs,Vn h];constructor
  ·rintro⟨x,hx,h1,h2⟩;exact⟨x,(Wx h he hx).1,h1,h2⟩
  ·rintro⟨x,hx,h1,h2⟩;exact⟨x,mem_erase he hx (.inr fun h3=>hs ((Y4 s e.n).2 (h1.symm.trans h3))),h1,h2⟩
theorem Jv{L:List Nm}(h:xS L){j:Nat}{e:Nm}(he:L[j]?=some e):WO (L.eraseIdx j)=wT (WO L) e.id none:=by
 refine Ug fun i b=>?_
 rw[Wy];unfold wT;by_cases hs:i=e.id
 ·rw[if_pos hs];constructor
  ·rintro⟨_,x,hx,h1⟩;exact absurd (h1.trans hs) (Wx h he hx).2.1
  ·intro h1; cases h1
 ·rw[if_neg hs,Wy];constructor
  ·rintro⟨h0,x,hx,h1⟩;exact⟨h0,x,(Wx h he hx).1,h1⟩
  ·rintro⟨h0,x,hx,h1⟩;exact⟨h0,x,mem_erase he hx (.inl fun h3=>hs (h1.symm.trans h3)),h1⟩
/-- how often, in eight bytes -/
def Vl(n:Nat):Bs:=(List.range 8).map fun i=>UInt8.ofNat (n/2 ^ (8*i))
theorem ZF(n:Nat):(Vl n).length=8:=by simp[Vl]
theorem QU(n i:Nat)(h:i<8):(Vl n)[i]?=some (UInt8.ofNat (n/2 ^ (8*i))):=by
 unfold Vl;rw[List.getElem?_map,List.getElem?_range h]; rfl
end Go.Proofs.YtekgciopamkjlaaGreat
