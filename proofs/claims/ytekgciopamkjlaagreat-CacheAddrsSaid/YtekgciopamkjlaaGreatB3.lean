/- Functions over slices, once for every type of their elements. Arguments that are read beside what is one's own. Bytes: a slice of bytes as a string, a string as bytes; copying onto nothing. What the document's answers do with slices: parts of a slice that may be nil; one cell of an element stored; what is read beside what grows. Maps: what a map has by key. From a contract to a law's statement: the world at the call, whole, is what the contract leaves alone. A law's arguments as lists, and that they read as they did. -/
import Derived.Test.YtekgciopamkjlaaGreatB2
import Derived.MapKept
import Derived.ChangeSame
import Derived.RowKit3
import Derived.ChangeStays
import Derived.RowKit
import Derived.OpenShut
namespace Go.Xs
open Enc (enc)
variable {P:Program} {α:Type} [Enc α] {S:zB}
theorem y8:∀(c l:List Value) (off:Nat),(Zr l off c).length=l.length
 | [],_,_=>rfl
 | x::c,l,off=>by rw[Zr,y8 c]; simp
/-- slices.Delete -/
def Qi(ty k bytes:Nat)(z:List Value):zA:=
 .seq (.region [⟨some 6,.mov (.const (.slice none 0 0)),none⟩]) (
 .seq (.region [⟨some 8,.mov (.tmp 0),none⟩,
  ⟨some 9,.mov (.tmp 1),none⟩,
  ⟨some 10,.mov (.tmp 2),none⟩,
  ⟨some 11,.mov (.tmp 0),none⟩,
  ⟨some 12,.len (.tmp 11),none⟩,
  ⟨some 13,.slc k (.tmp 8) (some (.tmp 9)) (some (.tmp 10)) (some (.tmp 12)),none⟩]) (
 .seq (.seq (.region [⟨some 14,.mov (.tmp 1),none⟩,
  ⟨some 15,.mov (.tmp 2),none⟩,
  ⟨some 16,.bin .eql (.tmp 14) (.tmp 15),none⟩]) (
  .cond (.tmp 16) (
   .seq (.region [⟨some 17,.mov (.tmp 0),none⟩,
    ⟨some 6,.mov (.tmp 17),none⟩]) (
   .ret)) (
   .skip))) (
 .seq (.region [⟨some 18,.mov (.tmp 0),none⟩,
  ⟨some 19,.len (.tmp 18),none⟩,
  ⟨some 7,.mov (.tmp 19),none⟩]) (
 .seq (.draw (
  .q ⟨some 20,.mov (.tmp 0),none⟩ (
  .q ⟨some 21,.mov (.tmp 1),none⟩ (
  .q ⟨some 22,.slc k (.tmp 20) none (some (.tmp 21)) none,none⟩ (
  .q ⟨some 23,.mov (.tmp 0),none⟩ (
  .q ⟨some 24,.mov (.tmp 2),none⟩ (
  .q ⟨some 25,.slc k (.tmp 23) (some (.tmp 24)) none none,none⟩ (
  .alt ⟨some 26,.app ty k bytes z (.tmp 22) (.tmp 25),none⟩ false (
   .q ⟨some 0,.mov (.tmp 26),none⟩ (
   .done)) (.noalt))))))))) (
 .seq (.region [⟨some 27,.mov (.tmp 0),none⟩,
  ⟨some 28,.mov (.tmp 0),none⟩,
  ⟨some 29,.len (.tmp 28),none⟩,
  ⟨some 30,.mov (.tmp 7),none⟩,
  ⟨some 31,.slc k (.tmp 27) (some (.tmp 29)) (some (.tmp 30)) none,none⟩,
  ⟨none,.clr z (.tmp 31),none⟩]) (
 .seq (.region [⟨some 32,.mov (.tmp 0),none⟩,
  ⟨some 6,.mov (.tmp 32),none⟩]) (
 .ret)))))))
/-- one element is taken out -/
theorem yQ{f ty k bytes:Nat}{z:List Value}(hf:Z6 P f 33 #[.tmp 6] (Qi ty k bytes z))(hk:Enc.k α=k)(z0:α)(hz:enc z0=z)
 {v:Value} {L:List α} {H:List Chunk} (hL:Zf ty v L H) (hlen:L.length<2 ^ 40) {i j:Nat} (hi:i<L.length) (hj:j=i+1):
 Tri P f #[v,.int .i64 (i:Int),.int .i64 (j:Int)] [H] (fun r S=>∃H',Zf ty r (L.eraseIdx i) H'∧S=[H']):=by
 subst hj;refine zn hf (Nat.le_of_ble_eq_true rfl) ?_;unfold Qi;obtain⟨a,c,rfl⟩:=hL.isSlice;obtain⟨b,sp,fz,hfz,rfl,_,rfl,rfl⟩:=hL.at' (by intro h; simp[h] at hi);refine ze (z8 (yp pC (zf (za (ze (z8 (yp (pS rfl) (yp (pI rfl) (yp (pI rfl) (yp (pS rfl) (yp (Zz rfl) (yp (EI rfl rfl rfl rfl (by omega)) (zf (za (ze (ze (z8 (yp (pI rfl) (yp (pI rfl) (yp (WB rfl rfl) (zf (za ?_))))))))))))))))))))));refine zO rfl (fun h=>absurd h (by omega)) (fun h=>?_);refine zq (za (ze (z8 (yp (pS rfl) (yp (Zz rfl) (yp (pI rfl) (zf (za (ze (zY (zi (pS rfl) (zi (pI rfl) (zi (QB rfl rfl (by omega)) (zi (pS rfl) (zi (pI rfl) (zi (XC rfl rfl (by omega)) ?_))))))))))))))));have hsz:(cells (L++sp)).toArray.size=(L.length+sp.length)*Enc.k α:=by rw[List.size_toArray,zJ,List.length_append]
 have hfz':uQ fz (cells (L++sp)).toArray.size:=by rw[List.size_toArray]; exact hfz
 refine zH (mZ (Y:=L.drop (i+1)) rfl rfl (Src.tail (by repeat (first | exact List.mem_cons_self | apply List.mem_cons_of_mem)) hk (by omega)) hk (by simp; omega) ?_ hfz' ?_) zM
 ·rw[hsz]; exact Nat.mul_le_mul_right _ (by simp; omega)
 refine zi (pS rfl) (zD (za (ze (z8 (yp (pS rfl) (yp (pS rfl) (yp (Zz rfl) (yp (pI rfl) ?_))))))));refine yp (gJ rfl rfl rfl ?_) ?_
 ·simp; omega
 have hn:i+(L.drop (i+1)).length=L.length-1:=by simp; omega
 rw[hn,if_neg (by omega),Nat.zero_add,show L.length-(L.length-1)=1 from by omega];have hsz2:(Zr (cells (L++sp)).toArray.toList (i*Enc.k α) (cells (L.drop (i+1)))).toArray.size=(L.length+sp.length)*Enc.k α:=by
  rw[List.size_toArray];rw[y8]; exact hsz
 refine zh (Af rfl z0 hz ?_ ?_ ?_)
 ·rw[hsz2, ←hk, ←Nat.add_mul]; exact Nat.mul_le_mul_right _ (by omega)
 ·rw[hsz2]; rw[hsz] at hfz'; exact hfz'
 refine zf (za (ze (z8 (yp (pS rfl) (yp (pS rfl) (zf (za (zL ?_))))))));refine zK (rS rfl) ⟨_,?_,rfl⟩;have e:Zr (Zr (cells (L++sp)).toArray.toList (i*Enc.k α) (cells (L.drop (i+1)))).toArray.toList ((L.length-1)*k) (cells (List.replicate 1 z0))=cells (L.eraseIdx i++z0::sp):=by
  rw[←hk];exact bN z0 hi
 rw[e];have hl2:(L.eraseIdx i).length=L.length-1:=by rw[List.length_eraseIdx,if_pos hi]
 have:=Zf.row (ty:=ty) (b:=b) (L:=L.eraseIdx i) (sp:=z0::sp) (fz:=fz) (by
  rw[hsz] at hfz';rw[zJ];simpa[hl2,show L.length-1+(sp.length+1)=L.length+sp.length from by omega] using hfz')
 simpa[hl2,show L.length-1+(sp.length+1)=L.length+sp.length from by omega] using this
theorem JL{M:List α}{i:Nat}(y:α)(hi:i<M.length):Zr (cells M) (i*Enc.k α) (enc y)=cells (M.set i y):=by
 have:=Wh M i [y] (by simp; omega);rw[show cells [y]=enc y from by simp[cells]] at this;rw[this,List.set_eq_take_append_cons_drop,if_pos hi];simp
/-- an element of a row is stored -/
theorem Z7{r:Option Nat}{n:Nat}{K:Env→zB→Prop}{E:Env}{d:Option Tmp}{b i kk ty:Nat}{a v:Operand}{M:List α}{y:α}{fz:Nat × Nat}{f:Obj→zB}[hA:At S b (.cells (cells M).toArray ty fz) f]
 (ha:ev E a= .pointer (some ⟨b,0+i*kk,none⟩)) (hi:i<M.length) (hk:Enc.k α=kk) (hv:(ev E v).cells.toList=enc y) (hz:uQ fz (cells M).length)
 (h:K (Zk d undef E) (f (.cells (cells (M.set i y)).toArray ty fz))):YO P r n d (.store kk a v) K E S:=by
 subst hk;have hb:0+i*Enc.k α+Enc.k α≤(cells M).length:=by
  rw[zJ,Nat.zero_add, ←Nat.succ_mul]; exact Nat.mul_le_mul_right _ hi
 refine WI ha hv (Enc.len y) (Enc.plain y) (by simpa using hb) (hz.imp (fun h=>by omega) (fun h=>by omega)) ?_;have e:Zr (cells M).toArray.toList (0+i*Enc.k α) (enc y)=cells (M.set i y):=by rw[Nat.zero_add]; exact JL y hi
 rw[e]; exact h
theorem ZE{L sp:List α}{i kk:Nat}{x:α}(h:L[i]?=some x)(hk:Enc.k α=kk):((cells (L++sp)).toArray.toList.drop (0+i*kk)).take kk=enc x:=by
 obtain⟨hi,rfl⟩:=List.getElem?_eq_some_iff.1 h;exact vJ hi hk
theorem K9{β:Type}(A:List β):A=[]∨∃A' y,A=A'++[y]:=by
 by_cases h:A=[]
 ·exact .inl h
 ·exact .inr ⟨A.dropLast,A.getLast h,(List.dropLast_concat_getLast h).symm⟩
theorem eU{β:Type}(X Z:List β)(x y:β):((X++y::x::Z).set (X.length+1) y).set X.length x=X++x::y::Z:=by
 rw[List.set_append_right _ _ (by omega),List.set_append_right _ _ (by omega)];simp
def keyed(key:α→Int)(k:Int)(L:List α):List α:=L.filter (fun e=>key e==k)
/-- R is L, put in order, those of one key as they stood -/
def SS(key:α→Int)(L R:List α):Prop:=R.Pairwise (fun a b=>key a≤key b)∧∀k,keyed key k R=keyed key k L
def Aj(k:Nat):zA:=
 .seq (.region [⟨some 10,.mov (.tmp 1),none⟩,
  ⟨some 11,.bin .add (.tmp 10) (.const (.int .i64 1)),none⟩,
  ⟨some 8,.mov (.tmp 11),none⟩]) (
 .block 0 (
  .loop (
   .seq (.seq (.region [⟨some 12,.mov (.tmp 8),none⟩,
    ⟨some 13,.mov (.tmp 2),none⟩,
    ⟨some 14,.bin .lss (.tmp 12) (.tmp 13),none⟩]) (
    .cond (.tmp 14) (
     .skip) (
     .exit 0))) (
   .seq (.block 1 (
    .seq (.region [⟨some 17,.mov (.tmp 8),none⟩,
     ⟨some 9,.mov (.tmp 17),none⟩]) (
    .block 2 (
     .loop (
      .seq (.seq (.draw (
       .q ⟨some 18,.mov (.tmp 9),none⟩ (
       .q ⟨some 19,.mov (.tmp 1),none⟩ (
       .q ⟨some 20,.bin .gtr (.tmp 18) (.tmp 19),none⟩ (
       .q ⟨some 21,.mov (.tmp 20),none⟩ (
       .q ⟨some 22,.mov (.tmp 3),some (21,true)⟩ (
       .q ⟨some 23,.mov (.tmp 0),some (21,true)⟩ (
       .q ⟨some 24,.mov (.tmp 9),some (21,true)⟩ (
       .q ⟨some 25,.iadr (.tmp 23) (.tmp 24) k,some (21,true)⟩ (
       .q ⟨some 26,.loadN k (.tmp 25),some (21,true)⟩ (
       .q ⟨some 27,.mov (.tmp 0),some (21,true)⟩ (
       .q ⟨some 28,.mov (.tmp 9),some (21,true)⟩ (
       .q ⟨some 29,.bin .sub (.tmp 28) (.const (.int .i64 1)),some (21,true)⟩ (
       .q ⟨some 30,.iadr (.tmp 27) (.tmp 29) k,some (21,true)⟩ (
       .q ⟨some 31,.loadN k (.tmp 30),some (21,true)⟩ (
       .alt ⟨some 32,.call (.tmp 22) [(.tmp 26),(.tmp 31)],some (21,true)⟩ false (
        .q ⟨some 33,.bin .lss (.tmp 32) (.const (.int .i64 0)),some (21,true)⟩ (
        .q ⟨some 34,.pick (.tmp 21) (.tmp 33) (.const (.bool false)),none⟩ (
        .done))) (.noalt))))))))))))))))) (
       .cond (.tmp 34) (
        .skip) (
        .exit 2))) (
      .seq (.block 3 (
       .draw (
        .q ⟨some 37,.mov (.tmp 0),none⟩ (
        .q ⟨some 38,.mov (.tmp 9),none⟩ (
        .q ⟨some 39,.mov (.tmp 0),none⟩ (
        .q ⟨some 40,.mov (.tmp 9),none⟩ (
        .q ⟨some 41,.bin .sub (.tmp 40) (.const (.int .i64 1)),none⟩ (
        .q ⟨some 42,.mov (.tmp 0),none⟩ (
        .q ⟨some 43,.mov (.tmp 9),none⟩ (
        .q ⟨some 44,.bin .sub (.tmp 43) (.const (.int .i64 1)),none⟩ (
        .q ⟨some 45,.iadr (.tmp 42) (.tmp 44) k,none⟩ (
        .q ⟨some 46,.loadN k (.tmp 45),none⟩ (
        .q ⟨some 47,.mov (.tmp 0),none⟩ (
        .q ⟨some 48,.mov (.tmp 9),none⟩ (
        .q ⟨some 49,.iadr (.tmp 47) (.tmp 48) k,none⟩ (
        .q ⟨some 50,.loadN k (.tmp 49),none⟩ (
        .q ⟨some 51,.iadr (.tmp 37) (.tmp 38) k,none⟩ (
        .alt ⟨none,.store k (.tmp 51) (.tmp 46),none⟩ false (
         .q ⟨some 52,.iadr (.tmp 39) (.tmp 41) k,none⟩ (
         .alt ⟨none,.store k (.tmp 52) (.tmp 50),none⟩ false (
          .done) (.noalt))) (.noalt))))))))))))))))))) (
      .region [⟨some 35,.mov (.tmp 9),none⟩,
       ⟨some 36,.bin .sub (.tmp 35) (.const (.int .i64 1)),none⟩,
       ⟨some 9,.mov (.tmp 36),none⟩]))))))) (
   .region [⟨some 15,.mov (.tmp 8),none⟩,
    ⟨some 16,.bin .add (.tmp 15) (.const (.int .i64 1)),none⟩,
    ⟨some 8,.mov (.tmp 16),none⟩])))))
theorem SS.insert{β:Type}{key:β→Int}{D A B:List β}{x:β}(h:SS key D (A++B))(hA:∀a,A.getLast?=some a→key a≤key x)(hB:∀b∈B,key x<key b):SS key (D++[x]) (A++x::B):=by
 obtain⟨hp,hk⟩:=h;have hA':∀a∈A,key a≤key x:=by
  intro a ha;rcases K9 A with rfl | ⟨A',y,rfl⟩
  ·cases ha
  ·have hy:=hA y (by simp);simp only[List.mem_append,List.mem_singleton] at ha;rcases ha with ha | rfl
   ·have:=(List.pairwise_append.1 (List.pairwise_append.1 hp).1).2.2 a ha y (by simp);omega
   ·exact hy
 obtain⟨p1,p2,p3⟩:=List.pairwise_append.1 hp;refine⟨List.pairwise_append.2 ⟨p1,List.pairwise_cons.2 ⟨fun b hb=>by have:=hB b hb; omega,p2⟩,fun a ha b hb=>?_⟩,fun k=>?_⟩
 ·simp only[List.mem_cons] at hb;rcases hb with rfl | hb
  ·exact hA' a ha
  ·exact p3 a ha b hb
 ·have:=hk k;simp only[keyed,List.filter_append,List.filter_cons,List.filter_nil] at this ⊢;by_cases hx:(key x==k)=true
  ·rw[if_pos hx];have hBn:B.filter (fun e=>key e==k)=[]:=by
    rw[List.filter_eq_nil_iff];intro b hb;have h1:=hB b hb;have h2:key x=k:=by simpa using hx
    have h3:¬key b=k:=by omega
    simpa using h3
   rw[hBn,List.append_nil] at this;rw[hBn,this,if_pos hx]
  ·rw[if_neg hx,if_neg hx];simpa using this
theorem jZ{f k ty:Nat}(hf:Z6 P f 53 #[] (Aj k))(hk:Enc.k α=k)(key:α→Int){cf:Nat}
 (hc:∀a b:α,Tri P cf #[.agg (enc a).toArray,.agg (enc b).toArray] [] (fun r S=>(∃z,r= .int .i64 z∧(z<0↔key a<key b))∧S=[]))
 {v:Value} {pre seg rest:List α} {H:List Chunk} (hL:Zf ty v (pre++seg++rest) H) (hlen:(pre++seg++rest).length<2 ^ 40) {a b:Nat} (ha:a=pre.length) (hb:b=pre.length+seg.length):
 Tri P f #[v,.int .i64 (a:Int),.int .i64 (b:Int),.func (.func cf) #[] #[]] [H] (fun r S=>r= .tuple #[]∧∃seg' H',SS key seg seg'∧seg'.length=seg.length∧Zf ty v (pre++seg'++rest) H'∧S=[H']):=by
 refine Tri.forget (zn hf (Nat.le_of_ble_eq_true rfl) ?_);unfold Aj;have hn:(pre++seg++rest).length=pre.length+seg.length+rest.length:=by simp; omega
 generalize hN:(pre++seg++rest).length=N at*
 obtain⟨a0,c0,hv⟩:=hL.isSlice;rw[hN] at hv;subst hv;refine ze (z8 (yp (pI rfl) (yp (Za rfl rfl (by omega)) (yp (pI rfl) (zf (za (zo ?_)))))));refine Z4 (σ:=Nat) (fun i E S=>Has E [(0,.slice a0 N c0),(1,.int .i64 a),(2,.int .i64 b),(3,.func (.func cf) #[] #[]),(8,.int .i64 i)]∧a+1≤i∧∃D H',SS key (seg.take (i-a)) D∧D.length=(seg.take (i-a)).length∧Zf ty (.slice a0 N c0) (pre++(D++seg.drop (i-a))++rest) H'∧zG S [H']) (fun i=>b-i) (a+1) ⟨⟨rfl,rfl,rfl,rfl,rfl,trivial⟩,Nat.le_refl _,seg.take (a+1-a),H,⟨?_,fun _=>rfl⟩,rfl,by rw[List.take_append_drop]; exact hL,.self⟩ fun i E S ⟨hE,hi,D,H1,hS,hDl,hL1,hJ⟩=>?_
 ·rw[show a+1-a=1 from by omega];cases seg with
  | nil=>simp
  | cons x l=>simp
 obtain⟨E0,e0⟩:=zl hE; subst e0; clear hE;refine zm hJ (ze (ze (z8 (yp (pI rfl) (yp (pI rfl) (yp (ZL rfl rfl) (zf (za ?_))))))));refine zO rfl (fun h=>?_) (fun h=>?_)
 ·have hlt:i-a<seg.length:=by omega
  have hd:seg.drop (i-a)=seg[i-a]::seg.drop (i-a+1):=List.drop_eq_getElem_cons hlt;generalize seg[i-a]=x at hd;have htk:seg.take (i-a+1)=seg.take (i-a)++[x]:=by
   rw[List.take_add,hd]; rfl
  have hDl':D.length=i-a:=by rw[hDl,List.length_take,Nat.min_eq_left (by omega)]
  refine zq (za (ze (zo (ze (z8 (yp (pI rfl) (yp (pI rfl) (zf (za (zo ?_))))))))));refine Z4 (σ:=List α × List α) (fun s E S=>Has E [(0,.slice a0 N c0),(1,.int .i64 a),(2,.int .i64 b),(3,.func (.func cf) #[] #[]),(8,.int .i64 i),(9,.int .i64 (pre.length+s.1.length:Nat))]∧s.1++s.2=D∧(∀y∈s.2,key x<key y)∧∃H',Zf ty (.slice a0 N c0) (pre++((s.1++x::s.2)++seg.drop (i-a+1))++rest) H'∧zG S [H']) (fun s=>s.1.length) (D,[]) ⟨⟨rfl,rfl,rfl,rfl,rfl,?_,trivial⟩,by simp,by simp,H1,by rw[hd] at hL1; simpa using hL1,.self⟩ fun s E S ⟨hE,hAB,hB,H2,hL2,hJ2⟩=>?_
  ·show Value.int .i64 (i:Int)= .int .i64 (pre.length+D.length:Nat);rw[show pre.length+D.length=i from by omega]
  obtain⟨A,B⟩:=s;simp only at hAB hB hL2 hE;have hfin:(∀y,A.getLast?=some y→key y≤key x)→SS key (seg.take (i+1-a)) (A++x::B):=fun hA=>by
   rw[show i+1-a=i-a+1 from by omega,htk];rw[←hAB] at hS;exact hS.insert hA hB
  have hfl:(A++x::B).length=(seg.take (i+1-a)).length:=by
   have:A.length+B.length=i-a:=by rw[←hDl', ←hAB]; simp
   rw[List.length_take,Nat.min_eq_left (by omega)];simp; omega
  have hfs:seg.drop (i-a+1)=seg.drop (i+1-a):=by rw[show i+1-a=i-a+1 from by omega]
  rcases K9 A with rfl | ⟨A',y,rfl⟩
  ·obtain⟨E0,e0⟩:=zl hE; subst e0; clear hE;refine zm hJ2 (ze (ze (zY (zi (pI rfl) (zi (pI rfl) (zi (VE rfl rfl) (zi (pB rfl) ?_)))))));rw[show decide ((a:Int)<((pre.length+([]:List α).length:Nat):Int))=false from decide_eq_false (by simp; omega)];refine zR rfl (zR rfl (zR rfl (zR rfl (zR rfl (zR rfl (zR rfl (zR rfl (zR rfl (zR rfl ?_)))))))));refine ZY rfl ?_ zM;refine zR rfl (zi (zU rfl rfl) (zD (za (zw rfl (zV (zy (zy (zW (zT (za (z8 (yp (pI rfl) (yp (Za rfl rfl (by omega)) (yp (pI rfl) (zf (za ?_))))))))))))))));exact⟨i+1,⟨⟨rfl,rfl,rfl,rfl,rfl,trivial⟩,by omega,_,H2,hfin (by simp),hfl,by rw[←hfs]; exact hL2,.of⟩,by omega⟩
  ·simp only[List.length_append,List.length_cons,List.length_nil] at hE;have hl:A'.length+1+B.length=i-a:=by rw[←hDl', ←hAB]; simp; omega
   obtain⟨E0,e0⟩:=zl hE; subst e0; clear hE;refine zm hJ2 ?_;obtain⟨bb,sp,fz,hz,rfl,hN2,hc0,rfl⟩:=hL2.at' (by simp);refine ze (ze (zY (zi (pI rfl) (zi (pI rfl) (zi (VE rfl rfl) (zi (pB rfl) ?_))))));rw[show decide ((a:Int)<((pre.length+(A'.length+(0+1)):Nat):Int))=true from decide_eq_true (by omega)];refine zQ rfl (zi (pF rfl) (zQ rfl (zi (pS rfl) (zQ rfl (zi (pI rfl) (zQ rfl (zi (zN rfl rfl (by omega)) (zQ rfl ?_))))))));have hLq:pre++(A'++[y]++x::B++seg.drop (i-a+1))++rest=(pre++A')++y::x::(B++seg.drop (i-a+1)++rest):=by simp
   have hx1:(pre++(A'++[y]++x::B++seg.drop (i-a+1))++rest)[pre.length+(A'.length+(0+1))]?=some x:=by
    rw[hLq,show pre.length+(A'.length+(0+1))=(pre++A').length+1 from by simp<;>omega,List.getElem?_append_right (by omega)];simp
   have hy1:(pre++(A'++[y]++x::B++seg.drop (i-a+1))++rest)[pre.length+(A'.length+(0+1))-1]?=some y:=by
    rw[hLq,show pre.length+(A'.length+(0+1))-1=(pre++A').length from by simp<;>omega,List.getElem?_append_right (by omega)];simp
   refine VA (l:=enc x) rfl (ZE hx1 hk) (by rw[Enc.len,hk]) (zQ rfl (zi (pS rfl) (zQ rfl (zi (pI rfl) (zQ rfl (zi (Zq rfl rfl (by omega)) (zQ rfl (zi (zN rfl rfl (by omega)) (zQ rfl (VA (l:=enc y) rfl (ZE hy1 hk) (by rw[Enc.len,hk]) ?_))))))))));refine ZU rfl ?_ zM;refine zH (zk (hc x y) rfl rfl fun v S' h=>?_) zM;obtain⟨⟨z,rfl,hz2⟩,rfl⟩:=h;refine zQ rfl (zi (ZL rfl rfl) (zi (zP rfl rfl) (zD (za ?_))));refine zO rfl (fun h3=>?_) (fun h3=>?_)
   ·refine zq (za (ze (zo (zY (zi (pS rfl) (zi (pI rfl) (zi (pS rfl) (zi (pI rfl) (zi (Zq rfl rfl (by omega)) (zi (pS rfl) (zi (pI rfl) (zi (Zq rfl rfl (by omega)) (zi (zN rfl rfl (by omega)) (VA (l:=enc y) rfl (ZE hy1 hk) (by rw[Enc.len,hk]) (zi (pS rfl) (zi (pI rfl) (zi (zN rfl rfl (by omega)) (VA (l:=enc x) rfl (ZE hx1 hk) (by rw[Enc.len,hk]) (zi (zN rfl rfl (by omega)) ?_)))))))))))))))))));have hb1:pre.length+(A'.length+(0+1))<(pre++(A'++[y]++x::B++seg.drop (i-a+1))++rest++sp).length:=by simp<;>omega
    refine zH (Z7 (y:=y) rfl hb1 hk rfl hz ?_) zM;refine zi (zN rfl rfl (by omega)) ?_;refine zH (Z7 (y:=x) rfl (by rw[List.length_set]; omega) hk rfl (by rw[zJ,List.length_set, ←zJ]; exact hz) ?_) zM;refine zD (zT (za (z8 (yp (pI rfl) (yp (Zq rfl rfl (by omega)) (yp (pI rfl) (zf (za ?_))))))));have hsw:((pre++(A'++[y]++x::B++seg.drop (i-a+1))++rest++sp).set (pre.length+(A'.length+(0+1))) y).set (pre.length+(A'.length+(0+1))-1) x=(pre++((A'++x::y::B)++seg.drop (i-a+1))++rest)++sp:=by
     have:=eU (pre++A') (B++seg.drop (i-a+1)++rest++sp) x y;rw[show(pre++A').length=pre.length+A'.length from by simp] at this;rw[hLq];simp at this ⊢
     try exact this
    rw[hsw];refine⟨(A',y::B),⟨⟨rfl,rfl,rfl,rfl,rfl,rfl,trivial⟩,by simpa using hAB,?_,_,?_,.self⟩,by simp⟩
    ·intro b hb;simp only[List.mem_cons] at hb;rcases hb with rfl | hb
     ·exact hz2.1 h3
     ·exact hB b hb
    ·have hl3:(pre++((A'++x::y::B)++seg.drop (i-a+1))++rest).length=N:=by rw[hN2]; simp<;>omega
     have hl4:c0=(pre++((A'++x::y::B)++seg.drop (i-a+1))++rest).length+sp.length:=by rw[hl3,hc0,hN2]
     rw[hl4]
     conv=>arg 2; rw[←hl3]
     refine .row ?_;rw[zJ,List.length_append,hl3,hN2, ←List.length_append, ←zJ]; exact hz
   ·refine zV (zy (zy (zW (zT (za (z8 (yp (pI rfl) (yp (Za rfl rfl (by omega)) (yp (pI rfl) (zf (za ?_)))))))))));exact⟨i+1,⟨⟨rfl,rfl,rfl,rfl,rfl,trivial⟩,by omega,_,_,hfin (by
     intro w hw;simp at hw;subst hw;have:=mt hz2.2 h3;omega),hfl,by rw[←hfs]; exact hL2,.of⟩,by omega⟩
 ·refine zV (zy (zy (zW ?_)));have hd0:seg.drop (i-a)=[]:=List.drop_eq_nil_of_le (by omega);have ht0:seg.take (i-a)=seg:=List.take_of_length_le (by omega);rw[hd0,List.append_nil] at hL1;rw[ht0] at hS hDl;exact ZF ZG ⟨_,.of,rfl,_,_,hS,hDl,hL1,rfl⟩
/-! ### the order is one -/
theorem SS.unique{β:Type}{key:β→Int}:∀{R R' L:List β},SS key L R→SS key L R'→R=R'
 | [],R',L,h,h'=>by
  cases R' with
  | nil=>rfl
  | cons b R'=>
   have:=(h'.2 (key b)).trans (h.2 (key b)).symm;simp[keyed] at this
 | a::R,[],L,h,h'=>by
  have:=(h.2 (key a)).trans (h'.2 (key a)).symm;simp[keyed] at this
 | a::R,b::R',L,h,h'=>by
  have hk:∀k,keyed key k (a::R)=keyed key k (b::R'):=fun k=>(h.2 k).trans (h'.2 k).symm
  have ha:a∈keyed key (key a) (b::R'):=by rw[←hk]; simp[keyed]
  have hb:b∈keyed key (key b) (a::R):=by rw[hk]; simp[keyed]
  have hab:key b≤key a:=by
   have:a∈b::R':=(List.mem_filter.1 ha).1;rcases List.mem_cons.1 this with rfl | hm
   ·exact Int.le_refl _
   ·exact(List.pairwise_cons.1 h'.1).1 a hm
  have hba:key a≤key b:=by
   have:b∈a::R:=(List.mem_filter.1 hb).1;rcases List.mem_cons.1 this with rfl | hm
   ·exact Int.le_refl _
   ·exact(List.pairwise_cons.1 h.1).1 b hm
  have hkey:key a=key b:=by omega
  have h0:=hk (key a);have e1:keyed key (key a) (a::R)=a::keyed key (key a) R:=by simp[keyed]
  have e2:keyed key (key a) (b::R')=b::keyed key (key a) R':=by simp[keyed,hkey]
  rw[e1,e2] at h0;obtain⟨rfl,_⟩:=List.cons.inj h0;have ht:∀k,keyed key k R=keyed key k R':=by
   intro k;have:=hk k;simp only[keyed,List.filter_cons] at this ⊢;split at this
   ·exact(List.cons.inj this).2
   ·exact this
  rw[SS.unique (L:=R) (R:=R) (R':=R') ⟨(List.pairwise_cons.1 h.1).2,fun _=>rfl⟩ ⟨(List.pairwise_cons.1 h'.1).2,fun k=>(ht k).symm⟩]
/-- put in order: into those there are, behind those of the same key -/
def KG{β:Type}(key:β→Int)(x:β):List β→List β
 | []=>[x]
 | y::l=>if key y≤key x then y::KG key x l else x::y::l
def QU{β:Type}(key:β→Int)(L:List β):List β:=L.foldl (fun R x=>KG key x R) []
theorem yF{β:Type}{key:β→Int}{x:β}:∀{R:List β},R.Pairwise (fun a b=>key a≤key b)→∃A B,R=A++B∧KG key x R=A++x::B∧(∀a,A.getLast?=some a→key a≤key x)∧∀b∈B,key x<key b
 | [],_=>⟨[],[],rfl,rfl,by simp,by simp⟩
 | y::R,h=>by
  obtain⟨h1,h2⟩:=List.pairwise_cons.1 h;by_cases hy:key y≤key x
  ·obtain⟨A,B,e1,e2,h3,h4⟩:=yF (x:=x) h2;refine⟨y::A,B,by rw[e1]; rfl,by rw[KG,if_pos hy,e2]; rfl,?_,h4⟩;intro a ha;cases A with
   | nil=>simp at ha; subst ha; exact hy
   | cons z A=>exact h3 a (by simpa using ha)
  ·refine⟨[],y::R,rfl,by rw[KG,if_neg hy]; rfl,by simp,?_⟩;intro b hb;rcases List.mem_cons.1 hb with rfl | hb
   ·omega
   ·have:=h1 b hb; omega
theorem iH{β:Type}{key:β→Int}(L:List β):SS key L (QU key L):=by
 have:∀(L D R:List β),SS key D R→SS key (D++L) (L.foldl (fun R x=>KG key x R) R):=by
  intro L
  induction L with
  | nil=>intro D R h; simpa using h
  | cons x L ih=>
   intro D R h;obtain⟨A,B,e1,e2,h3,h4⟩:=yF (x:=x) h.1;rw[List.foldl_cons,e2];have:=ih (D++[x]) (A++x::B) ((e1▸h).insert h3 h4);simpa using this
 have:=this L [] [] ⟨.nil,fun _=>rfl⟩;rw[List.nil_append] at this;exact this
theorem SS.eq{β:Type}{key:β→Int}{L R:List β}(h:SS key L R):R=QU key L:=h.unique (iH L)
theorem SS.filter{β:Type}{key:β→Int}{L R:List β}(h:SS key L R)(t:Int):SS key (L.filter fun e=>decide (key e≤t)) (R.filter fun e=>decide (key e≤t)):=
 ⟨h.1.filter _,fun k=>by
  simp only[keyed,List.filter_filter];have h1:=congrArg (List.filter fun e=>decide (key e≤t)) (h.2 k);simp only[keyed,List.filter_filter] at h1;simpa[Bool.and_comm] using h1⟩
theorem SS.mem{β:Type}{key:β→Int}{L R:List β}(h:SS key L R)(x:β):x∈R↔x∈L:=by
 have h1:x∈keyed key (key x) R↔x∈R:=by simp[keyed]
 have h2:x∈keyed key (key x) L↔x∈L:=by simp[keyed]
 rw[←h1, ←h2,h.2]
theorem YN{β:Type}{key:β→Int}(x:β):∀R:List β,(KG key x R).Perm (x::R)
 | []=> .refl _
 | y::R=>by
  unfold KG;split
  ·exact((YN x R).cons y).trans (.swap x y R)
  ·exact .refl _
theorem qm{β:Type}{key:β→Int}(L:List β):(QU key L).Perm L:=by
 have:∀(L R:List β),(L.foldl (fun R x=>KG key x R) R).Perm (L++R):=by
  intro L
  induction L with
  | nil=>intro R; exact .refl _
  | cons x L ih=>
   intro R;rw[List.foldl_cons];refine(ih _).trans ?_;exact((YN x R).append_left L).trans List.perm_middle
 have:=this L []
 rwa [List.append_nil] at this
/-! ### what may be read -/
theorem At.Ku{S:zB}{b:Nat}{o:Obj}(h:[(b,o)]∈S):∃f,At S b o f:=by
 obtain⟨S1,S2,rfl⟩:=List.append_of_mem h;exact⟨fun o'=>S1++[(b,o')]::S2,⟨S1,S2,rfl,fun _=>rfl⟩⟩
theorem Src.isSlice{v:Value}{Y:List α}(h:Src S v Y):∃a c,v= .slice a Y.length c:=by
 cases h with
 | nil=>exact⟨_,_,rfl⟩
 | part=>exact⟨_,_,rfl⟩
theorem Src.get{a:Option Addr}{m cap:Nat}{Y:List α}(h:Src S (.slice a m cap) Y)(hne:Y≠[]):∃(b o:Nat) (c:Array Value) (ty:TypeId) (fz:Nat × Nat),a=some ⟨b,o,none⟩∧m=Y.length∧[(b,Obj.cells c ty fz)]∈S∧
 (∀(i j:Nat) (hi:i<Y.length),j<Enc.k α→c.toList[o+i*Enc.k α+j]?=(enc Y[i])[j]?)∧∀(i:Nat) (hi:i<Y.length),(c.toList.drop (o+i*Enc.k α)).take (Enc.k α)=enc Y[i]:=by
 generalize hv:Value.slice a m cap=v at h;cases h with
 | nil=>exact absurd rfl hne
 | @part b o cap' c ty fz Y hm hc=>
  simp only[Value.slice.injEq] at hv;refine⟨b,o,c,ty,fz,hv.1,hv.2.1,hm,fun i j hi hj=>?_,fun i hi=>?_⟩
  ·have hlt:i*Enc.k α+j<Y.length*Enc.k α:=by
    have:(i+1)*Enc.k α≤Y.length*Enc.k α:=Nat.mul_le_mul_right _ hi;rw[Nat.add_mul] at this; omega
   rw[←uf Y i j hi hj, ←hc,List.getElem?_take_of_lt hlt,List.getElem?_drop,Nat.add_assoc]
  ·have hle:(i+1)*Enc.k α≤Y.length*Enc.k α:=Nat.mul_le_mul_right _ hi;rw[Nat.add_mul,Nat.one_mul] at hle;rw[←Uz Y i hi, ←hc,List.drop_take,List.take_take,List.drop_drop];congr 1;omega
/-! unsigned halves; cutting code in two -/
section
theorem Xp{E:Env}{x:Operand}{j:Nat}(h:ev E x= .int .i64 (j:Int))(hj:j<9223372036854775808):zu (ev E) (.conv .u64 x)=some (.int .u64 (j:Int)):=by
 simp only[zu,h];rw[IntWalk.u64_in _ (by omega)]
theorem JY{E:Env}{x:Operand}{j:Nat}(h:ev E x= .int .u64 (j:Int))(hj:j<9223372036854775808):zu (ev E) (.conv .i64 x)=some (.int .i64 (j:Int)):=by
 simp only[zu,h];rw[IntWalk.i64_in _ (by omega)]
theorem QC{E:Env}{x:Operand}{j:Nat}(h:ev E x= .int .u64 (j:Int)):zu (ev E) (.bin .shr x (.const (.int .u64 1)))=some (.int .u64 ((j/2:Nat):Int)):=by
 have h2:(j:Int).fdiv 2=((j/2:Nat):Int):=by rw[Int.fdiv_eq_ediv_of_nonneg _ (by decide)]; omega
 rw[←h2];simp only[zu,h];rfl
theorem w9{r:Option Nat}{n:Nat}{x y:zA}{Q:Exit→Env→zB→Prop}{E:Env}{S:zB}(I:Env→zB→Prop)(h1:Y P r n x (VO I (fun _ _ _=>False)) E S)(h2:∀E S,I E S→Y P r n y Q E S):Y P r n (.seq x y) Q E S:=
 ze (h1.mono fun e E' S' h=>by
  cases e with
  | normal=>exact h2 _ _ h
  | _=>exact h.elim)
theorem UH{r:Option Nat}{n:Nat}{x y:zA}{Q:Exit→Env→zB→Prop}{E:Env}{S:zB}(I:Env→zB→Prop)(h1:Y P r n x (VO I Q) E S)(h2:∀E S,I E S→Y P r n y Q E S):Y P r n (.seq x y) Q E S:=
 ze (h1.mono fun e E' S' h=>by
  cases e with
  | normal=>exact h2 _ _ h
  | _=>exact h)
theorem Vh{E:Env}{x y:Operand}{j k:Nat}(h1:ev E x= .int .i64 (j:Int))(h2:ev E y= .int .i64 (k:Int))(h:j*k≤9223372036854775807):zu (ev E) (.bin .mul x y)=some (.int .i64 ((j*k:Nat):Int)):=by
 have e:((j*k:Nat):Int)=(j:Int)*(k:Int):=by simp
 rw[jR h1 h2 (by rw[←e]; omega),e]
theorem Vr{E:Env}{x y:Operand}{j k:Nat}(h1:ev E x= .int .i64 (j:Int))(h2:ev E y= .int .i64 (k:Int))(hk:0<k)(hj:j≤9223372036854775807):zu (ev E) (.bin .quo x y)=some (.int .i64 ((j/k:Nat):Int)):=by
 rw[EO h1 h2 (by omega) (by omega)];rfl
end
/-! slices.Clone -/
def dW(ty k bytes:Nat)(z:List Value):zA:=
 .seq (.region [⟨some 2,.mov (.const (.slice none 0 0)),none⟩]) (
 .seq (.seq (.region [⟨some 3,.mov (.tmp 0),none⟩,
  ⟨some 4,.eqn 1 false (.tmp 3) (.const (.slice none 0 0)),none⟩]) (
  .cond (.tmp 4) (
   .seq (.region [⟨some 2,.mov (.const (.slice none 0 0)),none⟩]) (
   .ret)) (
   .skip))) (
 .seq (.region [⟨some 5,.bsl ty 0 k z [],none⟩,
  ⟨some 6,.mov (.tmp 0),none⟩,
  ⟨some 7,.app ty k bytes z (.tmp 5) (.tmp 6),none⟩,
  ⟨some 2,.mov (.tmp 7),none⟩]) (
 .ret)))
theorem Src.more{S':zB}{v:Value}{Y:List α}(h:Src S v Y)(hs:∀s∈S,s∈S'):Src S' v Y:=by
 cases h with
 | nil=>exact .nil
 | part hm hc=>exact .part (hs _ hm) hc
theorem kF{f ty k bytes:Nat}{z:List Value}(hf:Z6 P f 8 #[.tmp 2] (dW ty k bytes z))(hk:Enc.k α=k)(z0:α)(hz:enc z0=z){v:Value}{L:List α}(hS:Src S v L)(hnil:v= .slice none 0 0∨∃a c,v= .slice (some a) L.length c)(hlen:L.length<2 ^ 40)(hb:L.length*bytes≤140737488355328):
 Tri P f #[v] S (fun r S'=>∃H',Zf ty r L H'∧S'=H'::S):=by
 refine Tri.forget (zn hf (Nat.le_of_ble_eq_true rfl) ?_);unfold dW;rcases hnil with rfl | ⟨a,c,rfl⟩
 ·refine ze (z8 (yp pC (zf (za (ze (ze (z8 (yp (pS rfl) (yp (QE rfl rfl) (zf (za (zI rfl (ze (z8 (yp pC (zf (za (zL (zX ?_)))))))))))))))))));have:L=[]:=by
   generalize hv:Value.slice none 0 0=v at hS;cases hS with
   | nil=>rfl
   | part hm hc=>simp at hv
  subst this;exact zK (rS rfl) ⟨[]::S,⟨[],by simp⟩,[],.nil,rfl⟩
 ·refine ze (z8 (yp pC (zf (za (ze (ze (z8 (yp (pS rfl) (yp (QE rfl rfl) (zf (za (zw rfl (zq (za (ze (z8 ?_))))))))))))))));refine zh (rO fun p5=>?_);refine yp (pS rfl) ?_;refine zh (VL rfl rfl Zf.empty (hS.more fun s hs=>List.mem_cons_of_mem _ hs) hk z0 hz (by simpa using hb) (by simp; omega) fun v2 H2 hL2=>?_);rw[List.nil_append] at hL2;obtain⟨a2,c2,rfl⟩:=hL2.isSlice;refine yp (pS rfl) (zf (za (zL ?_)));exact zK (rS rfl) ⟨H2::S,.self,H2,hL2,rfl⟩
theorem Zf.Fa{ty:TypeId}{v:Value}{L:List α}{H:List Chunk}(h:Zf ty v L H):v= .slice none 0 0∨∃a c,v= .slice (some a) L.length c:=by
 cases h with
 | nil=>exact .inl rfl
 | row _=>exact .inr ⟨_,_,rfl⟩
theorem zG.vX{a b c:List Chunk}{G:zB}[h:Sub S [a,b,c] G]:zG S [a++b++c]:=zG.trans (zG.of (h:=h)) ⟨[],by simp⟩
theorem Tri.Vg{f:FuncId}{args:Array Value}{a b c:List Chunk}{S0:zB}{R:Value→zB→Prop}(h:Tri P f args (a::b::c::S0) R):Tri P f args ((a++b++c)::S0) R:=h.perm (by simp)
end Go.Xs
namespace Go.Xs
open Enc (enc)
instance (priority:=low) Sub.appS0{S T G:zB}[h:Sub S T G]:Sub ([]++S) T G:=h
instance (priority:=low) Sub.appS{A S T G:zB}{y:List Chunk}[h:Sub (y::(A++S)) T G]:Sub ((y::A)++S) T G:=h
instance (priority:=low) At.appR{A S:zB}{b:Nat}{o:Obj}{f:Obj→zB}[h:At S b o f]:At (A++S) b o (fun o'=>A++f o'):=by
 obtain⟨S1,S2,e,hf⟩:=h.ex;exact⟨A++S1,S2,by rw[e,List.append_assoc],fun o'=>by rw[hf,List.append_assoc]⟩
variable {P:Program} {r:Option Nat} {n:Nat} {K:Env→zB→Prop} {E:Env} {S R:zB} {d:Option Tmp}
theorem XR{b off:Nat}{a:Operand}{c:Array Value}{ty:TypeId}{fz:Nat × Nat}{v:Value}(hm:[(b,Obj.cells c ty fz)]∈S)
 (ha:ev E a= .pointer (some ⟨b,off,none⟩)) (hv:c.toList[off]?=some v) (h:K (Zk d v E) S):YO P r n d (.load1 a) K E S:=by
 obtain⟨f,hA⟩:=At.Ku hm;exact zF (hA:=hA) ha hv h
theorem UG{b off k:Nat}{a:Operand}{c:Array Value}{ty:TypeId}{fz:Nat × Nat}{l:List Value}(hm:[(b,Obj.cells c ty fz)]∈S)
 (ha:ev E a= .pointer (some ⟨b,off,none⟩)) (hv:(c.toList.drop off).take k=l) (hk:l.length=k) (h:K (Zk d (.agg l.toArray) E) S):YO P r n d (.loadN k a) K E S:=by
 obtain⟨f,hA⟩:=At.Ku hm;exact wB (hA:=hA) ha hv hk h
theorem dw{d:Option Tmp}{a:Operand}{b off:Nat}{c:Array Value}{ty:TypeId}{fz:Nat × Nat}{v:Value}{t:Zx}(hm:[(b,Obj.cells c ty fz)]∈R)
 (ha:ev E a= .pointer (some ⟨b,off,none⟩)) (hv:c.toList[off]?=some v) (h:YT P r n R K t (Zk d v E) S):YT P r n R K (.q ⟨d,.load1 a,none⟩ t) E S:=by
 obtain⟨f,hA⟩:=At.Ku hm;exact Zd (hA:=hA) ha hv h
/-- a result that lies in cells, of several -/
theorem IX{t:Tmp}{b k:Nat}{ty ty':TypeId}{l:List Value}{fz:Nat × Nat}{f:Obj→zB}(hagg:isAgg? P ty=some true)(hsz:sizeOf? P ty=some k)(hk:l.length=k)(ha:E t= .pointer (some ⟨b,0,none⟩))[hA:At S b (.cells l.toArray ty' fz) f]:RV P (.cell t ty) E S (.agg l.toArray):=fun F w tmps hs he=>by
 have hb:=hA.heap hs;have hr:=Wq (P:=P) (b:=b) (off:=0) (w:=w) (l:=l) k (fun j hj=>by rw[cellOf hb]; simp) (by omega);rw[List.take_of_length_le (by omega)] at hr;have ht:tmps.getD t undef= .pointer (some ⟨b,0,none⟩):=by rw[←ha, ←he]
 simp only[Qq,ht,asAddr,loadVar,Sem.run_bind,Sem.run,pure,Result.andThen];simp[Wi hagg,run_sizeOf hsz,hr,Sem.run_bind,Result.andThen,Sem.run]
theorem Ey{rv rv' rv2:ResultVar}{v v' v2:Value}(h:RV P rv E S v)(h':RV P rv' E S v')(hh:RV P rv2 E S v2):Xo P #[rv,rv',rv2] E S (.tuple #[v,v',v2]):=fun fn F w tmps hr hs he=>by
 rw[Uu,hr];have h1:=h F w tmps hs he;have h2:=h' F w tmps hs he;have h3:=hh F w tmps hs he;simp[Array.mapM_eq_mapM_toList,Sem.run_bind,h1,h2,h3,Result.andThen,pure,Sem.run]
end Go.Xs
namespace Go.Xs
open Enc (enc)
instance:Enc Int:=⟨fun a=>[.int .i64 a],1,fun _=>rfl,fun _=>rfl⟩
instance:Enc (Int × Int):=⟨fun a=>[.int .i64 a.1,.int .i64 a.2],2,fun _=>rfl,fun _=>rfl⟩
instance:Enc UInt8:=⟨fun b=>[.int .u8 (b.toNat:Int)],1,fun _=>rfl,fun _=>rfl⟩
variable {P:Program} {r:Option Nat} {n:Nat} {K:Env→zB→Prop} {E:Env} {S:zB} {d:Option Tmp}
theorem Ae{kk:Nat}{x s:Operand}{sv:Value}{α:Type}[Enc α]{Y:List α}{a:Option Addr}{cap:Nat}(hx:ev E x= .slice a 0 cap)(hs:ev E s=sv)(hY:Src S sv Y)(_hk:Enc.k α=kk)
 (h:K (Zk d (.int .i64 0) E) S):YO P r n d (.copy kk x s) K E S:=by
 intro op ty pos af g hc hd;obtain⟨t,rr,e,rfl,ht,hsz⟩:=Zu hc;refine uj (by simp) hd fun F w hsat=>?_
 obtain⟨hlen,hcells⟩:=U5 (P:=P) hY hsat;refine⟨_,w,S,?_,Ext.refl w,hsat,h⟩;refine ZR rfl ?_;have hargs:(#[x,s]:Array Operand).map (ev E)= #[.slice a 0 cap,sv]:=by simp[hx,hs]
 have hfc:(Builtin.firstCells kk 0 sv).run P w= .ok #[] w:=by
  obtain⟨a',c',rfl⟩:=hY.isSlice;cases a'<;>simp[Builtin.firstCells,loadCells,loadCellsFrom,pure]
 simp only[hargs,builtin];cases a<;>simp[Builtin.copy_,Sem.run_bind,run_underlying ht,hlen,run_sizeOf hsz,hfc,Result.andThen,pure,Sem.run,goInt,storeCells]
theorem yV{f:Value→ByteArray→Sem (ForInStep ByteArray)}(hf:∀(k:Int) s,f (.int .u8 k) s=pure (.yield (s.push (UInt8.ofNat k.toNat)))):∀(l:List UInt8) (acc:ByteArray) (w:World),(forIn (cells l) acc f:Sem ByteArray).run P w= .ok ⟨acc.data++l.toArray⟩ w
 | [],acc,w=>by simp[cells,pure]
 | b::l,acc,w=>by
  rw[wu];show Sem.run P (forIn (Value.int .u8 (b.toNat:Int)::cells l) acc f) w=_;simp only[List.forIn_cons,hf];have:=yV hf l (acc.push (UInt8.ofNat ((b.toNat:Int)).toNat)) w;simp only[bind,Sem.bind,pure] at this ⊢;rw[this];congr 2;simp[ByteArray.push]
theorem U0:∀Y:List UInt8,cells Y=Y.map fun b=>Value.int .u8 (b.toNat:Int)
 | []=>rfl
 | y::Y=>by rw[wu,U0 Y]; rfl
theorem pV{v:Value}{Y:List UInt8}{F:zB}{w:World}(hY:Src S v Y)(hs:Sat (S++F) w):(Conv.bytesToString v).run P w= .ok (.string ⟨Y.toArray⟩) w:=by
 have h2:=(U5 (P:=P) hY hs).2;obtain⟨a,c,rfl⟩:=hY.isSlice;cases a with
 | none=>
  have:Y=[]:=by
   generalize hv:Value.slice none Y.length c=v at hY;cases hY with
   | nil=>rfl
   | part hm hc=>simp at hv
  subst this;rfl
 | some a=>
  have h3:(loadCells a Y.length).run P w= .ok (cells Y).toArray w:=by
   simp[Builtin.firstCells,show Enc.k UInt8=1 from rfl] at h2;exact h2
  unfold Conv.bytesToString;simp only[Sem.run_bind,h3,Result.andThen_ok];simp only[List.forIn_toArray];rw[yV (P:=P) (fun k s=>rfl) Y ByteArray.empty w];simp[Result.andThen,pure]
/-- string(b) -/
theorem aM{x:Operand}{v:Value}{Y:List UInt8}(hx:ev E x=v)(hY:Src S v Y)(h:K (Zk d (.string ⟨Y.toArray⟩) E) S):YO P r n d (.b2s x) K E S:=by
 intro op ty pos af g hc hd;obtain⟨s,t,e,rfl,hs,ht,he⟩:=Zu hc;refine uj (by simp) hd fun F w hsat=>⟨_,w,S,?_,Ext.refl w,hsat,h⟩
 have hr:=pV (P:=P) hY hsat;obtain⟨a,c,rfl⟩:=hY.isSlice;simp only[execOp,convert,Sem.run_bind,run_underlying hs,run_underlying ht,Result.andThen_ok,hx,run_underlying he,hr];rfl
theorem oF{w:World}{b:Nat}{c:Array Value}{ty:TypeId}(h:w.heap[b]?=some (.cells c ty)):∃w',(markStringish ⟨b,0,none⟩).run P w= .ok () w'∧w'.heap[b]?=some (.cells c ty (c.size,c.size+1))∧(∀j,j≠b→w'.heap[j]?=w.heap[j]?)∧Ext w w':=by
 refine⟨w.freeze ⟨b,c.size,none⟩ 1,?_,?_,fun j hj=>?_,⟨?_,?_,?_,?_⟩⟩
 ·simp[markStringish,shape,freeze,bind,Sem.bind,Sem.run,World.shape?,h]
 ·simp only[World.freeze,Nat.one_ne_zero,if_false];rw[Array.getElem?_modify,if_pos rfl,h];rfl
 ·simp only[World.freeze,Nat.one_ne_zero,if_false];rw[Array.getElem?_modify,if_neg (fun e=>hj e.symm)]
 all_goals simp[World.freeze]
/-- []byte(s) -/
theorem CV{e:TypeId}{x:Operand}{s:ByteArray}(hx:ev E x= .string s)(h:∀v H,Zf e v s.data.toList H→K (Zk d v E) (H::S)):YO P r n d (.s2b e x) K E S:=by
 intro op ty pos af g hc hd;obtain⟨t1,t2,rfl,hs,ht,he⟩:=Zu hc;refine uj (by simp) hd fun F w hsat=>?_
 let q:Question:= .appendCap s.size 0 e
 let M:=q.cut (w.tape w.drawn q)
 let w1:World:={w with drawn:=w.drawn+1}
 have hM:s.size≤M:=Nat.le_add_right _ _;obtain⟨m,hm⟩:∃m,M=s.size+m:=⟨M-s.size,by omega⟩
 let Y:=s.data.toList
 let sp:List UInt8:=List.replicate m 0
 have hYl:Y.length=s.size:=Array.length_toList;have hcl:(s.data.map (fun b=>Value.int .u8 (b.toNat:Int))++Array.replicate (M-s.size) (.int .u8 0))=(cells (Y++sp)).toArray:=by
  apply Array.toList_inj.1;rw[U0];simp[Y,sp,hm]
 let w2:World:={w1 with heap:=w1.heap.push (.cells (cells (Y++sp)).toArray e)}
 have hb2:w2.heap[w.heap.size]?=some (.cells (cells (Y++sp)).toArray e):=by simp[w2,w1]
 obtain⟨w3,h1,h2,h3,h4⟩:=oF (P:=P) hb2;have hsat0:Zy (S++F).flatten w:=hsat;have hsat1:Sat (S++F) w1:=⟨hsat0.nodup,hsat0.at_⟩
 have hx2:Ext w w2:=⟨rfl,rfl,rfl,by simp[w2,w1]⟩
 have hsat2:Sat (([(w.heap.size,.cells (cells (Y++sp)).toArray e)]:List Chunk)::(S++F)) w2:=Sat.new _ (w:=w1) hsat1;have hsat3:Sat (([(w.heap.size,.cells (cells (Y++sp)).toArray e ((cells (Y++sp)).toArray.size,(cells (Y++sp)).toArray.size+1))]:List Chunk)::(S++F)) w3:=At.upd (S:=[(w.heap.size,.cells (cells (Y++sp)).toArray e)]::S) At.here hsat2 h2 h3;refine⟨.slice (some ⟨w.heap.size,0,none⟩) s.size M,w3,[(w.heap.size,.cells (cells (Y++sp)).toArray e ((cells (Y++sp)).toArray.size,(cells (Y++sp)).toArray.size+1))]::S,?_,?_,hsat3,?_⟩
 ·have hch:(choose (.appendCap s.size 0 e)).run P w= .ok M w1:=rfl;simp only[execOp,convert,Sem.run_bind,run_underlying hs,run_underlying ht,Result.andThen_ok,hx,run_underlying he,Conv.stringToBytes,hch,hcl,wF];have h1':(markStringish ⟨w1.heap.size,0,none⟩).run P {w1 with heap:=w1.heap.push (.cells (cells (Y++sp)).toArray e)}= .ok () w3:=h1;simp only[h1',Result.andThen_ok];rfl
 ·exact hx2.trans h4
 ·refine h _ _ ?_;have hM2:M=Y.length+sp.length:=by simp[sp,hYl,hm]
  rw[hM2, ←hYl];exact .row (.inr (by simp))
theorem Src.Ms{α:Type}[Enc α]{e b m c:Nat}{fz:Nat × Nat}{Y:List α}(hm:[(b,Obj.cells (cells Y).toArray e fz)]∈S)(hl:m=Y.length):Src S (.slice (some ⟨b,0,none⟩) m c) Y:=by
 subst hl;refine .part hm ?_;show(cells Y).take _=_;rw[←zJ,List.take_length]
end Go.Xs
namespace Go.Xs
open Enc (enc)
variable {P:Program} {r:Option Nat} {n:Nat} {K:Env→zB→Prop} {E:Env} {S G:zB} {d:Option Tmp} {α:Type} [Enc α]
/-- s[k:m] of a slice that is read -/
theorem Src.ZV{v:Value}{L:List α}(h:Src S v L){k m kk:Nat}{q q':IntKind}(hkk:Enc.k α=kk)(hk:k≤m)(hm:m≤L.length){x y z:Operand}(hx:ev E x=v)(hc:∀a l c,v= .slice a l c→l≤c)(hy:ev E y= .int q (k:Int))(hz:ev E z= .int q' (m:Int)):
 ∃a c,zu (ev E) (.slc kk x (some y) (some z) none)=some (.slice a (m-k) c)∧Src S (.slice a (m-k) c) ((L.drop k).take (m-k)):=by
 subst hkk;cases h with
 | nil=>
  obtain rfl:m=0:=by simpa using hm
  obtain rfl:k=0:=by omega
  exact⟨_,_,by simp[zu,hx,Vp,hy,hz,Jy,bnd,Ug]; exact⟨rfl,rfl⟩,.nil⟩
 | @part b o cap c ty fz Y hm2 hcells=>
  have hcap:=hc _ _ _ rfl;have hl:((L.drop k).take (m-k)).length=m-k:=by rw[List.length_take,List.length_drop]; omega
  refine⟨_,_,gJ hx hy hz ⟨hk,by omega⟩,?_⟩;by_cases h0:m-k=0
  ·rw[h0,List.take_zero]; exact .nil
  have hne:¬cap=k:=by omega
  have hs:Src S (.slice (some ⟨b,if cap=k then o else o+k*Enc.k α,none⟩) ((L.drop k).take (m-k)).length (cap-k)) ((L.drop k).take (m-k)):= .part hm2 (by
   rw[if_neg hne,hl, ←List.drop_drop];have h1:=congrArg (fun l=>(l.drop (k*Enc.k α)).take ((m-k)*Enc.k α)) hcells;simp only[wZ,WA] at h1;rw[←h1,List.drop_take,List.take_take,Nat.min_eq_left];rw[←Nat.sub_mul]; exact Nat.mul_le_mul_right _ (by omega))
  rw[hl] at hs;exact hs
theorem Src.mono{S S':zB}{v:Value}{L:List α}(h:Src S v L)(hs:∀s∈S,s∈S'):Src S' v L:=by
 cases h with
 | nil=>exact .nil
 | part hm hc=>exact .part (hs _ hm) hc
/-- an element of a slice is stored -/
theorem Zf.setAt{ty b c:Nat}{L sp:List α}{fz:Nat × Nat}{i:Nat}{y:α}(hz:uQ fz (cells (L++sp)).length)(hi:i<L.length)(hc:c=L.length+sp.length):
 Zf ty (.slice (some ⟨b,0,none⟩) L.length c) (L.set i y) [(b,.cells (cells ((L++sp).set i y)).toArray ty fz)]:=by
 have hrow:=Zf.row (ty:=ty) (b:=b) (L:=L.set i y) (sp:=sp) (fz:=fz) (by rw[zJ,List.length_append,List.length_set]; rw[zJ,List.length_append] at hz; exact hz);rw[List.length_set] at hrow;rw[hc,List.set_append_left _ _ hi];exact hrow
/-- what is read, with more that may be read -/
structure rD(S1 S:zB):Prop where
 mem:∀s∈S,s∈S1
 junk:zG S1 S
theorem rD.refl(S:zB):rD S S:=⟨fun _ h=>h,.self⟩
theorem rD.cons{S1 S:zB}(h:rD S1 S)(x:List Chunk):rD (x::S1) S:=⟨fun s hs=>List.mem_cons_of_mem _ (h.mem s hs),zG.trans (zG.of (S0:=S1)) h.junk⟩
theorem rD.trans{S2 S1 S:zB}(h:rD S2 S1)(k:rD S1 S):rD S2 S:=⟨fun s hs=>h.mem s (k.mem s hs),h.junk.trans k.junk⟩
end Go.Xs
namespace Go.Xs
open Enc (enc)
open Go.MapKept
/-- keys that are told apart by what they are -/
class Key(κ:Type) where
 kv:κ→Value
 ok:Program→TypeId→Prop
 inj:∀a b,kv a=kv b→a=b
 bits:∀a,Instr.sameBits 10000 (kv a) (kv a)=true
 chk:∀{P:Program} {kt:TypeId},ok P kt→∀(w:World) (a:κ) (e:Bool),(Instr.checkKey e 10000 kt (kv a)).run P w= .ok () w
 find:∀{P:Program} {kt:TypeId},ok P kt→∀(w:World) (a:κ) (l:List MapEntry),(∀x∈l,∃b,x.key=kv b)→
  (Instr.findKey kt (kv a) l).run P w= .ok none w∧(∀x∈l,x.key≠kv a)∨∃j e,(Instr.findKey kt (kv a) l).run P w= .ok (some (j,e.val)) w∧l[j]?=some e∧e.key=kv a
open Key (kv)
theorem yM{P:Program}{kt:TypeId}{d:TypeDesc}(hd:P.underlying kt=some d)(w:World){k:Value}(hk:IsKey d k)(l:List MapEntry)(hl:∀x∈l,IsKey d x.key):
 (Instr.findKey kt k l).run P w= .ok none w∧(∀x∈l,x.key≠k)∨∃j e,(Instr.findKey kt k l).run P w= .ok (some (j,e.val)) w∧l[j]?=some e∧e.key=k:=by
 rcases findNow_spec hk l 0 hl with⟨h1,h2⟩ | ⟨j,e,h1,h2,h3⟩
 ·exact .inl ⟨run_findKey (P:=P) (w:=w) hd h1,h2⟩
 ·exact .inr ⟨j,e,by rw[run_findKey (P:=P) (w:=w) hd h1,Nat.zero_add],h2,h3⟩
instance:Key Int where
 kv a:= .int .i64 a
 ok P kt:=P.underlying kt=some (.int .i64)
 inj a b h:=by cases h; rfl
 bits a:=by simp[Instr.sameBits]
 chk hd w a e:=run_checkKey (d:= .int .i64) hd (by rfl) e 9999
 find hd w a l hl:=yM hd w (k:= .int .i64 a) (by rfl) l fun x hx=>by obtain⟨b,hb⟩:=hl x hx; rw[hb]; rfl
instance:Key ByteArray where
 kv a:= .string a
 ok P kt:=P.underlying kt=some .string
 inj a b h:=by cases h; rfl
 bits a:=by simp[Instr.sameBits,bytes_beq]
 chk hd w a e:=run_checkKey (d:= .string) hd (k:= .string a) trivial e 9999
 find hd w a l hl:=yM hd w (k:= .string a) trivial l fun x hx=>by obtain⟨b,hb⟩:=hl x hx; rw[hb]; trivial
/-- what stands by a key -/
class Vv(ν:Type) where
 vv:ν→Value
open Vv (vv)
instance:Vv Int:=⟨fun a=> .int .i64 a⟩
instance:Vv Bool:=⟨fun a=> .bool a⟩
def wT{κ ν:Type}[DecidableEq κ](f:κ→Option ν)(k:κ)(o:Option ν):κ→Option ν:=fun x=>if x=k then o else f x
theorem bA{κ ν:Type}[DecidableEq κ]{f:κ→Option ν}{k:κ}(hk:f k=none):wT f k none=f:=by
 funext x;unfold wT;split
 ·next e=>rw[e,hk]
 ·rfl
theorem bB{κ ν:Type}[DecidableEq κ]{f:κ→Option ν}{k:κ}{o o':Option ν}:wT (wT f k o) k o'=wT f k o':=by
 funext x;unfold wT;split<;>rfl
variable {κ ν:Type} [Key κ] [Vv ν]
structure ji(es:List MapEntry)(clock:Nat)(f:κ→Option ν)(n:Nat):Prop where
 len:es.length=n
 bd:∀e∈es,e.born<clock
 bn:(es.map (·.born)).Nodup
 nd:(es.map (·.key)).Nodup
 ent:∀e∈es,∃k v,e.key=kv k∧e.val=vv v∧f k=some v
 all:∀k v,f k=some v→∃e∈es,e.key=kv k
def Mp(b:Nat)(f:κ→Option ν)(n:Nat)(H:List Chunk):Prop:=∃(es:Array MapEntry) (clock:Nat),H=[(b,.map es clock)]∧ji es.toList clock f n
theorem ji.keys{es:List MapEntry}{clock:Nat}{f:κ→Option ν}{n:Nat}(h:ji es clock f n):∀x∈es,∃b:κ,x.key=kv b:=fun x hx=>by
 obtain⟨k,v,h1,_⟩:=h.ent x hx;exact⟨k,h1⟩
theorem ji.find{P:Program}{kt:TypeId}(hk:Key.ok κ P kt)(w:World){es:List MapEntry}{clock:Nat}{f:κ→Option ν}{n:Nat}(h:ji es clock f n)(k:κ):
 (f k=none∧(Instr.findKey kt (kv k) es).run P w= .ok none w∧∀x∈es,x.key≠kv k)∨
 (∃j e v,f k=some v∧(Instr.findKey kt (kv k) es).run P w= .ok (some (j,vv v)) w∧es[j]?=some e∧e.key=kv k):=by
 rcases Key.find hk w k es h.keys with⟨h1,h2⟩ | ⟨j,e,h1,h2,h3⟩
 ·refine .inl ⟨?_,h1,h2⟩;cases hf:f k with
  | none=>rfl
  | some v=>
   obtain⟨e,he,hk⟩:=h.all k v hf;exact absurd hk (h2 e he)
 ·obtain⟨k',v,h4,h5,h6⟩:=h.ent e (List.mem_of_getElem? h2);obtain rfl:=Key.inj k k' (h3.symm.trans h4);exact .inr ⟨j,e,v,h6,by rw[h1,h5],h2,h3⟩
theorem ji.empty:ji ([]:List MapEntry) 0 (fun _:κ=>(none:Option ν)) 0:=⟨rfl,fun e he=>by simp at he,by simp,by simp,fun e he=>by simp at he,fun k v h=>by cases h⟩
variable {P:Program} {r:Option Nat} {n:Nat} {K:Env→zB→Prop} {E:Env} {S G:zB} {d:Option Tmp}
theorem kS{t ty0:TypeId}(κ ν:Type)[Key κ][Vv ν](h:∀b H,Mp b (fun _:κ=>(none:Option ν)) 0 H→K (Zk d (.map (some b)) E) (H::S)):YO P r n d (.raw (.makeMap t none) ty0) K E S:=by
 intro op ty pos af g hc hd;obtain⟨rfl,rfl⟩:=Zu hc;refine uj (by simp) hd fun F w hs=>?_
 refine⟨_,_,[(w.heap.size,.map #[] 0)]::S,?_,Ext.push w _,Sat.new _ hs,h w.heap.size _ ⟨#[],0,rfl,ji.empty⟩⟩;simp only[execOp,Instr.makeMap,Sem.run_bind,newObj,pure,Sem.run,Result.andThen];rfl
theorem Yk{t:TypeId}{z:Value}(h:(P.info? t).bind (·.zero)=some z)(w:World):(zeroValue t).run P w= .ok z w:=by
 cases hi:P.info? t with
 | none=>rw[hi] at h; cases h
 | some i=>
  rw[hi] at h;have hz:i.zero=some z:=h;simp[zeroValue,typeInfo,Sem.run_bind,Result.andThen,hi,hz,pure,Sem.run]
/-- m[k], with and without the word whether it is there -/
theorem rJ{t ty0 kt et:TypeId}{c:Bool}{x i:Operand}{b m:Nat}{f:κ→Option ν}{H:List Chunk}{z:Value}(hM:Mp b f m H)(hm:H∈S)(k:κ)(ht:P.underlying t=some (.map kt et))(hk:Key.ok κ P kt)(hz:(P.info? et).bind (·.zero)=some z)
 (hx:ev E x= .map (some b)) (hi:ev E i=kv k)
 (h:K (Zk d (if c then .tuple #[((f k).map vv).getD z,.bool (f k).isSome] else((f k).map vv).getD z) E) S):YO P r n d (.raw (.lookup t x i c) ty0) K E S:=by
 obtain⟨es,clock,rfl,hE⟩:=hM;intro op ty pos af g hc hd;obtain⟨rfl,rfl⟩:=Zu hc;refine uj (by simp) hd fun F w hs=>⟨_,w,S,?_,Ext.refl w,hs,h⟩
 have hb:w.heap[b]?=some (.map es clock):=hs.at_ (List.mem_append.2 (.inl hm)) (List.mem_singleton.2 rfl);simp only[execOp,Instr.lookup,Sem.run_bind,run_underlying ht,Result.andThen_ok,hx,hi,Go.MapKept.run_getObj_map hb,Key.chk hk];rcases hE.find hk w k with⟨h1,h2,_⟩ | ⟨j,e,v,h1,h2,h3,h4⟩
 ·have hf:=h2;simp only[pure,Sem.run,Result.andThen_ok,hf,Sem.run_bind,Yk hz,h1];cases c<;>rfl
 ·have hf:=h2;simp only[pure,Sem.run,Result.andThen_ok,hf,h1];cases c<;>rfl
theorem uh{t ty0 kt et:TypeId}{x i:Operand}{b m:Nat}{f:κ→Option ν}{H:List Chunk}{z v:Value}(hM:Mp b f m H)(hm:H∈S)(k:κ)(ht:P.underlying t=some (.map kt et))(hk:Key.ok κ P kt)(hz:(P.info? et).bind (·.zero)=some z)
 (hx:ev E x= .map (some b)) (hi:ev E i=kv k) (hv:((f k).map vv).getD z=v)
 (h:K (Zk d v E) S):YO P r n d (.raw (.lookup t x i false) ty0) K E S:=rJ hM hm k ht hk hz hx hi (by rw[hv]; exact h)
theorem dB{t ty0 kt et:TypeId}{x i:Operand}{b m:Nat}{f:κ→Option ν}{H:List Chunk}{z v:Value}{bl:Bool}(hM:Mp b f m H)(hm:H∈S)(k:κ)(ht:P.underlying t=some (.map kt et))(hk:Key.ok κ P kt)(hz:(P.info? et).bind (·.zero)=some z)
 (hx:ev E x= .map (some b)) (hi:ev E i=kv k) (hv:((f k).map vv).getD z=v) (hb:(f k).isSome=bl)
 (h:K (Zk d (.tuple #[v,.bool bl]) E) S):YO P r n d (.raw (.lookup t x i true) ty0) K E S:=rJ hM hm k ht hk hz hx hi (by rw[hv,hb]; exact h)
variable [DecidableEq κ]
theorem ji.push{es:List MapEntry}{clock:Nat}{f:κ→Option ν}{n:Nat}(h:ji es clock f n){k:κ}{v:ν}(hk:f k=none)(hn:∀x∈es,x.key≠kv k):
 ji (es++[{key:=kv k,val:=vv v,born:=clock}]) (clock+1) (wT f k (some v)) (n+1):=by
 refine⟨by simp[h.len],fun e he=>?_,?_,?_,fun e he=>?_,fun a u ha=>?_⟩
 ·rcases List.mem_append.1 he with he | he
  ·exact Nat.lt_succ_of_lt (h.bd e he)
  ·rw[List.mem_singleton.1 he]; exact Nat.lt_succ_self _
 ·rw[List.map_append];refine List.nodup_append.2 ⟨h.bn,by simp,fun a ha b hb=>?_⟩;obtain⟨x,hx,rfl⟩:=List.mem_map.1 ha;simp at hb;have:=h.bd x hx;omega
 ·rw[List.map_append];refine List.nodup_append.2 ⟨h.nd,by simp,fun a ha b hb=>?_⟩;obtain⟨x,hx,rfl⟩:=List.mem_map.1 ha;simp at hb;rw[hb]; exact hn x hx
 ·rcases List.mem_append.1 he with he | he
  ·obtain⟨a,u,h1,h2,h3⟩:=h.ent e he;refine⟨a,u,h1,h2,?_⟩;unfold wT;rw[if_neg (fun e2=>by rw[e2,hk] at h3; cases h3)];exact h3
  ·rw[List.mem_singleton.1 he];exact⟨k,v,rfl,rfl,by simp[wT]⟩
 ·unfold wT at ha;split at ha
  ·next hak=>exact⟨_,List.mem_append.2 (.inr (List.mem_singleton.2 rfl)),by rw[hak]⟩
  ·obtain⟨e,he,h1⟩:=h.all a u ha;exact⟨e,List.mem_append.2 (.inl he),h1⟩
theorem ji.set{es:List MapEntry}{clock:Nat}{f:κ→Option ν}{n:Nat}(h:ji es clock f n){k:κ}{v:ν}{j:Nat}{e:MapEntry}(hj:es[j]?=some e)(hk:e.key=kv k):
 ji (es.set j {e with key:=kv k,val:=vv v}) clock (wT f k (some v)) n:=by
 have hlt:=(List.getElem?_eq_some_iff.1 hj).1;have hsame:∀{β:Type} (g:MapEntry→β),g {e with key:=kv k,val:=vv v}=g e→(es.set j {e with key:=kv k,val:=vv v}).map g=es.map g:=by
  intro β g hg;refine List.ext_getElem? fun i=>?_
  rw[List.getElem?_map,List.getElem?_map,List.getElem?_set];split
  ·next hi=>
   subst hi;rw[hj,Option.map_some,Option.map_some,hg]
  ·rfl
 have hkeys:=hsame (·.key) hk.symm;have hborn:=hsame (·.born) rfl;refine⟨by rw[List.length_set]; exact h.len,fun x hx=>?_,by rw[hborn]; exact h.bn,by rw[hkeys]; exact h.nd,fun x hx=>?_,fun a u ha=>?_⟩
 ·have:x.born∈(es.set j {e with key:=kv k,val:=vv v}).map (·.born):=List.mem_map.2 ⟨x,hx,rfl⟩;rw[hborn] at this;obtain⟨y,hy,e2⟩:=List.mem_map.1 this;rw[←e2]; exact h.bd y hy
 ·obtain⟨i,hi⟩:=List.mem_iff_getElem?.1 hx;rw[List.getElem?_set] at hi;split at hi
  ·next hij=>
   obtain rfl:=(Option.some.inj hi).symm;exact⟨k,v,rfl,rfl,by simp[wT]⟩
  ·next hij=>
   obtain⟨a,u,h1,h2,h3⟩:=h.ent x (List.mem_of_getElem? hi);refine⟨a,u,h1,h2,?_⟩;unfold wT;rw[if_neg ?_]
   ·exact h3
   ·intro e2;subst e2;have h4:(es.map (·.key))[i]?=some (kv a):=by rw[List.getElem?_map,hi,Option.map_some,h1]
    have h5:(es.map (·.key))[j]?=some (kv a):=by rw[List.getElem?_map,hj,Option.map_some,hk]
    have hil:=(List.getElem?_eq_some_iff.1 h4).1;exact hij (((List.getElem?_inj hil h.nd).1 (h4.trans h5.symm)).symm)
 ·have hmem:∀a:κ,(∃y∈es,y.key=kv a)→∃x∈es.set j {e with key:=kv k,val:=vv v},x.key=kv a:=fun a ⟨y,hy,hya⟩=>by
   have:kv a∈(es.set j {e with key:=kv k,val:=vv v}).map (·.key):=by rw[hkeys]; exact List.mem_map.2 ⟨y,hy,hya⟩
   obtain⟨x,hx,hxa⟩:=List.mem_map.1 this;exact⟨x,hx,hxa⟩
  unfold wT at ha;split at ha
  ·next hak=>rw[hak]; exact hmem k ⟨e,List.mem_of_getElem? hj,hk⟩
  ·exact hmem a (h.all a u ha)
theorem ji.del{es:List MapEntry}{clock:Nat}{f:κ→Option ν}{n:Nat}(h:ji es clock f n){k:κ}{j:Nat}{e:MapEntry}(hj:es[j]?=some e)(hk:e.key=kv k):
 ji (es.eraseIdx j) clock (wT f k none) (n-1):=by
 have hlt:=(List.getElem?_eq_some_iff.1 hj).1;have hsub:(es.eraseIdx j).Sublist es:=List.eraseIdx_sublist _ _;have hdist:∀x∈es.eraseIdx j,x.key≠kv k:=fun x hx hxk=>by
  obtain⟨i,hi⟩:=List.mem_iff_getElem?.1 hx;rw[List.getElem?_eraseIdx] at hi;have h5:(es.map (·.key))[j]?=some (kv k):=by rw[List.getElem?_map,hj,Option.map_some,hk]
  split at hi
  ·next hij=>
   have h4:(es.map (·.key))[i]?=some (kv k):=by rw[List.getElem?_map,hi,Option.map_some,hxk]
   have hil:=(List.getElem?_eq_some_iff.1 h4).1;have:=(List.getElem?_inj hil h.nd).1 (h4.trans h5.symm);omega
  ·next hij=>
   have h4:(es.map (·.key))[i+1]?=some (kv k):=by rw[List.getElem?_map,hi,Option.map_some,hxk]
   have hil:=(List.getElem?_eq_some_iff.1 h4).1;have:=(List.getElem?_inj hil h.nd).1 (h4.trans h5.symm);omega
 refine⟨by rw[List.length_eraseIdx,if_pos hlt,h.len],fun x hx=>h.bd x (hsub.subset hx),(hsub.map _).nodup h.bn,(hsub.map _).nodup h.nd,fun x hx=>?_,fun a u ha=>?_⟩
 ·obtain⟨a,u,h1,h2,h3⟩:=h.ent x (hsub.subset hx);refine⟨a,u,h1,h2,?_⟩;unfold wT;rw[if_neg (fun e2=>hdist x hx (by rw[h1,e2]))];exact h3
 ·unfold wT at ha;split at ha
  ·cases ha
  ·next hak=>
   obtain⟨x,hx,hxa⟩:=h.all a u ha;obtain⟨i,hi⟩:=List.mem_iff_getElem?.1 hx;have hij:i≠j:=fun e2=>by
    rw[e2,hj] at hi;obtain rfl:=Option.some.inj hi;exact hak (Key.inj a k (hxa.symm.trans hk))
   refine⟨x,List.mem_iff_getElem?.2 ⟨if i<j then i else i-1,?_⟩,hxa⟩;rw[List.getElem?_eraseIdx];by_cases h7:i<j
   ·rw[if_pos h7,if_pos h7]; exact hi
   ·rw[if_neg h7,if_neg (by omega),show i-1+1=i from by omega]; exact hi
/-- an entry was made for the key, or found, with that stamp -/
def OB(b:Nat)(f:κ→Option ν)(n:Nat)(k:κ)(s:Nat)(H:List Chunk):Prop:=
 ∃(es:Array MapEntry) (clock j:Nat) (e:MapEntry),H=[(b,.map es clock)]∧ji es.toList clock f n∧es.toList[j]?=some e∧e.key=kv k∧e.born=s
/-- how many there are when k is set -/
def Xq(f:κ→Option ν)(k:κ)(n:Nat):Nat:=if(f k).isSome then n else n+1
def KA(f:κ→Option ν)(k:κ)(n:Nat):Nat:=if(f k).isSome then n-1 else n
theorem XD{es:Array MapEntry}{j:Nat}{e:MapEntry}{g:MapEntry→MapEntry}(hj:es.toList[j]?=some e):(es.modify j g).toList=es.toList.set j (g e):=by
 refine List.ext_getElem? fun i=>?_
 rw[Array.getElem?_toList,Array.getElem?_modify,List.getElem?_set];have hlt:=(List.getElem?_eq_some_iff.1 hj).1;split
 ·next hi=>
  subst hi;rw[Array.getElem?_toList] at hj;rw[hj]; rfl
 ·rw[Array.getElem?_toList]
theorem Wz{b:Nat}{o o':Obj}{F:zB}{w:World}[hp:Pick S [(b,o)] G](hs:Sat (S++F) w):w.heap[b]?=some o∧Sat (([(b,o')]::G)++F) {w with heap:=w.heap.setIfInBounds b o'}∧Ext w {w with heap:=w.heap.setIfInBounds b o'}:=by
 have h1:Sat ((([(b,o)]:List Chunk)::G)++F) w:=hs.yj (by simpa using hp.perm);have hb:w.heap[b]?=some o:=Sat.at_ h1 (s:=[(b,o)]) (by simp) (List.mem_singleton.2 rfl);have h2:=uq (o':=o') h1;exact⟨hb,h2,Ext.putObj w b o'⟩
/-- m[k] op= .., its first half -/
theorem Yl{t ty0 kt et:TypeId}{x i:Operand}{b m:Nat}{f:κ→Option ν}{H:List Chunk}{z0:ν}[hp:Pick S H G](hM:Mp b f m H)(k:κ)(ht:P.underlying t=some (.map kt et))(hk:Key.ok κ P kt)(hz:(P.info? et).bind (·.zero)=some (vv z0))
 (hx:ev E x= .map (some b)) (hi:ev E i=kv k)
 (h:∀s H',OB b (wT f k (some ((f k).getD z0))) (Xq f k m) k s H'→K (Zk d (.tuple #[vv ((f k).getD z0),.int .i64 (s:Int)]) E) (H'::G)):YO P r n d (.raw (.mapEntry t x i) ty0) K E S:=by
 obtain⟨es,clock,rfl,hE⟩:=hM;intro op ty pos af g hc hd;obtain⟨rfl,rfl⟩:=Zu hc;refine uj (by simp) hd fun F w hs=>?_
 rcases hE.find hk w k with⟨h1,h2,h3⟩ | ⟨j,e,v,h1,h2,h3,h4⟩
 ·obtain⟨hb,hs2,hx2⟩:=Wz (b:=b) (o:= .map es clock) (o':= .map (es.push {key:=kv k,val:=vv z0,born:=clock}) (clock+1)) hs;refine⟨_,_,_,?_,hx2,hs2,h clock _ ⟨_,clock+1,es.size,{key:=kv k,val:=vv z0,born:=clock},rfl,?_,?_,rfl,rfl⟩⟩
  ·have hf:=h2;simp only[execOp,Instr.mapEntry,Sem.run_bind,run_underlying ht,Result.andThen_ok,hx,hi,Go.MapKept.run_getObj_map hb,Key.chk hk,hf,Yk hz,run_setObj_map _ hb];simp[pure,Result.andThen,goInt,h1]
  ·rw[Array.toList_push,h1];unfold Xq;rw[h1];exact hE.push h1 h3
  ·simp
 ·obtain⟨hb,hs2,hx2⟩:=Wz (b:=b) (o:= .map es clock) (o':= .map (es.modify j fun e=>{e with key:=kv k}) clock) hs;obtain⟨k',v',g1,g2,g3⟩:=hE.ent e (List.mem_of_getElem? h3);obtain rfl:=Key.inj k k' (h4.symm.trans g1);have hvv:v'=v:=by rw[h1] at g3; exact(Option.some.inj g3).symm
  subst hvv;have hee:({e with key:=kv k}:MapEntry)={e with key:=kv k,val:=vv v'}:=by rw[←g2]
  refine⟨_,_,_,?_,hx2,hs2,h e.born _ ⟨_,clock,j,{e with key:=kv k,val:=vv v'},rfl,?_,?_,rfl,rfl⟩⟩
  ·have hf:=h2;have hj:es[j]?=some e:=by rw[←Array.getElem?_toList]; exact h3
   have hkeep:(Instr.keyThatStays (((es[j]?).map (·.key)).getD (kv k)) (kv k)).run P w= .ok (kv k) w:=by
    rw[hj];simp only[Option.map_some,Option.getD_some,h4,Instr.keyThatStays,Key.bits,if_true];rfl
   simp only[execOp,Instr.mapEntry,Sem.run_bind,run_underlying ht,Result.andThen_ok,hx,hi,Go.MapKept.run_getObj_map hb,Key.chk hk,hf,hkeep,run_setObj_map _ hb];simp[pure,Result.andThen,goInt,h1,hj]
  ·rw[XD h3,hee,h1];unfold Xq;rw[h1];exact hE.set h3 h4
  ·rw[XD h3,hee];exact List.getElem?_set_self (List.getElem?_eq_some_iff.1 h3).1
/-- .. and its second half -/
theorem Xd{t ty0:TypeId}{x i u:Operand}{b m s:Nat}{f:κ→Option ν}{k:κ}{v:ν}{H:List Chunk}[hp:Pick S H G](hM:OB b f m k s H)
 (hx:ev E x= .map (some b)) (hi:ev E i= .int .i64 (s:Int)) (hv:ev E u=vv v) (h:∀H',Mp b (wT f k (some v)) m H'→K (Zk d undef E) (H'::G)):YO P r n d (.raw (.entryStore t x i u) ty0) K E S:=by
 obtain⟨es,clock,j,e,rfl,hE,hj,hke,hbe⟩:=hM;intro op ty pos af g hc hd;obtain⟨rfl,rfl⟩:=Zu hc;refine dF (by simp) hd fun F w hs=>?_
 have hlt:=(List.getElem?_eq_some_iff.1 hj).1;have hfi:es.findIdx? (fun e=>(e.born:Int)==(s:Int))=some j:=by
  rw[Array.findIdx?_eq_some_iff_getElem];have hj2:es[j]?=some e:=by rw[←Array.getElem?_toList]; exact hj
  obtain⟨hlt2,hee⟩:=Array.getElem?_eq_some_iff.1 hj2;refine⟨hlt2,by rw[hee,hbe]; simp,fun i hi=>?_⟩;have hilt:i<es.size:=by omega
  have h1:(es.toList.map (·.born))[i]?=some es[i].born:=by rw[List.getElem?_map,Array.getElem?_toList,Array.getElem?_eq_getElem hilt]; rfl
  have h2:(es.toList.map (·.born))[j]?=some e.born:=by rw[List.getElem?_map,hj]; rfl
  have hne:es[i].born≠s:=fun e3=>by
   rw[e3, ←hbe] at h1;have:=(List.getElem?_inj (List.getElem?_eq_some_iff.1 h1).1 hE.bn).1 (h1.trans h2.symm);omega
  simp; omega
 obtain⟨hb,hs2,hx2⟩:=Wz (b:=b) (o:= .map es clock) (o':= .map (es.modify j fun e=>{e with val:=vv v}) clock) hs;have hee:({e with val:=vv v}:MapEntry)={e with key:=kv k,val:=vv v}:=by rw[←hke]
 refine⟨_,_,?_,hx2,hs2,h _ ⟨_,clock,rfl,?_⟩⟩
 ·simp only[execOp,Instr.entryStore,Sem.run_bind,Result.andThen_ok,hx,hi,hv,Go.MapKept.run_getObj_map hb];simp[pure,Sem.run,Result.andThen,asInt,asIntOf,hfi,run_setObj_map _ hb]
 ·rw[XD hj,hee];exact hE.set hj hke
/-- delete(m, k) -/
theorem dA{t u ty0 kt et:TypeId}{x i:Operand}{b m:Nat}{f:κ→Option ν}{H:List Chunk}[hp:Pick S H G](hM:Mp b f m H)(k:κ)(ht:P.underlying t=some (.map kt et))(hk:Key.ok κ P kt)
 (hx:ev E x= .map (some b)) (hi:ev E i=kv k) (h:∀H',Mp b (wT f k none) (KA f k m) H'→K (Zk d (.tuple #[]) E) (H'::G)):YO P r n d (.raw (.call ⟨.builtin .delete, #[x,i], #[t,u]⟩) ty0) K E S:=by
 obtain⟨es,clock,rfl,hE⟩:=hM;intro op ty pos af g hc hd;obtain⟨rfl,rfl⟩:=Zu hc;refine uj (by simp) hd fun F w hs=>?_
 rcases hE.find hk w k with⟨h1,h2,h3⟩ | ⟨j,e,v,h1,h2,h3,h4⟩
 ·obtain⟨hb,hs2,hx2⟩:=Wz (b:=b) (o:= .map es clock) (o':= .map es clock) hs;refine⟨_,_,_,?_,hx2,hs2,h _ ⟨es,clock,rfl,?_⟩⟩
  ·refine ZR rfl ?_;have hf:=h2;simp[builtin,Builtin.delete_,Sem.run_bind,run_underlying ht,Result.andThen_ok,hx,hi,Go.MapKept.run_getObj_map hb,Key.chk hk,hf,run_setObj_map _ hb,pure,Sem.run]
  ·unfold KA;rw[bA h1,h1];exact hE
 ·obtain⟨hb,hs2,hx2⟩:=Wz (b:=b) (o:= .map es clock) (o':= .map (es.eraseIdxIfInBounds j) clock) hs;have hlt:=(List.getElem?_eq_some_iff.1 h3).1;refine⟨_,_,_,?_,hx2,hs2,h _ ⟨_,clock,rfl,?_⟩⟩
  ·refine ZR rfl ?_;have hf:=h2;simp[builtin,Builtin.delete_,Sem.run_bind,run_underlying ht,Result.andThen_ok,hx,hi,Go.MapKept.run_getObj_map hb,Key.chk hk,hf,run_setObj_map _ hb,pure,Sem.run]
  ·have:(es.eraseIdxIfInBounds j).toList=es.toList.eraseIdx j:=by
    unfold Array.eraseIdxIfInBounds;rw[dif_pos (by simpa using hlt)];simp
   rw[this];unfold KA;rw[h1];exact hE.del h3 h4
/-- m[k] = v, at once -/
theorem rG{t ty0 kt et:TypeId}{x i u:Operand}{b m:Nat}{f:κ→Option ν}{H:List Chunk}[hp:Pick S H G](hM:Mp b f m H)(k:κ)(v:ν)(ht:P.underlying t=some (.map kt et))(hk:Key.ok κ P kt)
 (hx:ev E x= .map (some b)) (hi:ev E i=kv k) (hv:ev E u=vv v)
 (h:∀H',Mp b (wT f k (some v)) (Xq f k m) H'→K (Zk d undef E) (H'::G)):YO P r n d (.raw (.mapUpdate t x i u) ty0) K E S:=by
 obtain⟨es,clock,rfl,hE⟩:=hM;intro op ty pos af g hc hd;obtain⟨rfl,rfl⟩:=Zu hc;refine dF (by simp) hd fun F w hs=>?_
 rcases hE.find hk w k with⟨h1,h2,h3⟩ | ⟨j,e,v',h1,h2,h3,h4⟩
 ·obtain⟨hb,hs2,hx2⟩:=Wz (b:=b) (o:= .map es clock) (o':= .map (es.push {key:=kv k,val:=vv v,born:=clock}) (clock+1)) hs;refine⟨_,_,?_,hx2,hs2,h _ ⟨_,clock+1,rfl,?_⟩⟩
  ·have hf:=h2;simp only[execOp,Instr.mapUpdate,Sem.run_bind,run_underlying ht,Result.andThen_ok,hx,hi,hv,Go.MapKept.run_getObj_map hb,Key.chk hk,hf,run_setObj_map _ hb];simp[pure]
  ·rw[Array.toList_push];unfold Xq;rw[h1];exact hE.push h1 h3
 ·obtain⟨hb,hs2,hx2⟩:=Wz (b:=b) (o:= .map es clock) (o':= .map (es.modify j fun e=>{e with key:=kv k,val:=vv v}) clock) hs;refine⟨_,_,?_,hx2,hs2,h _ ⟨_,clock,rfl,?_⟩⟩
  ·have hf:=h2;have hj:es[j]?=some e:=by rw[←Array.getElem?_toList]; exact h3
   have hkeep:(Instr.keyThatStays (((es[j]?).map (·.key)).getD (kv k)) (kv k)).run P w= .ok (kv k) w:=by
    rw[hj];simp only[Option.map_some,Option.getD_some,h4,Instr.keyThatStays,Key.bits,if_true];rfl
   simp only[execOp,Instr.mapUpdate,Sem.run_bind,run_underlying ht,Result.andThen_ok,hx,hi,hv,Go.MapKept.run_getObj_map hb,Key.chk hk,hf,hkeep,run_setObj_map _ hb];simp[pure]
  ·rw[XD h3];unfold Xq;rw[h1];exact hE.set h3 h4
end Go.Xs
namespace Go.Xs
open Go.ChangeShapes
/-- the world's heap, each object by itself -/
def heapS(w:World):zB:=w.heap.toList.zipIdx.map fun x=>[(x.2,x.1)]
theorem Yg(w:World):(heapS w).flatten=w.heap.toList.zipIdx.map fun x=>(x.2,x.1):=by
 unfold heapS;generalize w.heap.toList.zipIdx=l
 induction l with
 | nil=>rfl
 | cons x l ih=>simp only[List.map_cons,List.flatten_cons,ih]; rfl
theorem YP{w:World}{i:Nat}{o:Obj}(h:w.heap[i]?=some o):[(i,o)]∈heapS w:=by
 refine List.mem_map.2 ⟨(o,i),?_,rfl⟩;rw[List.mem_zipIdx_iff_getElem?];simpa using h
theorem bH(w:World):Sat (heapS w) w:=by
 show Zy _ w;rw[Yg];refine⟨?_,fun x hx=>?_⟩
 ·rw[List.map_map];have:(fun x:Obj × Nat=>(x.2,x.1).1)=Prod.snd:=rfl;show(List.map (fun x:Obj × Nat=>x.2) w.heap.toList.zipIdx).Nodup;rw[show(fun x:Obj × Nat=>x.2)=Prod.snd from rfl,List.zipIdx_map_snd];exact List.nodup_range'
 ·obtain⟨y,hy,rfl⟩:=List.mem_map.1 hx;rw[List.mem_zipIdx_iff_getElem?] at hy;simpa using hy
/-- what a call leaves of the world that it found -/
structure Stays(W W':World):Prop where
 ext:Ext W W'
 same:∀i,i<W.heap.size→W'.heap[i]?=W.heap[i]?
theorem Tri.whole{P:Program}{f:FuncId}{args:Array Value}{W:World}{v:Value}(h:Tri P f args (heapS W) (fun r S=>r=v∧S=heapS W)):
 Calls P f args W (fun e W'=>e= .returned v∧Stays W W'):=by
 refine(h.run [] W (by rw[List.append_nil]; exact bH W)).mono ?_;rintro e W' ⟨hx,_,_,rfl,hs,rfl,rfl⟩;refine⟨rfl,hx,fun i hi=>?_⟩;rw[List.append_nil] at hs;have hm:=YP (w:=W) (i:=i) (o:=W.heap[i]) (by simp[hi]);rw[hs.at_ hm (x:=(i,W.heap[i])) (by simp)];simp[hi]
theorem Stays.frozen{W W':World}(h:Stays W W')(b off:Nat)(hb:b<W.heap.size):W'.frozen? ⟨b,off,none⟩=W.frozen? ⟨b,off,none⟩:=by
 simp only[World.frozen?,h.same b hb]
theorem Stays.kept{W W':World}(h:Stays W W')(may:MemPlace→Prop):W.keptBut W' may:=by
 refine⟨h.ext.os,h.ext.output,fun i hi=>?_⟩;rw[h.same i hi];split
 ·rename_i h1 h2
  rw[h1] at h2;cases h2;exact⟨rfl,rfl,rfl,fun _ _=>rfl⟩
 ·rename_i h1 h2
  rw[h1] at h2;cases h2;exact .inr ⟨rfl,rfl⟩
 ·rfl
/-- the answer of a law: what it found reads as it read -/
theorem Stays.post{H:Type}{enc:TypeId × Value→H}{P:Program}{f:Func}{s:ChangeSpec}{apart fresh handsOn again:Bool}{W W':World}{args:Array Value}{v:Value}{ds gs:List (DataW H)}{before pa pv:List MemPlace}(hl:Stays W W')
 (hW:DataW.Whole enc P f.params.toList s.vars apart W args.toList ds gs before)
 (hres:∀(b:Nat) (sp:Nat→Bool) (hd:Bool),DataW.TrodAll enc P W' b sp hd f.resultTypes.toList (v.resultList f.resultTypes.size) (s.fn H (ds++gs)).results [])
 (hargs:∀sp:Nat→Bool,(∀p∈before,sp p.block=true)→DataW.TrodAll enc P W' 0 sp true f.params.toList args.toList (s.fn H (ds++gs)).args pa)
 (hvars:∀sp:Nat→Bool,(∀p∈before,sp p.block=true)→DataW.TrodVars enc P W' sp s.vars (s.fn H (ds++gs)).vars pv)
 (hps:before=pa++pv)
 (hok:∀(j:Nat) (t:TypeId) (r:Value),f.resultTypes[j]?=some t→(v.resultList f.resultTypes.size)[j]?=some r→Value.okWide P W' .any 0 t r):
 s.post enc P f apart fresh handsOn again W args v W':=by
 have hin:∀p∈before,decide (p.block<W.heap.size)=true:=fun p hp=>decide_eq_true (hW.lt p hp)
 have hsub:∀p,p∈before→p∈[]∨p∈pa∨p∈pv:=fun p hp=> .inr (List.mem_append.1 (hps▸hp))
 obtain⟨_,_,_,_,_,hz,hn⟩:=id hW;refine⟨ds,gs,before,[],pa,pv,hW,hres _ _ _,hargs (fun b=>decide (b<W.heap.size)) hin,hvars (fun b=>decide (b<W.heap.size)) hin,hl.kept _,fun _=>⟨hok,_,_,([]++pa)++pv,⟨[]++pa,pv,trodAll_append (hargs (fun _=>true) (fun _ _=>rfl)) (hres _ _ _),hvars (fun _=>true) (fun _ _=>rfl),rfl,?_,?_⟩,?_⟩⟩
 ·intro b off hp;have hb:MemPlace.cell b off∈before:=by rw[hps]; exact hp
  rw[hl.frozen b off (hW.lt _ hb)];exact hz b off hb
 ·intro ha;have:=hn ha
  rwa [hps] at this
 ·intro p hp _
  rwa [hps]
end Go.Xs
namespace Go.Xs
open Go.ChangeShapes Go.WideShapes
section
variable {H:Type} {en:TypeId × Value→H} {P:Program} {W W':World}
theorem Stays.sameAt(hl:Stays W W'){p:MemPlace}(hp:p.block<W.heap.size):W.sameAt W' p:=by
 cases p with
 | cell b off=>
  show W'.cell? _=W.cell? _;simp only[World.cell?,hl.same b hp]
 | map b=>exact hl.same b hp
theorem Uj(hl:Stays W W'){T:TypeId→Prop}(K:Kids P T)(hsz:∀{t e:TypeId},T t→P.underlying t=some (.slice e)→0<P.cellsOf e):
 ∀{ts:List TypeId} {vs:List Value} {ds:List (DataW H)} {ps:List MemPlace},(∀t∈ts,T t)→DataW.TrodAll en P W 0 (fun _=>true) true ts vs ds ps→(∀p∈ps,p.block<W.heap.size)→
  ∀sp:Nat→Bool,(∀p∈ps,sp p.block=true)→DataW.TrodAll en P W' 0 sp true ts vs ds ps
 | [],_,_,_,_,h,_,sp,_=>by
  obtain⟨rfl,rfl,rfl⟩:=trodAll_nil h;rfl
 | t::ts,_,_,_,hT,h,hlt,sp,hsp=>by
  obtain⟨v,vs1,d,ds1,a,b,rfl,rfl,rfl,⟨fuel,h1⟩,h2⟩:=trodAll_cons h;refine⟨a,b,⟨fuel,?_⟩,?_,rfl⟩
  ·exact DataW.trod_stays K hsz (fun h=>by cases h) (hT t (by simp)) h1 (fun p hp=>hl.sameAt (hlt p (List.mem_append.2 (.inl hp)))) (fun p hp=>hsp p (List.mem_append.2 (.inl hp)))
  ·exact Uj hl K hsz (fun t ht=>hT t (List.mem_cons_of_mem _ ht)) h2 (fun p hp=>hlt p (List.mem_append.2 (.inr hp))) sp (fun p hp=>hsp p (List.mem_append.2 (.inr hp)))
/-- the answer of a law -/
theorem Stays.law{f:Func}{s:ChangeSpec}{apart fresh handsOn again:Bool}{args:Array Value}{v:Value}{ds:List (DataW H)}{before:List MemPlace}(hl:Stays W W'){T:TypeId→Prop}(K:Kids P T)
 (hsz:∀{t e:TypeId},T t→P.underlying t=some (.slice e)→0<P.cellsOf e) (hT:∀t∈f.params.toList,T t)
 (hW:DataW.Whole en P f.params.toList s.vars apart W args.toList ds [] before) (hv:s.vars=[]) (ha:(s.fn H (ds++[])).args=ds) (hg:(s.fn H (ds++[])).vars=[])
 (hres:∀(b:Nat) (sp:Nat→Bool) (hd:Bool),DataW.TrodAll en P W' b sp hd f.resultTypes.toList (v.resultList f.resultTypes.size) (s.fn H (ds++[])).results [])
 (hok:∀(j:Nat) (t:TypeId) (r:Value),f.resultTypes[j]?=some t→(v.resultList f.resultTypes.size)[j]?=some r→Value.okWide P W' .any 0 t r):
 s.post en P f apart fresh handsOn again W args v W':=by
 have hW':=hW;have hlt:∀p∈before,p.block<W.heap.size:=fun p hp=>hW.lt p hp
 obtain⟨p,q,hA,hV,rfl,hz,hn⟩:=hW;have hq:q=[]:=by
  rw[hv] at hV;exact hV
 subst hq;refine hl.post (pa:=p) (pv:=[]) hW' hres (fun sp hsp=>?_) (fun sp _=>?_) rfl hok
 ·rw[ha];exact Uj hl K hsz hT hA (fun x hx=>hlt x (by simpa using hx)) sp (fun x hx=>hsp x (by simpa using hx))
 ·rw[hg,hv];rfl
/-- a slice that is an argument may be read as a list -/
theorem gX{α:Type}[Enc α]{Q:α→Prop}{t e:TypeId}{v:Value}{d:DataW H}{ps:List MemPlace}{sp:Nat→Bool}(ht:P.underlying t=some (.slice e))(hc:P.cellsOf e=Enc.k α)(hk:0<Enc.k α)
 (hel:∀n cs x,DataW.trod en P W 0 sp true n e cs=some x→∃a:α,cs=Enc.enc a∧Q a)
 (hv:∃a len cap,v= .slice a len cap) (h:DataW.Trod en P W 0 sp true t v d ps):∃L:List α,Src (heapS W) v L∧L.length≤maxLen∧∀a∈L,Q a:=by
 obtain⟨a0,l0,c0,rfl⟩:=hv;obtain⟨fuel,hf⟩:=h;rcases DataW.trod_slice ht hf with⟨hcs,_⟩ | ⟨a,len,cap,elems,rest,n,_,hcs,_,_,hl,hm,hlen,helm,hs1,hs2⟩
 ·simp[Value.cells] at hcs;obtain⟨rfl,rfl,rfl⟩:=hcs;exact⟨[],.nil,Nat.zero_le _,by simp⟩
 simp[Value.cells] at hcs;obtain⟨rfl,rfl,rfl⟩:=hcs;have each:∀i,i<l0→∃x:α,W.cells? 0 (a.add (i*Enc.k α)) (Enc.k α)=some (Enc.enc x)∧Q x:=by
  intro i hi;have h1:=helm i hi;rw[List.getElem?_eq_getElem (by omega),hc,Option.bind_eq_some_iff] at h1;obtain⟨cs,h2,h3⟩:=h1;obtain⟨x,rfl,hx⟩:=hel _ _ _ h3;exact⟨x,h2,hx⟩
 obtain⟨L,hL,hcell,hQ⟩:∃L:List α,L.length=l0∧(∀i (hi:i<L.length),W.cells? 0 (a.add (i*Enc.k α)) (Enc.k α)=some (Enc.enc L[i]))∧∀x∈L,Q x:=by
  clear helm hs1 hs2 hlen hf hl
  induction l0 with
  | zero=>exact⟨[],rfl,by simp,by simp⟩
  | succ m ih=>
   obtain⟨L,h1,h2,h3⟩:=ih (fun i hi=>each i (by omega));obtain⟨x,hx,hq⟩:=each m (by omega);refine⟨L++[x],by simp[h1],fun i hi=>?_,fun y hy=>?_⟩
   ·by_cases him:i<L.length
    ·rw[List.getElem_append_left him]; exact h2 i him
    ·have:i=m:=by simp at hi; omega
     subst this;rw[hx]; congr 2;rw[List.getElem_append_right (by omega)]; simp[h1]
   ·rcases List.mem_append.1 hy with hy | hy
    ·exact h3 y hy
    ·rw[List.mem_singleton.1 hy]; exact hq
 rcases Nat.eq_zero_or_pos l0 with h0 | h0
 ·subst h0;obtain rfl:=List.length_eq_zero_iff.1 hL;exact⟨[],.nil,Nat.zero_le _,by simp⟩
 -- the row
 have hadd:∀i j,j<Enc.k α→(a.add (i*Enc.k α)).add j=a.add (i*Enc.k α+j):=by
  intro i j hj;unfold Addr.add;by_cases h1:i*Enc.k α=0
  ·rw[if_pos h1,h1,Nat.zero_add]
  ·rw[if_neg h1];by_cases h2:j=0
   ·subst h2; simp[h1]
   ·rw[if_neg h2,if_neg (by omega)];simp[Nat.add_assoc]
 have hget:∀i j (hi:i<L.length),j<Enc.k α→W.cell? (a.add (i*Enc.k α+j))=(Enc.enc L[i])[j]?:=by
  intro i j hi hj;have:=(World.cells?_some (hcell i hi)).2.2 j hj;rw[hadd i j hj] at this;exact this
 obtain⟨b,o,s⟩:=a;have h00:=hget 0 0 (by omega) hk;simp only[Nat.zero_mul,Nat.add_zero,Addr.add,if_true] at h00;have hsome:(Enc.enc L[0])[0]?=some ((Enc.enc L[0])[0]'(by rw[Enc.len]; exact hk)):=List.getElem?_eq_getElem _;rw[hsome] at h00;simp only[World.cell?] at h00;split at h00
 ·rename_i c ty fz hb
  have hs:s=none:=by
   cases s with
   | none=>rfl
   | some x=>simp at h00
  subst hs;refine⟨L,?_,by omega,hQ⟩;rw[←hL];refine .part (ty:=ty) (fz:=fz) (c:=c) (YP hb) ?_;have hcl:∀i j (hi:i<L.length),j<Enc.k α→c.toList[o+(i*Enc.k α+j)]?=(cells L)[i*Enc.k α+j]?:=by
   intro i j hi hj;have h1:=hget i j hi hj;rw[add_plain,cellOf hb] at h1;rw[uf L i j hi hj, ←h1];simp
  have hcells:∀m,m<L.length*Enc.k α→c.toList[o+m]?=(cells L)[m]?:=by
   intro m hm;have h1:=hcl (m/Enc.k α) (m%Enc.k α) ((Nat.div_lt_iff_lt_mul hk).2 hm) (Nat.mod_lt _ hk)
   rwa [show m/Enc.k α*Enc.k α+m%Enc.k α=m from by rw[Nat.mul_comm]; exact Nat.div_add_mod m _] at h1
  apply List.ext_getElem?;intro m;by_cases hm:m<L.length*Enc.k α
  ·rw[List.getElem?_take_of_lt hm,List.getElem?_drop]; exact hcells m hm
  ·rw[List.getElem?_eq_none (by rw[List.length_take]; omega),List.getElem?_eq_none (by rw[zJ]; omega)]
 ·cases h00
end
end Go.Xs
