/- Names by their labels, plainly. -/
import Derived.Test.YtejmbmenbailmaaGreatP1
import Derived.Test.YtejmbmenbailmaaGreatL0
import Derived.Test.YtejmbmenbailmaaGreatB4
namespace Go.Proofs.YtejmbmenbailmaaGreat
open Go.Xs
open Enc (enc)
theorem iq:∀{f:Nat} {Y:Bs} {a n:Nat},Un f Y a=(n,true)→Un (f+1) Y a=(n,true)
 | 0,Y,a,n,h=>by cases h
 | f+1,Y,a,n,h=>by
  unfold Un at h ⊢;cases hy:Y[a]? with
  | none=>rw[hy] at h; cases h
  | some b=>
   rw[hy] at h;simp only at h ⊢;split at h
   ·cases h
   ·next h1=>
    rw[if_neg h1];split at h
    ·next h2=>rw[if_pos h2]; exact h
    ·next h2=>
     rw[if_neg h2];split at h
     ·cases h
     ·next h3=>rw[if_neg h3]; exact iq h
theorem J4:∀{f:Nat} {Y:Bs} {a k n:Nat},Un f Y (a+k)=(n,true)→Un f (Y.drop k) a=(n-k,true)
 | 0,Y,a,k,n,h=>by cases h
 | f+1,Y,a,k,n,h=>by
  unfold Un at h ⊢;rw[List.getElem?_drop,Nat.add_comm k a];cases hy:Y[a+k]? with
  | none=>rw[hy] at h; cases h
  | some b=>
   rw[hy] at h;simp only at h ⊢;split at h
   ·cases h
   ·next h1=>
    rw[if_neg (by omega)];split at h
    ·next h2=>
     rw[if_pos h2];have:=congrArg Prod.fst h;simp only at this;rw[←this];congr 1;omega
    ·next h2=>
     rw[if_neg h2];split at h
     ·cases h
     ·next h3=>
      rw[if_neg h3];refine J4 ?_;rw[←h];congr 1;omega
theorem Qb{Y:Bs}:wR Y=true↔Un 256 Y 0=(Y.length,true):=by
 unfold wR lead;rw[Bool.and_eq_true,beq_iff_eq];constructor
 ·rintro⟨h1,h2⟩;exact Prod.ext h2 h1
 ·intro h;rw[h];exact⟨rfl,rfl⟩
theorem dL{b:UInt8}{r:Bs}(h:wR (b::r)=true):(b.toNat=0∧r=[])∨(1≤b.toNat∧b.toNat≤63∧b.toNat<r.length∧wR (r.drop b.toNat)=true):=by
 rw[Qb] at h;have h0:=h;rw[show(256:Nat)=255+1 from rfl,J3 (b:=b) rfl (by decide)] at h;by_cases hb:b.toNat=0
 ·rw[if_pos hb] at h;have:=congrArg Prod.fst h;simp at this;exact .inl ⟨hb,this⟩
 ·rw[if_neg hb] at h;by_cases h63:63<b.toNat
  ·rw[if_pos h63] at h; cases h
  ·rw[if_neg h63] at h;right;have hbd:=X9 _ _ _ _ h;rw[List.length_cons] at hbd h;refine⟨by omega,by omega,by omega,?_⟩;have h2:Un 255 (b::r) (0+(1+b.toNat))=(r.length+1,true):=by rw[←h]; congr 1; omega
   have h3:=J4 h2;have e:(b::r).drop (1+b.toNat)=r.drop b.toNat:=by rw[Nat.add_comm]; rfl
   rw[e] at h3;rw[Qb,iq h3,List.length_drop];congr 1;omega
/-- the labels -/
def XE:Nat→Bs→List Bs
 | 0,_=>[]
 | _+1,[]=>[]
 | f+1,b::r=>if b.toNat=0 then [] else r.take b.toNat::XE f (r.drop b.toNat)
def yS(Y:Bs):List Bs:=XE Y.length Y
theorem Xa:∀{f:Nat} {Y:Bs},Y.length≤f→XE f Y=yS Y
 | 0,Y,h=>by
  have:Y=[]:=List.eq_nil_of_length_eq_zero (by omega);subst this; rfl
 | f+1,[],_=>rfl
 | f+1,b::r,h=>by
  rw[List.length_cons] at h;unfold yS;rw[List.length_cons,XE,XE];split
  ·rfl
  ·rw[Xa (f:=f) (by rw[List.length_drop]; omega),Xa (f:=r.length) (by rw[List.length_drop]; omega)]
theorem aZ{b:UInt8}{r:Bs}(h:b.toNat≠0):yS (b::r)=r.take b.toNat::yS (r.drop b.toNat):=by
 unfold yS;rw[List.length_cons,XE,if_neg h];rw[Xa (by rw[List.length_drop]; omega)];rfl
theorem aY:yS [0]=[]:=rfl
/-- as they stand in the order: the last one first, in small letters -/
def XD(Y:Bs):List Bs:=if wR Y=true then yS Y else []
def wF(Y:Bs):List Bs:=((XD Y).map (List.map low)).reverse
/-! ### the order of texts, and of lists of them -/
def Ec(a b:Bs):Bool:=Op.bytesLess a b
theorem gV(a b:UInt8)(x y:Bs):Ec (a::x) (b::y)=(decide (a<b) || (a==b && Ec x y)):=rfl
theorem xW(a b:UInt8):a<b∨a=b∨b<a:=by
 rcases Nat.lt_trichotomy a.toNat b.toNat with h | h | h
 ·exact .inl (UInt8.lt_iff_toNat_lt.2 h)
 ·exact .inr (.inl (UInt8.toNat_inj.1 h))
 ·exact .inr (.inr (UInt8.lt_iff_toNat_lt.2 h))
/-- three ways to stand to each other -/
def wz:Bs→Bs→Int
 | [],[]=>0
 | [],_::_=> -1
 | _::_,[]=>1
 | a::x,b::y=>if a<b then-1 else if b<a then 1 else wz x y
theorem KU:∀a b:Bs,Ec a b=decide (wz a b<0)
 | [],[]=>rfl
 | [],_::_=>rfl
 | _::_,[]=>rfl
 | a::x,b::y=>by
  rw[gV,wz];rcases xW a b with h | h | h
  ·rw[if_pos h,decide_eq_true h]; rfl
  ·subst h;have hn:¬a<a:=by rw[UInt8.lt_iff_toNat_lt]; omega
   rw[if_neg hn,if_neg hn,decide_eq_false hn,KU x y];simp
  ·have hn:¬a<b:=by rw[UInt8.lt_iff_toNat_lt] at h ⊢; omega
   have hne:(a==b)=false:=by
    rw[beq_eq_false_iff_ne];intro e; subst e; exact hn h
   rw[if_neg hn,if_pos h,decide_eq_false hn,hne]; rfl
theorem Vz:∀a b:Bs,wz a b=0↔a=b
 | [],[]=>by simp[wz]
 | [],_::_=>by simp[wz]
 | _::_,[]=>by simp[wz]
 | a::x,b::y=>by
  rw[wz];rcases xW a b with h | h | h
  ·rw[if_pos h];have hne:a≠b:=fun e=>by subst e; rw[UInt8.lt_iff_toNat_lt] at h; omega
   simp[hne]
  ·subst h;have hn:¬a<a:=by rw[UInt8.lt_iff_toNat_lt]; omega
   rw[if_neg hn,if_neg hn,Vz x y];simp
  ·have hn:¬a<b:=by rw[UInt8.lt_iff_toNat_lt] at h ⊢; omega
   have hne:a≠b:=fun e=>by subst e; exact hn h
   rw[if_neg hn,if_pos h];simp[hne]
theorem Yd:∀a b:Bs,wz b a= -wz a b
 | [],[]=>rfl
 | [],_::_=>rfl
 | _::_,[]=>rfl
 | a::x,b::y=>by
  rw[wz,wz];rcases xW a b with h | h | h
  ·have hn:¬b<a:=by rw[UInt8.lt_iff_toNat_lt] at h ⊢; omega
   rw[if_neg hn,if_pos h,if_pos h]; rfl
  ·subst h;have hn:¬a<a:=by rw[UInt8.lt_iff_toNat_lt]; omega
   rw[if_neg hn,if_neg hn,if_neg hn,if_neg hn,Yd x y]
  ·have hn:¬a<b:=by rw[UInt8.lt_iff_toNat_lt] at h ⊢; omega
   rw[if_pos h,if_neg hn,if_pos h]
/-- a comparison of three ways, as it should be -/
structure C3{α:Type}(c:α→α→Int):Prop where
 rev:∀a b,c b a= -c a b
 eq:∀a b,c a b=0↔a=b
 tr:∀a b d,c a b≤0→c b d≤0→c a d≤0
theorem QY:∀a b d:Bs,wz a b≤0→wz b d≤0→wz a d≤0
 | [],_,[],_,_=>by simp[wz]
 | [],_,_::_,_,_=>by simp[wz]
 | _::_,[],_,h,_=>by simp[wz] at h
 | _::_,_::_,[],_,h=>by simp[wz] at h
 | a::x,b::y,d::z,h1,h2=>by
  rw[wz] at h1 h2 ⊢;rcases xW a b with p | p | p
  ·rcases xW b d with q | q | q
   ·rw[if_pos (by rw[UInt8.lt_iff_toNat_lt] at*; omega)]; decide
   ·subst q; rw[if_pos p]; decide
   ·have hn:¬b<d:=by rw[UInt8.lt_iff_toNat_lt] at q ⊢; omega
    rw[if_neg hn,if_pos q] at h2;exact absurd h2 (by decide)
  ·subst p;have hn:¬a<a:=by rw[UInt8.lt_iff_toNat_lt]; omega
   rw[if_neg hn,if_neg hn] at h1;rcases xW a d with q | q | q
   ·rw[if_pos q]; decide
   ·subst q;rw[if_neg hn,if_neg hn] at h2 ⊢;exact QY x y z h1 h2
   ·have hn2:¬a<d:=by rw[UInt8.lt_iff_toNat_lt] at q ⊢; omega
    rw[if_neg hn2,if_pos q] at h2;exact absurd h2 (by decide)
  ·have hn:¬a<b:=by rw[UInt8.lt_iff_toNat_lt] at p ⊢; omega
   rw[if_neg hn,if_pos p] at h1;exact absurd h1 (by decide)
/-- lists, by their elements -/
def cmpL:List Bs→List Bs→Int
 | [],[]=>0
 | [],_::_=> -1
 | _::_,[]=>1
 | a::x,b::y=>if wz a b≠0 then wz a b else cmpL x y
theorem sM:C3 cmpL:=by
 have rev:∀a b,cmpL b a= -cmpL a b:=by
  intro a
  induction a with
  | nil=>intro b; cases b<;>rfl
  | cons a x ih=>
   intro b;cases b with
   | nil=>rfl
   | cons b y=>
    rw[cmpL,cmpL,Yd a b];by_cases h:wz a b=0
    ·rw[if_neg (by omega),if_neg (by omega),ih y]
    ·rw[if_pos (by omega),if_pos h]
 have eq:∀a b,cmpL a b=0↔a=b:=by
  intro a
  induction a with
  | nil=>intro b; cases b<;>simp[cmpL]
  | cons a x ih=>
   intro b;cases b with
   | nil=>simp[cmpL]
   | cons b y=>
    rw[cmpL];by_cases h:wz a b=0
    ·rw[if_neg (by omega),ih y,(Vz a b).1 h];simp
    ·rw[if_pos h];have hne:a≠b:=fun e=>h ((Vz a b).2 e)
     simp[h,hne]
 refine⟨rev,eq,?_⟩;intro a
 induction a with
 | nil=>
  intro b d h1 h2;cases d<;>simp[cmpL]
 | cons a x ih=>
  intro b d h1 h2;cases b with
  | nil=>simp[cmpL] at h1
  | cons b y=>
   cases d with
   | nil=>simp[cmpL] at h2
   | cons d z=>
    rw[cmpL] at h1 h2 ⊢;by_cases p:wz a b=0
    ·rw[if_neg (by omega)] at h1;obtain rfl:=(Vz a b).1 p;by_cases q:wz a d=0
     ·rw[if_neg (by omega)] at h2 ⊢;exact ih y z h1 h2
     ·rw[if_pos q] at h2 ⊢;exact h2
    ·rw[if_pos p] at h1;by_cases q:wz b d=0
     ·obtain rfl:=(Vz b d).1 q;rw[if_pos p];exact h1
     ·rw[if_pos q] at h2;have h3:=QY a b d h1 h2;by_cases s:wz a d=0
      ·exfalso;obtain rfl:=(Vz a d).1 s;have:=Yd a b;omega
      ·rw[if_pos s]; exact h3
/-- keys: by their names' order, then by their types -/
def oD(a b:Ky):Prop:=cmpL (wF a.n) (wF b.n)<0∨(cmpL (wF a.n) (wF b.n)=0∧a.t<b.t)
theorem Ht:Wk oD where
 irr a h:=by
  have:=(sM.eq (wF a.n) (wF a.n)).2 rfl;rcases h with h | h<;>omega
 asymm a b h k:=by
  have:=sM.rev (wF a.n) (wF b.n);rcases h with h | h<;>rcases k with k | k<;>omega
 tr a b c h k:=by
  unfold oD at*
  have r1:=sM.rev (wF a.n) (wF b.n);have r2:=sM.rev (wF b.n) (wF c.n);have r3:=sM.rev (wF a.n) (wF c.n);have t1:=sM.tr (wF c.n) (wF b.n) (wF a.n) (by omega) (by omega);intro q;rcases q with q | ⟨q,q2⟩
  ·omega
  ·have e1:=(sM.eq _ _).1 q;rw[e1] at r1 h;have:cmpL (wF b.n) (wF c.n)=0:=by omega
   rw[r2] at*
   omega
end Go.Proofs.YtejmbmenbailmaaGreat