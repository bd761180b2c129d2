/- Names by their labels, plainly. -/
import Derived.Test.YtekgciopamkjlaaGreatP1
import Derived.Test.YtekgciopamkjlaaGreatL0
import Derived.Test.YtekgciopamkjlaaGreatB4
namespace Go.Proofs.YtekgciopamkjlaaGreat
open Go.Xs
open Enc (enc)
theorem bL:∀{f:Nat} {Y:Bs} {a n:Nat},Ua f Y a=(n,true)→Ua (f+1) Y a=(n,true)
 | 0,Y,a,n,h=>by cases h
 | f+1,Y,a,n,h=>by
  unfold Ua at h ⊢;cases hy:Y[a]? with
  | none=>rw[hy] at h; cases h
  | some b=>
   rw[hy] at h;simp only at h ⊢;split at h
   ·cases h
   ·next h1=>
    rw[if_neg h1];split at h
    ·next h2=>rw[if_pos h2]; exact h
    ·next h2=>
     rw[if_neg h2];split at h
     ·cases h
     ·next h3=>rw[if_neg h3]; exact bL h
theorem Qs:∀{f:Nat} {Y:Bs} {a k n:Nat},Ua f Y (a+k)=(n,true)→Ua f (Y.drop k) a=(n-k,true)
 | 0,Y,a,k,n,h=>by cases h
 | f+1,Y,a,k,n,h=>by
  unfold Ua at h ⊢;rw[List.getElem?_drop,Nat.add_comm k a];cases hy:Y[a+k]? with
  | none=>rw[hy] at h; cases h
  | some b=>
   rw[hy] at h;simp only at h ⊢;split at h
   ·cases h
   ·next h1=>
    rw[if_neg (by omega)];split at h
    ·next h2=>
     rw[if_pos h2];have:=congrArg Prod.fst h;simp only at this;rw[←this];congr 1;omega
    ·next h2=>
     rw[if_neg h2];split at h
     ·cases h
     ·next h3=>
      rw[if_neg h3];refine Qs ?_;rw[←h];congr 1;omega
theorem J2{Y:Bs}:wm Y=true↔Ua 256 Y 0=(Y.length,true):=by
 unfold wm lead;rw[Bool.and_eq_true,beq_iff_eq];constructor
 ·rintro⟨h1,h2⟩;exact Prod.ext h2 h1
 ·intro h;rw[h];exact⟨rfl,rfl⟩
theorem nC{b:UInt8}{r:Bs}(h:wm (b::r)=true):(b.toNat=0∧r=[])∨(1≤b.toNat∧b.toNat≤63∧b.toNat<r.length∧wm (r.drop b.toNat)=true):=by
 rw[J2] at h;have h0:=h;rw[show(256:Nat)=255+1 from rfl,XJ (b:=b) rfl (by decide)] at h;by_cases hb:b.toNat=0
 ·rw[if_pos hb] at h;have:=congrArg Prod.fst h;simp at this;exact .inl ⟨hb,this⟩
 ·rw[if_neg hb] at h;by_cases h63:63<b.toNat
  ·rw[if_pos h63] at h; cases h
  ·rw[if_neg h63] at h;right;have hbd:=Xc _ _ _ _ h;rw[List.length_cons] at hbd h;refine⟨by omega,by omega,by omega,?_⟩;have h2:Ua 255 (b::r) (0+(1+b.toNat))=(r.length+1,true):=by rw[←h]; congr 1; omega
   have h3:=Qs h2;have e:(b::r).drop (1+b.toNat)=r.drop b.toNat:=by rw[Nat.add_comm]; rfl
   rw[e] at h3;rw[J2,bL h3,List.length_drop];congr 1;omega
/-! ### the order of texts, and of lists of them -/
/-- a comparison of three ways, as it should be -/
structure C3{α:Type}(c:α→α→Int):Prop where
 rev:∀a b,c b a= -c a b
 eq:∀a b,c a b=0↔a=b
 tr:∀a b d,c a b≤0→c b d≤0→c a d≤0
end Go.Proofs.YtekgciopamkjlaaGreat