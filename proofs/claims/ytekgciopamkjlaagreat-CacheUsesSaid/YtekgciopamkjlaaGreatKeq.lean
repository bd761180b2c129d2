/- freshetalike: two lists of keys. -/
import Derived.Test.YtekgciopamkjlaaGreatL1
import Derived.Test.YtekgciopamkjlaaGreatL0
import Derived.Test.YtekgciopamkjlaaGreatFAlk
namespace Go.Proofs.YtekgciopamkjlaaGreat
open Go.Xs
open Enc (enc)
theorem tX{u v:Value}{A B:List Ky}{H G:List Chunk}(hA:Zg 43 u A H)(hB:Zg 43 v B G)(hl:A.length<2 ^ 40):Tri Tryz.prog 45 #[u,v] [H,G] (fun r S'=>r= .bool (decide (A=B))∧S'=[H,G]):=by
 refine Tri.forget (zq Tryz.SK (Nat.le_of_ble_eq_true rfl) ?_);unfold Tryz.x45;obtain⟨a,c,rfl⟩:=hA.isSlice;obtain⟨a',c',rfl⟩:=hB.isSlice;refine ze (z8 (yp pC (zf (za (ze (ze (z8 (yp (pS rfl) (yp (Zp rfl) (yp (pS rfl) (yp (Zp rfl) (yp (WU rfl rfl) (zf (za ?_))))))))))))));refine wV rfl (fun h=>?_) (fun h=>?_)
 ·refine ze (z8 (yp pC (zf (za (zJ (zV ?_))))));refine zI (rB rfl) ⟨_,.of,?_,rfl⟩;rw[decide_eq_false];intro e; subst e; exact h rfl
 have hlen:A.length=B.length:=by omega
 refine zl (za (ze (ze (z8 (yp pC (zf (za (zu ?_))))))));refine Z7 (σ:=Nat) (fun i E S'=>Has E [(0,.slice a A.length c),(1,.slice a' B.length c'),(5,.int .i64 i)]∧i≤A.length∧A.take i=B.take i∧S'=[H,G]) (fun i=>A.length-i) 0 ⟨⟨rfl,rfl,rfl,trivial⟩,Nat.zero_le _,by simp,rfl⟩ fun i E S' ⟨hE,hi,he,hS⟩=>?_
 subst hS;obtain⟨E0,e0⟩:=zm hE; subst e0; clear hE;refine ze (ze (z8 (yp (pI rfl) (yp (pS rfl) (yp (Zp rfl) (yp (ZE rfl rfl) (zf (za ?_))))))));refine zR rfl (fun h=>?_) (fun h=>?_)
 ·have hlt:i<A.length:=by omega
  have hlt':i<B.length:=by omega
  obtain⟨b,sp,fz2,hz,rfl,_,rfl,rfl⟩:=hA.at' (by intro h; simp[h] at hlt);obtain⟨b',sp',fz2',hz',rfl,_,rfl,rfl⟩:=hB.at' (by intro h; simp[h] at hlt');refine zl (za (ze (zu (ze (Z6 (zi (pS rfl) (zi (pI rfl) (zi (zT rfl rfl (by omega)) (Vm (l:=enc A[i]) rfl (wY hlt rfl) rfl (zi (pS rfl) (zi (pI rfl) (zi (zT rfl rfl (by omega)) (Vm (l:=enc B[i]) rfl (wY hlt' rfl) rfl (zi (Rv (a:=A[i]) (b:=B[i]) rfl rfl) ?_))))))))))))));by_cases h2:A[i]=B[i]
  ·rw[decide_eq_true h2];refine zH (za (zo rfl (zl (zW (za (z8 (yp (pI rfl) (yp (Z8 rfl rfl (by omega)) (yp (pI rfl) (zf (za ?_)))))))))));refine⟨i+1,⟨⟨rfl,rfl,rfl,trivial⟩,by omega,?_,rfl⟩,by omega⟩;rw[List.take_succ_eq_append_getElem hlt,List.take_succ_eq_append_getElem hlt',he,h2]
  ·rw[decide_eq_false h2];refine zH (za (zC rfl (ze (z8 (yp pC (zf (za (zJ (bret (zV (zV (bret (zV ?_)))))))))))));refine zI (rB rfl) ⟨_,.of,?_,rfl⟩;rw[decide_eq_false];intro e; subst e; exact h2 rfl
 ·refine zZ (zA (zA (Z0 (za (ze (z8 (yp pC (zf (za (zJ ?_))))))))));refine zI (rB rfl) ⟨_,.of,?_,rfl⟩;rw[decide_eq_true];rw[List.take_of_length_le (by omega),List.take_of_length_le (by omega)] at he;exact he
end Go.Proofs.YtekgciopamkjlaaGreat