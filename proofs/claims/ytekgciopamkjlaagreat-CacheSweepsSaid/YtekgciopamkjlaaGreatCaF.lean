/- freshetalike: two lists of numbers; a name without its first label; lists of one number in order. -/
import Derived.Test.YtekgciopamkjlaaGreatCaN
import Derived.Test.YtekgciopamkjlaaGreatNamesL
import Derived.Test.YtekgciopamkjlaaGreatFSort
import Derived.Test.YtekgciopamkjlaaGreatFSortI
import Derived.Test.YtekgciopamkjlaaGreatB5
namespace Go.Proofs.YtekgciopamkjlaaGreat
open Go.Xs
open Enc (enc)
theorem gP{u v:Value}{A B:List Int}{S:zL}(hA:Src S u A)(hB:Src S v B)(hl:A.length<2 ^ 40):Tri Tryz.prog 37 #[u,v] S (fun r S'=>r= .bool (decide (A=B))∧S'=S):=by
 refine Tri.forget (zq Tryz.SV (Nat.le_of_ble_eq_true rfl) ?_);unfold Tryz.x37;obtain⟨a,c,rfl⟩:=hA.isSlice;obtain⟨a',c',rfl⟩:=hB.isSlice;refine ze (z8 (yp pC (zf (za (ze (ze (z8 (yp (pS rfl) (yp (Zp rfl) (yp (pS rfl) (yp (Zp rfl) (yp (WU rfl rfl) (zf (za ?_))))))))))))));refine wV rfl (fun h=>?_) (fun h=>?_)
 ·refine ze (z8 (yp pC (zf (za (zJ (zV ?_))))));refine zI (rB rfl) ⟨_,.of,?_,rfl⟩;rw[decide_eq_false];intro e; subst e; exact h rfl
 have hlen:A.length=B.length:=by omega
 refine zl (za (ze (ze (z8 (yp pC (zf (za (zu ?_))))))));refine Z7 (σ:=Nat) (fun i E S'=>Has E [(0,.slice a A.length c),(1,.slice a' B.length c'),(5,.int .i64 i)]∧i≤A.length∧A.take i=B.take i∧zG S' S) (fun i=>A.length-i) 0 ⟨⟨rfl,rfl,rfl,trivial⟩,Nat.zero_le _,by simp,.of⟩ fun i E S' ⟨hE,hi,he,hJ⟩=>?_
 obtain⟨E0,e0⟩:=zm hE; subst e0; clear hE;refine zn hJ (ze (ze (z8 (yp (pI rfl) (yp (pS rfl) (yp (Zp rfl) (yp (ZE rfl rfl) (zf (za ?_)))))))));refine zR rfl (fun h=>?_) (fun h=>?_)
 ·have hlt:i<A.length:=by omega
  have hlt':i<B.length:=by omega
  obtain⟨b,o,ca,ty,fz,rfl,hm1,hmem,hg⟩:=hA.get (by intro h; simp[h] at hlt);obtain⟨b2,o2,ca2,ty2,fz2,rfl,hm2,hmem2,hg2⟩:=hB.get (by intro h; simp[h] at hlt');have hg0:=hg.1 i 0 hlt (by decide);have hg20:=hg2.1 i 0 hlt' (by decide);refine zl (za (ze (zu (ze (Z6 (zi (pS rfl) (zi (pI rfl) (zi (zT rfl rfl (by omega)) (iw hmem rfl hg0 (zi (pS rfl) (zi (pI rfl) (zi (zT rfl rfl (by omega)) (iw hmem2 rfl hg20 (zi (WU rfl rfl) (zH (za ?_))))))))))))))));by_cases h2:A[i]=B[i]
  ·rw[decide_eq_true h2];refine zo rfl (zl (zW (za (z8 (yp (pI rfl) (yp (Z8 rfl rfl (by omega)) (yp (pI rfl) (zf (za ?_)))))))));refine⟨i+1,⟨⟨rfl,rfl,rfl,trivial⟩,by omega,?_,.of⟩,by omega⟩;rw[List.take_succ_eq_append_getElem hlt,List.take_succ_eq_append_getElem hlt',he,h2]
  ·rw[decide_eq_false h2];refine zC rfl (ze (z8 (yp pC (zf (za (zJ (bret (zV (zV (bret (zV ?_)))))))))));refine zI (rB rfl) ⟨_,.of,?_,rfl⟩;rw[decide_eq_false];intro e; subst e; exact h2 rfl
 ·refine zZ (zA (zA (Z0 (za (ze (z8 (yp pC (zf (za (zJ ?_))))))))));refine zI (rB rfl) ⟨_,.of,?_,rfl⟩;rw[decide_eq_true];rw[List.take_of_length_le (by omega),List.take_of_length_le (by omega)] at he;exact he
theorem iC{n:Bs}(h:wm n=true):∃b r,n=b::r∧1+b.toNat≤n.length:=by
 cases n with
 | nil=>cases h
 | cons b r=>
  refine⟨b,r,rfl,?_⟩;rcases nC h with⟨h1,h2⟩ | ⟨h1,h2,h3,_⟩
  ·rw[h1,h2]; exact Nat.le_refl 1
  ·rw[List.length_cons]; omega
theorem rz(n:Bs)(hn:n.length<2 ^ 62):Tri Tryz.prog 90 #[sv n] [] (fun r S=>r=sv (par n)∧S=[]):=by
 refine Tri.forget (zq Tryz.RL (Nat.le_of_ble_eq_true rfl) ?_);unfold Tryz.x90;unfold par;refine ze (z8 (yp pC (zf (za (ze (ze (z8 (yp (pT rfl) ?_))))))));refine zh (zk (VG n hn) rfl rfl fun r S' h=>?_);obtain⟨rfl,rfl⟩:=h;cases hv:wm n with
 | false=>
  rw[if_neg (by simp)];refine yp (Za rfl) (yp (pB rfl) (zP rfl (zP rfl (yp (zw rfl rfl) (zf (za (zC rfl (ze (z8 (yp pC (zf (za (zJ (zV ?_))))))))))))));exact zI (res1 rfl) ⟨_,.of,rfl,rfl⟩
 | true=>
  refine yp (Za rfl) (yp (pB rfl) (zK rfl (zQ (pT rfl) (zK rfl (zQ (iP rfl rfl) (yp (zD rfl rfl) (zf (za ?_))))))));by_cases h0:n=[0]
  ·subst h0;rw[if_neg (by simp)];refine zC rfl (ze (z8 (yp pC (zf (za (zJ (zV ?_)))))));exact zI (res1 rfl) ⟨_,.of,rfl,rfl⟩
  ·rw[if_pos ⟨rfl,h0⟩,decide_eq_false (show ¬(⟨n.toArray⟩:ByteArray)=⟨#[0]⟩ from fun e=>h0 (by
    have:=congrArg (fun b:ByteArray=>b.data.toList) e;simpa using this))]
   obtain⟨b,r,rfl,hl⟩:=iC hv;refine zo rfl (zl (za (ze (z8 (yp (pT rfl) (yp (pT rfl) (yp (Jv (k:=0) (b:=b) rfl rfl rfl) (yp (kG rfl) (yp (vJ (m:=1) (n:=(b.toNat:Int)) rfl rfl (by omega)) (yp (Yn (j:=1+b.toNat) rfl (by show _=Value.int .i64 ((1+b.toNat:Nat):Int); rw[Int.natCast_add]; rfl) hl) (yp (pT rfl) (zf (za (zJ ?_))))))))))))));exact zI (res1 rfl) ⟨_,.of,rfl,rfl⟩
/-- a list of at most one number is in order -/
theorem EZ{a:Option Addr}{n c:Nat}(hn:n≤1):Tri Tryz.prog 173 #[.slice a n c,.int .i64 0,.int .i64 (n:Int)] [] (fun r S=>r= .tuple #[]∧S=[]):=by
 refine Tri.forget (zq Tryz.DY (Nat.le_of_ble_eq_true rfl) ?_);unfold Tryz.I6;refine ze (z8 (yp (pI rfl) (yp (vJ rfl rfl (by omega)) (yp (pI rfl) (zf (za (zu ?_)))))));refine Z7 (σ:=Nat) (fun _ E S'=>Has E [(2,.int .i64 (n:Int)),(6,.int .i64 1)]∧zG S' []) (fun _=>0) 0 ⟨⟨rfl,rfl,trivial⟩,.of⟩ fun i E S' ⟨hE,hJ⟩=>?_
 obtain⟨E0,e0⟩:=zm hE; subst e0; clear hE;refine zn hJ (ze (ze (z8 (yp (pI rfl) (yp (pI rfl) (yp (ZE rfl rfl) (zf (za ?_))))))));rw[decide_eq_false (show ¬(1:Int)<(n:Int) from by omega)];refine zo rfl (zZ (zA (zA (Z0 ?_))));exact ZO ZQ ⟨_,.of,rfl,rfl⟩
theorem EX{a:Option Addr}{n c:Nat}(hn:n≤1)(l:Int):Tri Tryz.prog 156 #[.slice a n c,.int .i64 0,.int .i64 (n:Int),.int .i64 l] [] (fun r S=>r= .tuple #[]∧S=[]):=by
 refine Tri.forget (zq Tryz.E5 (Nat.le_of_ble_eq_true rfl) ?_);unfold Tryz.Ic;refine ze (z8 (yp pC (zf (za (ze (z8 (yp pC (zf (za (zu ?_))))))))));refine Z7 (σ:=Nat) (fun _ E S'=>Has E [(0,.slice a n c),(1,.int .i64 0),(2,.int .i64 (n:Int))]∧zG S' []) (fun _=>0) 0 ⟨⟨rfl,rfl,rfl,trivial⟩,.of⟩ fun i E S' ⟨hE,hJ⟩=>?_
 obtain⟨E0,e0⟩:=zm hE; subst e0; clear hE;refine zn hJ (zu (ze (z8 (yp (pI rfl) (yp (pI rfl) (yp (Zy rfl rfl (by omega)) (yp (pI rfl) (zf (za (ze (ze (z8 (yp (pI rfl) (yp (XB rfl rfl) (zf (za ?_))))))))))))))));rw[decide_eq_true (show(n:Int)-0≤12 from by omega)];refine zC rfl (ze (z8 (yp (pS rfl) (yp (pI rfl) (yp (pI rfl) ?_)))));refine zh (zk (EZ hn) rfl rfl fun r S' h=>?_);obtain⟨rfl,rfl⟩:=h;refine zf (za (zJ (zV (bret (zV (bret ?_))))));exact zI ZQ ⟨_,.of,rfl,rfl⟩
theorem Lp{v:Value}{L:List Int}{H:List Chunk}(hL:Zg 3 v L H)(hl:L.length≤1):Tri Tryz.prog 136 #[v] [H] (fun r S=>r= .tuple #[]∧S=[H]):=by
 refine Tri.forget (zq Tryz.E9 (Nat.le_of_ble_eq_true rfl) ?_);unfold Tryz.EN;obtain⟨a,c,rfl⟩:=hL.isSlice;refine ze (z8 (yp (pS rfl) (yp (Zp rfl) (yp (pI rfl) (zf (za (z8 (yp (pS rfl) (yp (pI rfl) (yp (pI rfl) (yp (Y7 (j:=L.length) rfl (by omega)) ?_)))))))))));refine zh (zk (yA Tryz.jv Tryz.jr (m:=L.length) (by omega)) rfl rfl fun r S' h=>?_);obtain⟨l,rfl,_,_,rfl⟩:=h
 skip
 refine zh (zk (EX hl (l:Int)) rfl rfl fun r S' h=>?_);obtain⟨rfl,rfl⟩:=h;refine zf ?_;exact ZO ZQ ⟨_,.of,rfl,rfl⟩
/-- what is put in order, and each once, of lists of so many -/
def qw(m:Nat):Prop:=∀{v:Value} {L:List Int} {H:List Chunk},Zg 3 v L H→L.length≤m→Tri Tryz.prog 136 #[v] [H] (fun r S=>r= .tuple #[]∧∃L' H',L'.Perm L∧L'.Pairwise (· ≤ ·)∧Zg 3 v L' H'∧S=[H'])
theorem xA:qw 1:=fun {v L H} hL hl=>(Lp hL hl).mono fun r S h=>⟨h.1,L,H,.refl _,(by
 match L,hl with
 | [],_=>exact .nil
 | [x],_=>exact List.pairwise_singleton _ _),hL,h.2⟩
end Go.Proofs.YtekgciopamkjlaaGreat