/- freshetalike: two lists of numbers; a name without its first label; lists of one number in order. -/
import Derived.Test.YtekgciopamkjlaaGreatCaN
import Derived.Test.YtekgciopamkjlaaGreatNamesL
import Derived.Test.YtekgciopamkjlaaGreatFSort
import Derived.Test.YtekgciopamkjlaaGreatFSortI
import Derived.Test.YtekgciopamkjlaaGreatB5
namespace Go.Proofs.YtekgciopamkjlaaGreat
open Go.Xs
open Enc (enc)
theorem lJ{u v:Value}{A B:List Int}{S:zB}(hA:Src S u A)(hB:Src S v B)(hl:A.length<2 ^ 40):Tri Tryz.prog 37 #[u,v] S (fun r S'=>r= .bool (decide (A=B))∧S'=S):=by
 refine Tri.forget (zn Tryz.Nj (Nat.le_of_ble_eq_true rfl) ?_);unfold Tryz.Oj;obtain⟨a,c,rfl⟩:=hA.isSlice;obtain⟨a',c',rfl⟩:=hB.isSlice;refine ze (z8 (yp pC (zf (za (ze (ze (z8 (yp (pS rfl) (yp (Zz rfl) (yp (pS rfl) (yp (Zz rfl) (yp (UF rfl rfl) (zf (za ?_))))))))))))));refine wE rfl (fun h=>?_) (fun h=>?_)
 ·refine ze (z8 (yp pC (zf (za (zL (zX ?_))))));refine zK (rB rfl) ⟨_,.of,?_,rfl⟩;rw[decide_eq_false];intro e; subst e; exact h rfl
 have hlen:A.length=B.length:=by omega
 refine zq (za (ze (ze (z8 (yp pC (zf (za (zo ?_))))))));refine Z4 (σ:=Nat) (fun i E S'=>Has E [(0,.slice a A.length c),(1,.slice a' B.length c'),(5,.int .i64 i)]∧i≤A.length∧A.take i=B.take i∧zG S' S) (fun i=>A.length-i) 0 ⟨⟨rfl,rfl,rfl,trivial⟩,Nat.zero_le _,by simp,.of⟩ fun i E S' ⟨hE,hi,he,hJ⟩=>?_
 obtain⟨E0,e0⟩:=zl hE; subst e0; clear hE;refine zm hJ (ze (ze (z8 (yp (pI rfl) (yp (pS rfl) (yp (Zz rfl) (yp (ZL rfl rfl) (zf (za ?_)))))))));refine zO rfl (fun h=>?_) (fun h=>?_)
 ·have hlt:i<A.length:=by omega
  have hlt':i<B.length:=by omega
  obtain⟨b,o,ca,ty,fz,rfl,hm1,hmem,hg⟩:=hA.get (by intro h; simp[h] at hlt);obtain⟨b2,o2,ca2,ty2,fz2,rfl,hm2,hmem2,hg2⟩:=hB.get (by intro h; simp[h] at hlt');have hg0:=hg.1 i 0 hlt (by decide);have hg20:=hg2.1 i 0 hlt' (by decide);refine zq (za (ze (zo (ze (zY (zi (pS rfl) (zi (pI rfl) (zi (zN rfl rfl (by omega)) (dw hmem rfl hg0 (zi (pS rfl) (zi (pI rfl) (zi (zN rfl rfl (by omega)) (dw hmem2 rfl hg20 (zi (UF rfl rfl) (zD (za ?_))))))))))))))));by_cases h2:A[i]=B[i]
  ·rw[decide_eq_true h2];refine zw rfl (zq (zT (za (z8 (yp (pI rfl) (yp (Za rfl rfl (by omega)) (yp (pI rfl) (zf (za ?_)))))))));refine⟨i+1,⟨⟨rfl,rfl,rfl,trivial⟩,by omega,?_,.of⟩,by omega⟩;rw[List.take_succ_eq_append_getElem hlt,List.take_succ_eq_append_getElem hlt',he,h2]
  ·rw[decide_eq_false h2];refine zI rfl (ze (z8 (yp pC (zf (za (zL (bret (zX (zX (bret (zX ?_)))))))))));refine zK (rB rfl) ⟨_,.of,?_,rfl⟩;rw[decide_eq_false];intro e; subst e; exact h2 rfl
 ·refine zV (zy (zy (zW (za (ze (z8 (yp pC (zf (za (zL ?_))))))))));refine zK (rB rfl) ⟨_,.of,?_,rfl⟩;rw[decide_eq_true];rw[List.take_of_length_le (by omega),List.take_of_length_le (by omega)] at he;exact he
/-- a list of at most one number is in order -/
theorem AJ{a:Option Addr}{n c:Nat}(hn:n≤1):Tri Tryz.prog 173 #[.slice a n c,.int .i64 0,.int .i64 (n:Int)] [] (fun r S=>r= .tuple #[]∧S=[]):=by
 refine Tri.forget (zn Tryz.sZ (Nat.le_of_ble_eq_true rfl) ?_);unfold Tryz.Dg;refine ze (z8 (yp (pI rfl) (yp (Vo rfl rfl (by omega)) (yp (pI rfl) (zf (za (zo ?_)))))));refine Z4 (σ:=Nat) (fun _ E S'=>Has E [(2,.int .i64 (n:Int)),(6,.int .i64 1)]∧zG S' []) (fun _=>0) 0 ⟨⟨rfl,rfl,trivial⟩,.of⟩ fun i E S' ⟨hE,hJ⟩=>?_
 obtain⟨E0,e0⟩:=zl hE; subst e0; clear hE;refine zm hJ (ze (ze (z8 (yp (pI rfl) (yp (pI rfl) (yp (ZL rfl rfl) (zf (za ?_))))))));rw[decide_eq_false (show ¬(1:Int)<(n:Int) from by omega)];refine zw rfl (zV (zy (zy (zW ?_))));exact ZF ZG ⟨_,.of,rfl,rfl⟩
theorem AB{a:Option Addr}{n c:Nat}(hn:n≤1)(l:Int):Tri Tryz.prog 156 #[.slice a n c,.int .i64 0,.int .i64 (n:Int),.int .i64 l] [] (fun r S=>r= .tuple #[]∧S=[]):=by
 refine Tri.forget (zn Tryz.tu (Nat.le_of_ble_eq_true rfl) ?_);unfold Tryz.Dn;refine ze (z8 (yp pC (zf (za (ze (z8 (yp pC (zf (za (zo ?_))))))))));refine Z4 (σ:=Nat) (fun _ E S'=>Has E [(0,.slice a n c),(1,.int .i64 0),(2,.int .i64 (n:Int))]∧zG S' []) (fun _=>0) 0 ⟨⟨rfl,rfl,rfl,trivial⟩,.of⟩ fun i E S' ⟨hE,hJ⟩=>?_
 obtain⟨E0,e0⟩:=zl hE; subst e0; clear hE;refine zm hJ (zo (ze (z8 (yp (pI rfl) (yp (pI rfl) (yp (Zt rfl rfl (by omega)) (yp (pI rfl) (zf (za (ze (ze (z8 (yp (pI rfl) (yp (Xl rfl rfl) (zf (za ?_))))))))))))))));rw[decide_eq_true (show(n:Int)-0≤12 from by omega)];refine zI rfl (ze (z8 (yp (pS rfl) (yp (pI rfl) (yp (pI rfl) ?_)))));refine zh (zk (AJ hn) rfl rfl fun r S' h=>?_);obtain⟨rfl,rfl⟩:=h;refine zf (za (zL (zX (bret (zX (bret ?_))))));exact zK ZG ⟨_,.of,rfl,rfl⟩
theorem Ev{v:Value}{L:List Int}{H:List Chunk}(hL:Zf 3 v L H)(hl:L.length≤1):Tri Tryz.prog 136 #[v] [H] (fun r S=>r= .tuple #[]∧S=[H]):=by
 refine Tri.forget (zn Tryz.tF (Nat.le_of_ble_eq_true rfl) ?_);unfold Tryz.Ao;obtain⟨a,c,rfl⟩:=hL.isSlice;refine ze (z8 (yp (pS rfl) (yp (Zz rfl) (yp (pI rfl) (zf (za (z8 (yp (pS rfl) (yp (pI rfl) (yp (pI rfl) (yp (Xp (j:=L.length) rfl (by omega)) ?_)))))))))));refine zh (zk (xX Tryz.YU Tryz.YS (m:=L.length) (by omega)) rfl rfl fun r S' h=>?_);obtain⟨l,rfl,_,_,rfl⟩:=h
 skip
 refine zh (zk (AB hl (l:Int)) rfl rfl fun r S' h=>?_);obtain⟨rfl,rfl⟩:=h;refine zf ?_;exact ZF ZG ⟨_,.of,rfl,rfl⟩
/-- what is put in order, and each once, of lists of so many -/
def j5(m:Nat):Prop:=∀{v:Value} {L:List Int} {H:List Chunk},Zf 3 v L H→L.length≤m→Tri Tryz.prog 136 #[v] [H] (fun r S=>r= .tuple #[]∧∃L' H',L'.Perm L∧L'.Pairwise (· ≤ ·)∧Zf 3 v L' H'∧S=[H'])
theorem nK:j5 1:=fun {v L H} hL hl=>(Ev hL hl).mono fun r S h=>⟨h.1,L,H,.refl _,(by
 match L,hl with
 | [],_=>exact .nil
 | [x],_=>exact List.pairwise_singleton _ _),hL,h.2⟩
end Go.Proofs.YtekgciopamkjlaaGreat