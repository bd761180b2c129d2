/- freshetalike: two lists of numbers; a name without its first label; lists of one number in order. -/
import Derived.Test.YtekgciopamkjlaaGreatCaN
import Derived.Test.YtekgciopamkjlaaGreatNamesL
import Derived.Test.YtekgciopamkjlaaGreatFSort
import Derived.Test.YtekgciopamkjlaaGreatFSortI
import Derived.Test.YtekgciopamkjlaaGreatB5
namespace Go.Proofs.YtekgciopamkjlaaGreat
open Go.Xs
open Enc (enc)
theorem sF{u v:Value}{A B:List Int}{S:zw}(hA:Src S u A)(hB:Src S v B)(hl:A.length<2 ^ 40):zP Tryz.prog 37 #[u,v] S (fun r S'=>r= .bool (decide (A=B))∧S'=S):=by
 refine zP.forget (zl Tryz.Ma (Nat.le_of_ble_eq_true rfl) ?_);unfold Tryz.Ni;obtain⟨a,c,rfl⟩:=hA.isSlice;obtain⟨a',c',rfl⟩:=hB.isSlice;refine ze (z8 (yp pC (zf (za (ze (ze (z8 (yp (pS rfl) (yp (ZM rfl) (yp (pS rfl) (yp (ZM rfl) (yp (uO rfl rfl) (zf (za ?_))))))))))))));refine Ve rfl (fun h=>?_) (fun h=>?_)
 ·refine ze (z8 (yp pC (zf (za (zH (zX ?_))))));refine zG (rB rfl) ⟨_,.of,?_,rfl⟩;rw[decide_eq_false];intro e; subst e; exact h rfl
 have hlen:A.length=B.length:=by omega
 refine zq (za (ze (ze (z8 (yp pC (zf (za (zy ?_))))))));refine Zb (σ:=Nat) (fun i E S'=>Has E [(0,.slice a A.length c),(1,.slice a' B.length c'),(5,.int .i64 i)]∧i≤A.length∧A.take i=B.take i∧zD S' S) (fun i=>A.length-i) 0 ⟨⟨rfl,rfl,rfl,trivial⟩,Nat.zero_le _,by simp,.of⟩ fun i E S' ⟨hE,hi,he,hJ⟩=>?_
 obtain⟨E0,e0⟩:=zu hE; subst e0; clear hE;refine zo hJ (ze (ze (z8 (yp (pI rfl) (yp (pS rfl) (yp (ZM rfl) (yp (ZP rfl rfl) (zf (za ?_)))))))));refine zR rfl (fun h=>?_) (fun h=>?_)
 ·have hlt:i<A.length:=by omega
  have hlt':i<B.length:=by omega
  obtain⟨b,o,ca,ty,fz,rfl,hm1,hmem,hg⟩:=hA.get (by intro h; simp[h] at hlt);obtain⟨b2,o2,ca2,ty2,fz2,rfl,hm2,hmem2,hg2⟩:=hB.get (by intro h; simp[h] at hlt');have hg0:=hg.1 i 0 hlt (by decide);have hg20:=hg2.1 i 0 hlt' (by decide);refine zq (za (ze (zy (ze (Z4 (zi (pS rfl) (zi (pI rfl) (zi (zV rfl rfl (by omega)) (aQ hmem rfl hg0 (zi (pS rfl) (zi (pI rfl) (zi (zV rfl rfl (by omega)) (aQ hmem2 rfl hg20 (zi (uO rfl rfl) (zJ (za ?_))))))))))))))));by_cases h2:A[i]=B[i]
  ·rw[decide_eq_true h2];refine zx rfl (zq (zT (za (z8 (yp (pI rfl) (yp (Zj rfl rfl (by omega)) (yp (pI rfl) (zf (za ?_)))))))));refine⟨i+1,⟨⟨rfl,rfl,rfl,trivial⟩,by omega,?_,.of⟩,by omega⟩;rw[List.take_succ_eq_append_getElem hlt,List.take_succ_eq_append_getElem hlt',he,h2]
  ·rw[decide_eq_false h2];refine zF rfl (ze (z8 (yp pC (zf (za (zH (bret (zX (zX (bret (zX ?_)))))))))));refine zG (rB rfl) ⟨_,.of,?_,rfl⟩;rw[decide_eq_false];intro e; subst e; exact h2 rfl
 ·refine Z0 (zI (zI (Z5 (za (ze (z8 (yp pC (zf (za (zH ?_))))))))));refine zG (rB rfl) ⟨_,.of,?_,rfl⟩;rw[decide_eq_true];rw[List.take_of_length_le (by omega),List.take_of_length_le (by omega)] at he;exact he
/-- a list of at most one number is in order -/
theorem tT{a:Option Addr}{n c:Nat}(hn:n≤1):zP Tryz.prog 173 #[.slice a n c,.int .i64 0,.int .i64 (n:Int)] [] (fun r S=>r= .tuple #[]∧S=[]):=by
 refine zP.forget (zl Tryz.Fy (Nat.le_of_ble_eq_true rfl) ?_);unfold Tryz.Cn;refine ze (z8 (yp (pI rfl) (yp (Vq rfl rfl (by omega)) (yp (pI rfl) (zf (za (zy ?_)))))));refine Zb (σ:=Nat) (fun _ E S'=>Has E [(2,.int .i64 (n:Int)),(6,.int .i64 1)]∧zD S' []) (fun _=>0) 0 ⟨⟨rfl,rfl,trivial⟩,.of⟩ fun i E S' ⟨hE,hJ⟩=>?_
 obtain⟨E0,e0⟩:=zu hE; subst e0; clear hE;refine zo hJ (ze (ze (z8 (yp (pI rfl) (yp (pI rfl) (yp (ZP rfl rfl) (zf (za ?_))))))));rw[decide_eq_false (show ¬(1:Int)<(n:Int) from by omega)];refine zx rfl (Z0 (zI (zI (Z5 ?_))));exact ZW w9 ⟨_,.of,rfl,rfl⟩
theorem tQ{a:Option Addr}{n c:Nat}(hn:n≤1)(l:Int):zP Tryz.prog 156 #[.slice a n c,.int .i64 0,.int .i64 (n:Int),.int .i64 l] [] (fun r S=>r= .tuple #[]∧S=[]):=by
 refine zP.forget (zl Tryz.FT (Nat.le_of_ble_eq_true rfl) ?_);unfold Tryz.Cx;refine ze (z8 (yp pC (zf (za (ze (z8 (yp pC (zf (za (zy ?_))))))))));refine Zb (σ:=Nat) (fun _ E S'=>Has E [(0,.slice a n c),(1,.int .i64 0),(2,.int .i64 (n:Int))]∧zD S' []) (fun _=>0) 0 ⟨⟨rfl,rfl,rfl,trivial⟩,.of⟩ fun i E S' ⟨hE,hJ⟩=>?_
 obtain⟨E0,e0⟩:=zu hE; subst e0; clear hE;refine zo hJ (zy (ze (z8 (yp (pI rfl) (yp (pI rfl) (yp (ZG rfl rfl (by omega)) (yp (pI rfl) (zf (za (ze (ze (z8 (yp (pI rfl) (yp (jN rfl rfl) (zf (za ?_))))))))))))))));rw[decide_eq_true (show(n:Int)-0≤12 from by omega)];refine zF rfl (ze (z8 (yp (pS rfl) (yp (pI rfl) (yp (pI rfl) ?_)))));refine zh (zk (tT hn) rfl rfl fun r S' h=>?_);obtain⟨rfl,rfl⟩:=h;refine zf (za (zH (zX (bret (zX (bret ?_))))));exact zG w9 ⟨_,.of,rfl,rfl⟩
theorem DK{v:Value}{L:List Int}{H:List Chunk}(hL:Zc 3 v L H)(hl:L.length≤1):zP Tryz.prog 136 #[v] [H] (fun r S=>r= .tuple #[]∧S=[H]):=by
 refine zP.forget (zl Tryz.Gi (Nat.le_of_ble_eq_true rfl) ?_);unfold Tryz.CV;obtain⟨a,c,rfl⟩:=hL.isSlice;refine ze (z8 (yp (pS rfl) (yp (ZM rfl) (yp (pI rfl) (zf (za (z8 (yp (pS rfl) (yp (pI rfl) (yp (pI rfl) (yp (Kr (j:=L.length) rfl (by omega)) ?_)))))))))));refine zh (zk (Kn Tryz.iL Tryz.iK (m:=L.length) (by omega)) rfl rfl fun r S' h=>?_);obtain⟨l,rfl,_,_,rfl⟩:=h
 skip
 refine zh (zk (tQ hl (l:Int)) rfl rfl fun r S' h=>?_);obtain⟨rfl,rfl⟩:=h;refine zf ?_;exact ZW w9 ⟨_,.of,rfl,rfl⟩
/-- what is put in order, and each once, of lists of so many -/
def Q6(m:Nat):Prop:=∀{v:Value} {L:List Int} {H:List Chunk},Zc 3 v L H→L.length≤m→zP Tryz.prog 136 #[v] [H] (fun r S=>r= .tuple #[]∧∃L' H',L'.Perm L∧L'.Pairwise (· ≤ ·)∧Zc 3 v L' H'∧S=[H'])
theorem Qt:Q6 1:=fun {v L H} hL hl=>(DK hL hl).mono fun r S h=>⟨h.1,L,H,.refl _,(by
 match L,hl with
 | [],_=>exact .nil
 | [x],_=>exact List.pairwise_singleton _ _),hL,h.2⟩
end Go.Proofs.YtekgciopamkjlaaGreat