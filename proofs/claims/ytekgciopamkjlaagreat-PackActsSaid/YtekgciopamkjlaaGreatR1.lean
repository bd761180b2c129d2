/- The document's own answer (freshetref6): the arena. The document's own arena (freshetref6) tells what the program's does. -/
import Derived.Test.YtekgciopamkjlaaGreatA2
import Derived.Test.YtekgciopamkjlaaGreatB3
import Derived.Test.YtekgciopamkjlaaGreatFRefA
namespace Go.Proofs.YtekgciopamkjlaaGreat
open Go.Xs
open Enc (enc)
/-- a block of the document's: its handle, its bytes and where they stand -/
structure RB where
 h:Int
 b:Bt
 a:Option Addr
 c:Nat
instance:Enc RB:=⟨fun x=>[.int .i64 x.h,.slice x.a x.b.length x.c],2,fun _=>rfl,fun _=>rfl⟩
def RB.v(x:RB):Value:= .slice x.a x.b.length x.c
def RB.z:RB:=⟨0,[],none,0⟩
def told(L:List RB):List (Int × Bt):=L.map fun x=>(x.h,x.b)
abbrev wW(rb:Nat)(N:Int)(kv:Value):List Chunk:=[(rb,.cells #[.int .i64 N,kv] 34)]
def KA(h:Int):List RB→Option Nat
 | []=>none
 | x::l=>if x.h=h then some 0 else(KA h l).map (· +1)
def dx:Option Nat→Value
 | some i=> .int .i64 (i:Int)
 | none=> .int .i64 (-1)
def Wq(L:List RB):Nat:=(L.map fun x=>Z6 x.b.length).sum
theorem Xy(L:List RB)(x:RB):Wq (L++[x])=Wq L+Z6 x.b.length:=by simp[Wq]
theorem Xx(L:List RB):∀i,Wq (L.take i)≤Wq L:=fun i=>by
 have:Wq L=Wq (L.take i)+Wq (L.drop i):=by
  unfold Wq;rw[←List.sum_append_nat, ←List.map_append,List.take_append_drop]
 omega
theorem QA{h:Int}:∀{L:List RB} {i:Nat},KA h L=some i→∃x,L[i]?=some x∧x.h=h
 | [],_,e=>by cases e
 | x::l,i,e=>by
  unfold KA at e;split at e
  ·next hx=>
   obtain rfl:=Option.some.inj e;exact⟨x,rfl,hx⟩
  ·cases hl:KA h l with
   | none=>rw[hl] at e; cases e
   | some k=>
    rw[hl] at e;obtain rfl:k+1=i:=Option.some.inj e;obtain⟨y,h1,h2⟩:=QA hl;exact⟨y,by simpa using h1,h2⟩
theorem YW(n:Int):Tri Tryz.prog 57 #[.int .i64 n] [] (fun r S=>r= .int .i64 (cost n)∧S=[]):=by
 refine Tri.forget (zB Tryz.Bo (Nat.le_of_ble_eq_true rfl) ?_);unfold Tryz.CW;refine ze (z8 (yp pC (zf (za (ze (ze (z8 (yp (pI rfl) (yp (w9 rfl rfl) (yp (pB rfl) ?_))))))))));by_cases h1:n<0
 ·rw[decide_eq_true h1];refine zJ rfl (zJ rfl (yp (zD rfl rfl) (zf (za (zC rfl (ze (z8 (yp pC (zf (za (zH (zP ?_))))))))))));exact zG (rI rfl) ⟨_,.of,by rw[cost,if_pos (.inl h1)],rfl⟩
 rw[decide_eq_false h1];refine zV rfl (zZ (pI rfl) (zV rfl (zZ (Va rfl rfl) (yp (zL rfl rfl) (zf (za ?_))))));by_cases h2:4096<n
 ·rw[decide_eq_true h2];refine zC rfl (ze (z8 (yp pC (zf (za (zH (zP ?_)))))));exact zG (rI rfl) ⟨_,.of,by rw[cost,if_pos (.inr h2)],rfl⟩
 rw[decide_eq_false h2];obtain⟨m,rfl⟩:=Int.eq_ofNat_of_zero_le (show 0≤n from by omega);refine zA rfl (zx (za (ze (z8 (yp pC (zf (za (ze (zw ?_)))))))));refine Z7 (σ:=Nat) (fun c E S=>Has E [(0,.int .i64 m),(3,.int .i64 c)]∧Pow c∧(c=16∨c<2*(m+8))∧zM S []) (fun c=>16384-c) 16 ⟨⟨rfl,rfl,trivial⟩,.inl rfl,.inl rfl,.self⟩ fun c E S ⟨hE,hp,hc,hJ⟩=>?_
 have hcb:c≤8192:=by unfold Pow at hp; omega
 obtain⟨E0,e0⟩:=zu hE; subst e0; clear hE;refine zy hJ (ze (ze (z8 (yp (pI rfl) (yp (pI rfl) (yp (vY rfl rfl (by omega)) (yp (w9 rfl rfl) (zf (za ?_)))))))));refine zU rfl (fun h=>?_) (fun h=>?_)
 ·refine zx (za (zw (z8 (yp (pI rfl) ?_))));refine yp (v:= .int .i64 ((c*2:Nat):Int)) ?_ ?_
  ·rw[au (m:=(c:Int)) (n:=2) rfl rfl (by omega)];congr 2
  refine yp (pI rfl) (zf (zY (za ?_)));exact⟨c*2,⟨⟨rfl,rfl,trivial⟩,by unfold Pow at hp ⊢; omega,by omega,.of⟩,by unfold Pow at hp; omega⟩
 ·refine Z0 (zF (zF (Z4 (za (ze (z8 (yp (pI rfl) (yp (pI rfl) (zf (za (zH ?_)))))))))));refine zG (rI rfl) ⟨_,.of,?_,rfl⟩;rw[cost,if_neg (by omega),Int.toNat_natCast,KT (c:=c) (by omega) hp (by omega) hc]
theorem Aj{rb:Nat}{N:Int}{kv:Value}{L:List RB}{HB:List Chunk}(hL:Zf 122 kv L HB)(hlen:L.length<2 ^ 40)(h:Int):
 Tri Tryz.prog 120 #[.pointer (some ⟨rb,0,none⟩),.int .i64 h] [wW rb N kv,HB] (fun r S=>r=dx (KA h L)∧S=[wW rb N kv,HB]):=by
 refine Tri.forget (zB Tryz.rz (Nat.le_of_ble_eq_true rfl) ?_);unfold Tryz.mE;obtain⟨a,c,rfl⟩:=hL.isSlice;refine ze (z8 (yp pC (zf (za (ze (ze (z8 (yp pC (zf (za (zw ?_)))))))))));refine Z7 (σ:=Nat) (fun i E S=>Has E [(0,.pointer (some ⟨rb,0,none⟩)),(1,.int .i64 h),(5,.int .i64 i)]∧i≤L.length∧(KA h L=(KA h (L.drop i)).map (· +i))∧zM S [wW rb N (.slice a L.length c),HB]) (fun i=>L.length-i) 0 ⟨⟨rfl,rfl,rfl,trivial⟩,Nat.zero_le _,by simp,.self⟩ fun i E S ⟨hE,hi,hx,hS⟩=>?_
 obtain⟨E0,e0⟩:=zu hE; subst e0; clear hE;refine zy hS (ze (ze (z8 (yp (pI rfl) (yp (pP rfl) (yp (zQ rfl) (yp (zl rfl) ?_)))))));refine zh (zo rfl rfl ?_);refine yp (Zq rfl) (yp (w9 rfl rfl) (zf (za ?_)));refine zU rfl (fun h=>?_) (fun h=>?_)
 ·have hlt:i<L.length:=by omega
  have hd:L.drop i=L[i]::L.drop (i+1):=List.drop_eq_getElem_cons hlt;obtain⟨b,sp,fz2,hz,rfl,_,rfl,rfl⟩:=hL.at' (by intro h; simp[h] at hlt);refine zx (za (ze (zw (ze (z8 (yp (pP rfl) (yp (zQ rfl) (yp (zl rfl) ?_))))))));refine zh (zo rfl rfl ?_);refine yp (pI rfl) (yp (zT rfl rfl (by omega)) (yp (zl rfl) ?_));refine zh (zo (v:= .int .i64 L[i].h) rfl ((Zn (kk:=2) (j:=0) hlt rfl (by omega)).trans rfl) ?_);refine yp (pI rfl) (yp (WA rfl rfl) (zf (za ?_)));refine zU rfl (fun h2=>?_) (fun h2=>?_)
  ·refine ze (z8 (yp (pI rfl) (yp (pI rfl) (zf (za (zH (bret (zP (zP (bret (zP ?_)))))))))));exact zG (rI rfl) ⟨_,.of,by rw[hx,hd,KA,if_pos h2]; simp[dx],rfl⟩
  ·refine zx (zY (za (z8 (yp (pI rfl) (yp (Z9 rfl rfl (by omega)) (yp (pI rfl) (zf (za ?_))))))));refine⟨i+1,⟨⟨rfl,rfl,rfl,trivial⟩,by omega,?_,.of⟩,by omega⟩;rw[hx,hd,KA,if_neg h2,Option.map_map];congr 1;funext x;simp; omega
 ·refine Z0 (zF (zF (Z4 (za (ze (z8 (yp pC (zf (za (zH ?_))))))))));have:L.drop i=[]:=List.drop_eq_nil_of_le (by omega);exact zG (rI rfl) ⟨_,.of,by rw[hx,this]; rfl,rfl⟩
/-- the document's blocks, of which none is too big -/
structure sV(N:Nat)(L:List RB):Prop where
 len:L.length<2 ^ 30
 big:N<2 ^ 30
 each:∀x∈L,x.b.length≤4096
 used:Wq L≤N
theorem QB{rb N:Nat}{kv:Value}{L:List RB}{HB:List Chunk}(hL:Zf 122 kv L HB)(hs:sV N L):
 Tri Tryz.prog 22 #[.pointer (some ⟨rb,0,none⟩)] [wW rb N kv,HB] (fun r S=>r= .int .i64 (Wq L:Nat)∧S=[wW rb N kv,HB]):=by
 refine Tri.forget (zB Tryz.BO (Nat.le_of_ble_eq_true rfl) ?_);unfold Tryz.Dh;have hlen:=hs.len;have hbig:=hs.big;have hu:=hs.used;obtain⟨a,c,rfl⟩:=hL.isSlice;refine ze (z8 (yp pC (zf (za (ze (z8 (yp pC (zf (za (ze (ze (z8 (yp pC (zf (za (zw ?_))))))))))))))));refine Z7 (σ:=Nat) (fun i E S=>Has E [(0,.pointer (some ⟨rb,0,none⟩)),(3,.int .i64 (Wq (L.take i):Nat)),(4,.int .i64 i)]∧i≤L.length∧zM S [wW rb N (.slice a L.length c),HB]) (fun i=>L.length-i) 0 ⟨⟨rfl,rfl,rfl,trivial⟩,Nat.zero_le _,.self⟩ fun i E S ⟨hE,hi,hS⟩=>?_
 have hut:=Xx L i;obtain⟨E0,e0⟩:=zu hE; subst e0; clear hE;refine zy hS (ze (ze (z8 (yp (pI rfl) (yp (pP rfl) (yp (zQ rfl) (yp (zl rfl) ?_)))))));refine zh (zo rfl rfl ?_);refine yp (Zq rfl) (yp (w9 rfl rfl) (zf (za ?_)));refine zU rfl (fun h=>?_) (fun h=>?_)
 ·have hlt:i<L.length:=by omega
  have htk:L.take (i+1)=L.take i++[L[i]]:=by rw[List.take_add_one,List.getElem?_eq_getElem hlt]; rfl
  have hut2:=Xx L (i+1);rw[htk,Xy] at hut2;have hb4:=hs.each _ (List.getElem_mem hlt);obtain⟨b,sp,fz2,hz,rfl,_,rfl,rfl⟩:=hL.at' (by intro h; simp[h] at hlt);have hld:((cells (L++sp)).toArray.toList)[0+i*2+1]?=some (.slice L[i].a L[i].b.length L[i].c):=(Zn (kk:=2) (j:=1) hlt rfl (by omega)).trans rfl;generalize L[i]=x at htk hut2 hb4 hld;refine zx (za (ze (zw (z8 (yp (pI rfl) (yp (pP rfl) (yp (zQ rfl) (yp (zl rfl) ?_))))))));refine zh (zo rfl rfl ?_);refine yp (pI rfl) (yp (zT rfl rfl (by omega)) (yp (zl rfl) ?_));refine zh (zo (v:= .slice x.a x.b.length x.c) rfl hld ?_);refine yp (Zq rfl) ?_;refine zh (zm (YW (x.b.length:Int)) rfl rfl fun r S' h=>?_);obtain⟨rfl,rfl⟩:=h;rw[show cost (x.b.length:Int)=(Z6 x.b.length:Nat) from by unfold cost; rw[if_neg (by omega),Int.toNat_natCast]];refine yp (Zy rfl rfl (by omega)) (yp (pI rfl) (zf (zY (za (z8 (yp (pI rfl) (yp (Z9 rfl rfl (by omega)) (yp (pI rfl) (zf (za ?_))))))))));refine⟨i+1,⟨⟨rfl,?_,rfl,trivial⟩,by omega,.of⟩,by omega⟩;rw[htk,Xy]; rfl
 ·refine Z0 (zF (zF (Z4 (za (ze (z8 (yp (pI rfl) (yp (pI rfl) (zf (za (zH ?_)))))))))));rw[List.take_of_length_le (show L.length≤i from by omega)];exact zG (rI rfl) ⟨_,.of,rfl,rfl⟩
theorem QC{rb N:Nat}{kv:Value}{L:List RB}{HB:List Chunk}(hL:Zf 122 kv L HB)(hs:sV N L):
 Tri Tryz.prog 66 #[.pointer (some ⟨rb,0,none⟩)] [wW rb N kv,HB] (fun r S=>r= .int .i64 ((N-Wq L:Nat):Int)∧S=[wW rb N kv,HB]):=by
 refine Tri.forget (zB Tryz.Bb (Nat.le_of_ble_eq_true rfl) ?_);unfold Tryz.CG;have hbig:=hs.big;have hu:=hs.used;refine ze (z8 (yp pC (zf (za (ze (Za (zi (pP rfl) (zi (zQ rfl) (zi (zl rfl) (Zd rfl rfl (zi (pP rfl) ?_)))))))))));refine zX (zm (QB (rb:=rb) hL hs) rfl rfl fun r S' h=>?_) zK;obtain⟨rfl,rfl⟩:=h;refine⟨by simp,?_⟩;refine zi (wU rfl rfl (by omega)) (zi (pI rfl) (zN (za (zH ?_))));exact zG (rI rfl) ⟨_,.of,by congr 1; omega,rfl⟩
theorem gT{rb:Nat}{N:Int}{kv:Value}{L:List RB}{HB:List Chunk}(hL:Zf 122 kv L HB)(hlen:L.length<2 ^ 30)(h:Int):
 Tri Tryz.prog 73 #[.pointer (some ⟨rb,0,none⟩),.int .i64 h] [wW rb N kv,HB] (fun r S=>(KA h L=none∧r= .int .i64 5∧S=[wW rb N kv,HB])∨(∃(i:Nat) (kv':Value) (HB':List Chunk),KA h L=some i∧r= .int .i64 0∧Zf 122 kv' (L.eraseIdx i) HB'∧S=[wW rb N kv',HB'])):=by
 refine Tri.forget (zB Tryz.AU (Nat.le_of_ble_eq_true rfl) ?_);unfold Tryz.Cv;refine ze (z8 (yp pC (zf (za (ze (z8 (yp (pP rfl) (yp (pI rfl) ?_))))))));refine zh (zm (Aj (rb:=rb) (N:=N) hL (by omega) h) rfl rfl fun r S' h=>?_);obtain⟨rfl,rfl⟩:=h;cases hx:KA h L with
 | none=>
  simp only[dx];refine yp (pI rfl) (zf (za (ze (ze (z8 (yp (pI rfl) (yp (w9 rfl rfl) (zf (za (zC rfl (ze (z8 (yp pC (zf (za (zH (zP ?_)))))))))))))))));exact zG (rI rfl) ⟨_,.of,.inl ⟨trivial,rfl,rfl⟩⟩
 | some i=>
  obtain⟨x,hxi,_⟩:=QA hx;have hi:=(List.getElem?_eq_some_iff.1 hxi).1;simp only[dx];obtain⟨a,c,rfl⟩:=hL.isSlice;obtain⟨a1,c1,hp1,hY1⟩:=hL.KM (S:=[wW rb N (.slice a L.length c),HB]) (by simp) (k:=i) (kk:=2) (by omega) (E:=fun _=> .slice a L.length c) (x:= .tmp 0) (y:= .const (.int .i64 (i:Int))) rfl rfl;obtain⟨a2,c2,hp2,hY2⟩:=hL.Ko (S:=[wW rb N (.slice a L.length c),HB]) (by simp) (k:=i+1) (kk:=2) rfl (by omega) (E:=fun _=> .slice a L.length c) (x:= .tmp 0) (y:= .const (.int .i64 ((i+1:Nat):Int))) rfl rfl;refine yp (pI rfl) (zf (za (ze (ze (z8 (yp (pI rfl) (yp (w9 rfl rfl) (zf (za (zA rfl (zx (za (ze (Za (zi (pP rfl) (zi (pP rfl) (zi (zQ rfl) (zi (zl rfl) (Zd rfl rfl (zi (pI rfl) ?_))))))))))))))))))));refine zi (v:= .slice a1 i c1) hp1 ?_;refine zi (pP rfl) (zi (zQ rfl) (zi (zl rfl) (Zd rfl rfl (zi (pI rfl) (zi (Z9 rfl rfl (by omega)) ?_)))));refine zi (v:= .slice a2 (L.length-(i+1)) c2) hp2 ?_;refine zX (U2 fun p12=>⟨by simp,?_⟩) zK;refine zX (Zj rfl rfl Zf.empty (hY1.mono (by simp)) rfl RB.z rfl (by rw[List.length_take]; simp; omega) (by rw[List.length_take]; simp; omega) fun v1 H1 hL1=>⟨by simp,?_⟩) zK;refine zO (Zj (Y:=L.drop (i+1)) rfl rfl hL1 (hY2.mono (by simp)) rfl RB.z rfl (by simp; omega) (by simp; omega) fun v2 H2 hL2=>?_) zK;rw[List.nil_append, ←List.eraseIdx_eq_take_drop_succ] at hL2;obtain⟨a3,c3,rfl⟩:=hL2.isSlice;refine zi (zQ rfl) (zi (zl rfl) ?_);refine zO (uI rfl rfl (yN rfl) ?_) zK;refine zN (za (ze (z8 (yp pC (zf (za (zH ?_)))))));exact zG (rI rfl) ⟨_,.of,.inr ⟨i,.slice a3 (L.eraseIdx i).length c3,H2,rfl,rfl,hL2,rfl⟩⟩
/-- as many stand at the beginning, by their own handles -/
structure dX(k:Nat)(L:List RB):Prop where
 le:k≤L.length
 is:∀q x,q<k→L[q]?=some x→x.h=(q:Int)+1
set_option maxHeartbeats 1000000 in
theorem dz{rb N:Nat}{kv:Value}{L:List RB}{HB:List Chunk}(hL:Zf 122 kv L HB)(hs:sV N L)(n:Int):
 Tri Tryz.prog 68 #[.pointer (some ⟨rb,0,none⟩),.int .i64 n] [wW rb N kv,HB] (fun r S=>
  (∃e,e≠0∧e=(if cost n=0 then 3 else if(N:Int)-Wq L<cost n then 4 else 0)∧r= .tuple #[.int .i64 0,.int .i64 e]∧S=[wW rb N kv,HB])∨
  (∃(k m:Nat) (y:RB) (kv':Value) (HN HB':List Chunk),n=m∧dX k L∧(∀x,L[k]?=some x→x.h≠(k:Int)+1)∧cost n≠0∧¬(N:Int)-Wq L<cost n∧r= .tuple #[.int .i64 ((k+1:Nat):Int),.int .i64 0]∧
   y.h=(k:Int)+1∧y.b=zeros m∧y.c=m∧Zf 122 kv' (L.take k++y::L.drop k) HB'∧Zf 5 y.v y.b HN∧S=[HN,wW rb N kv',HB'])):=by
 refine Tri.forget (zB Tryz.AZ (Nat.le_of_ble_eq_true rfl) ?_);unfold Tryz.CB;have hlen:=hs.len;have hbig:=hs.big;have hu:=hs.used;refine ze (z8 (yp pC (yp pC (zf (za (ze (z8 (yp (pI rfl) ?_))))))));refine zh (zm (YW n) rfl rfl fun r S' h=>?_);obtain⟨rfl,rfl⟩:=h;refine yp (pI rfl) (zf (za ?_));refine xR (fun E S=>Has E [(0,.pointer (some ⟨rb,0,none⟩)),(1,.int .i64 n)]∧(cost n≠0∧¬(N:Int)-Wq L<cost n)∧zM S [wW rb N kv,HB]) ?_ fun E S ⟨hE,hn,hJ⟩=>?_
 ·refine zw (ze (z8 (yp (pI rfl) (yp (WA rfl rfl) (yp (pB rfl) (zf (za ?_)))))));by_cases h1:cost n=0
  ·rw[decide_eq_true h1];refine zC rfl (ze (z8 (yp pC (yp pC (zf (za (zH (bret (zP ?_)))))))));exact zG (Uz rfl rfl) ⟨_,.of,.inl ⟨3,by decide,by rw[if_pos h1],rfl,rfl⟩⟩
  rw[decide_eq_false h1];refine zA rfl (ze (z8 (yp (pI rfl) (yp (pP rfl) ?_))));refine zh (zm (QC (rb:=rb) hL hs) rfl rfl fun r S' h=>?_);obtain⟨rfl,rfl⟩:=h;refine yp (Va rfl rfl) (yp (pB rfl) (zf (za ?_)));by_cases h2:((N-Wq L:Nat):Int)<cost n
  ·rw[decide_eq_true h2];refine zC rfl (ze (z8 (yp pC (yp pC (zf (za (zH (bret (zP ?_)))))))));exact zG (Uz rfl rfl) ⟨_,.of,.inl ⟨4,by decide,by rw[if_neg h1,if_pos (by omega)],rfl,rfl⟩⟩
  rw[decide_eq_false h2];refine zA rfl (zx (zY (za ?_)));exact⟨⟨rfl,rfl,trivial⟩,⟨h1,by omega⟩,.of⟩
 obtain⟨m,rfl,hm,hcm⟩:=KS hn.1;obtain⟨a,c,rfl⟩:=hL.isSlice;obtain⟨E0,e0⟩:=zu hE; subst e0; clear hE;refine zy hJ (ze (z8 (yp pC (zf (za ?_)))));refine WW (fun E S=>∃k:Nat,Has E [(0,.pointer (some ⟨rb,0,none⟩)),(1,.int .i64 (m:Int)),(7,.int .i64 (k:Int))]∧dX k L∧(∀x,L[k]?=some x→x.h≠(k:Int)+1)∧zM S [wW rb N (.slice a L.length c),HB]) ?_ fun E S ⟨k,hE,hlead,hnext,hJ⟩=>?_
 ·refine zw ?_;refine Z7 (σ:=Nat) (fun k E S=>Has E [(0,.pointer (some ⟨rb,0,none⟩)),(1,.int .i64 (m:Int)),(7,.int .i64 (k:Int))]∧dX k L∧zM S [wW rb N (.slice a L.length c),HB]) (fun k=>L.length-k) 0
   ⟨⟨rfl,rfl,rfl,trivial⟩,⟨Nat.zero_le _,fun q x hq=>by omega⟩,.of⟩ fun k E S ⟨hE,hlead,hJ⟩=>?_
  have hkl:=hlead.le;obtain⟨E0,e0⟩:=zu hE; subst e0; clear hE;refine zy hJ (ze (ze (z8 (yp (pI rfl) (yp (pP rfl) (yp (zQ rfl) (yp (zl rfl) ?_)))))));refine zh (zo rfl rfl ?_);refine yp (Zq rfl) (yp (w9 rfl rfl) (yp (pB rfl) ?_));by_cases hk:k<L.length
  ·rw[decide_eq_true (show(k:Int)<(L.length:Int) from by omega)];obtain⟨b,sp,fz2,hz,rfl,_,rfl,rfl⟩:=hL.at' (by intro h; simp[h] at hk);have hxk:L[k]?=some L[k]:=List.getElem?_eq_getElem hk;have hld:((cells (L++sp)).toArray.toList)[0+k*2+0]?=some (.int .i64 L[k].h):=(Zn (kk:=2) (j:=0) hk rfl (by omega)).trans rfl;generalize L[k]=x at hxk hld;refine zV rfl (zZ (pP rfl) (zV rfl (zZ (zQ rfl) (zV rfl (zZ (zl rfl) (zV rfl ?_))))));refine(zo rfl rfl ?_);refine zV rfl (zZ (pI rfl) (zV rfl (zZ (zT rfl rfl (by omega)) (zV rfl (zZ (zl rfl) (zV rfl ?_))))));refine zo (v:= .int .i64 x.h) rfl hld ?_;refine zV rfl (zZ (pI rfl) (zV rfl (zZ (Z9 rfl rfl (by omega)) (zV rfl (zZ (WA rfl rfl) (yp (zD rfl rfl) (zf (za ?_))))))));by_cases he:x.h=((k+1:Nat):Int)
   ·rw[decide_eq_true he];refine zC rfl (zx (za (zw (z8 (yp (pI rfl) (yp (Z9 rfl rfl (by omega)) (yp (pI rfl) (zf (zY (za ?_))))))))));refine⟨k+1,⟨⟨rfl,rfl,rfl,trivial⟩,⟨by omega,fun q y hq hy=>?_⟩,.of⟩,by omega⟩;by_cases hqk:q=k
    ·subst hqk; rw[hxk] at hy; obtain rfl:=Option.some.inj hy; omega
    ·exact hlead.is q y (by omega) hy
   ·rw[decide_eq_false he];refine zA rfl (Z0 (zF (zF (Z4 (za ?_)))));exact⟨k,⟨rfl,rfl,rfl,trivial⟩,hlead,fun y hy=>by rw[hxk] at hy; obtain rfl:=Option.some.inj hy; omega,.of⟩
  ·rw[decide_eq_false (show ¬(k:Int)<(L.length:Int) from by omega)];refine zJ rfl (zJ rfl (zJ rfl (zJ rfl (zJ rfl (zJ rfl (zJ rfl (zJ rfl (zJ rfl (zJ rfl (zJ rfl (yp (zL rfl rfl) (zf (za (zA rfl (Z0 (zF (zF (Z4 (za ?_)))))))))))))))))));exact⟨k,⟨rfl,rfl,rfl,trivial⟩,hlead,fun y hy=>(by rw[List.getElem?_eq_none (by omega)] at hy; cases hy),.of⟩
 have hkl:=hlead.le;obtain⟨E0,e0⟩:=zu hE; subst e0; clear hE;refine zy hJ (ze (z8 (yp (pI rfl) (yp (Z9 rfl rfl (by omega)) (yp (pI rfl) ?_)))));refine zh (eu (m:=m) (cap:=m) rfl rfl (Nat.le_refl _) rfl (by omega) (by omega) fun p44=>?_);rw[uz (z:=[.int .u8 0]) m (0:UInt8) rfl];refine yp (UD (U4 rfl) (yN rfl)) ?_;refine zh (Zt fun p8=>?_);refine zh (ZX (c':=[.int .i64 ((k+1:Nat):Int),.slice (some ⟨p44,0,none⟩) m m]) rfl rfl rfl rfl rfl ?_);have hzl:(zeros m).length=m:=YE m;obtain⟨a1,c1,hp1,hY1⟩:=hL.KM (S:=[wW rb N (.slice a L.length c),HB]) (by simp) (k:=k) (kk:=2) hkl (E:=fun _=> .slice a L.length c) (x:= .tmp 0) (y:= .const (.int .i64 (k:Int))) rfl rfl;obtain⟨a2,c2,hp2,hY2⟩:=hL.Ko (S:=[wW rb N (.slice a L.length c),HB]) (by simp) (k:=k) (kk:=2) rfl hkl (E:=fun _=> .slice a L.length c) (x:= .tmp 0) (y:= .const (.int .i64 (k:Int))) rfl rfl;obtain⟨y,hy⟩:∃y:RB,y=⟨((k+1:Nat):Int),zeros m,some ⟨p44,0,none⟩,m⟩:=⟨_,rfl⟩
 have hye:enc y=[.int .i64 ((k+1:Nat):Int),.slice (some ⟨p44,0,none⟩) m m]:=by rw[hy]; show [_,Value.slice _ (zeros m).length m]=_; rw[hzl]
 have hyS:Zf 5 y.v y.b [(p44,.cells (cells (List.replicate m (0:UInt8))).toArray 5)]:=by
  rw[hy]; show Zf _ (.slice _ (zeros m).length m) (zeros m) _;rw[hzl]; exact Zf.full hzl.symm
 refine zf (za (ze (Za (zi (pP rfl) (zi (pP rfl) (zi (zQ rfl) (zi (zl rfl) (Zd rfl rfl (zi (pI rfl) ?_)))))))));refine zi (v:= .slice a1 k c1) hp1 ?_
 skip
 refine ji (l:=enc y) rfl (by rw[hye]; rfl) rfl (zi (pP rfl) (zi (zQ rfl) (zi (zl rfl) (Zd rfl rfl (zi (pI rfl) ?_)))));refine zi (v:= .slice a2 (L.length-k) c2) hp2 ?_;refine zX (U2 fun p47=>⟨by simp,?_⟩) ?_
 ·refine zX (Zj rfl rfl Zf.empty (hY1.mono (by simp)) rfl RB.z rfl (by rw[List.length_take]; simp; omega) (by rw[List.length_take]; simp; omega) fun v1 H1 hL1=>⟨by simp,?_⟩) ?_
  ·refine zX (Zu y rfl rfl (by decide) (by decide) rfl fun p56=>⟨by simp,?_⟩) zK;refine zX (Zj (Y:=[y]) rfl rfl hL1 (.lit (b:=p56) (e:=122) (by simp) rfl) rfl RB.z rfl (by simp; omega) (by simp; omega) fun v2 H2 hL2=>⟨by simp,?_⟩) zK;refine zO (Zj (Y:=L.drop k) rfl rfl hL2 (hY2.mono (by simp)) rfl RB.z rfl (by simp; omega) (by simp; omega) fun v3 H3 hL3=>?_) zK;rw[List.nil_append,List.append_assoc,List.singleton_append] at hL3;obtain⟨a3,c3,rfl⟩:=hL3.isSlice;refine zi (zQ rfl) (zi (zl rfl) ?_);refine zO (uI rfl rfl (yN rfl) ?_) zK;refine zN (za (ze (z8 (yp (pI rfl) (yp (Z9 rfl rfl (by omega)) (yp (pI rfl) (yp pC (zf (za (zH ?_))))))))));exact zG (Uz rfl rfl) ⟨_,.of,.inr ⟨k,m,y,.slice a3 (L.take k++y::L.drop k).length c3,[(p44,.cells (cells (List.replicate m (0:UInt8))).toArray 5)],H3,rfl,hlead,hnext,hn.1,hn.2,rfl,by rw[hy]; show((k+1:Nat):Int)=_; omega,by rw[hy],by rw[hy],hL3,hyS,rfl⟩⟩
  ·refine zX (Zu y rfl rfl (by decide) (by decide) rfl fun p56=>⟨by simp,?_⟩) zK;refine zX (Zj rfl rfl Zf.empty (hY1.mono (by simp)) rfl RB.z rfl (by rw[List.length_take]; simp; omega) (by rw[List.length_take]; simp; omega) fun v1 H1 hL1=>⟨by simp,?_⟩) zK;refine zX (Zj (Y:=[y]) rfl rfl hL1 (.lit (b:=p56) (e:=122) (by simp) rfl) rfl RB.z rfl (by simp; omega) (by simp; omega) fun v2 H2 hL2=>⟨by simp,?_⟩) zK;refine zO (Zj (Y:=L.drop k) rfl rfl hL2 (hY2.mono (by simp)) rfl RB.z rfl (by simp; omega) (by simp; omega) fun v3 H3 hL3=>?_) zK;rw[List.nil_append,List.append_assoc,List.singleton_append] at hL3;obtain⟨a3,c3,rfl⟩:=hL3.isSlice;refine zi (zQ rfl) (zi (zl rfl) ?_);refine zO (uI rfl rfl (yN rfl) ?_) zK;refine zN (za (ze (z8 (yp (pI rfl) (yp (Z9 rfl rfl (by omega)) (yp (pI rfl) (yp pC (zf (za (zH ?_))))))))));exact zG (Uz rfl rfl) ⟨_,.of,.inr ⟨k,m,y,.slice a3 (L.take k++y::L.drop k).length c3,[(p44,.cells (cells (List.replicate m (0:UInt8))).toArray 5)],H3,rfl,hlead,hnext,hn.1,hn.2,rfl,by rw[hy]; show((k+1:Nat):Int)=_; omega,by rw[hy],by rw[hy],hL3,hyS,rfl⟩⟩
 ·refine zX (Zu y rfl rfl (by decide) (by decide) rfl fun p56=>⟨by simp,?_⟩) zK;refine zX (U2 fun p47=>⟨by simp,?_⟩) zK;refine zX (Zj rfl rfl Zf.empty (hY1.mono (by simp)) rfl RB.z rfl (by rw[List.length_take]; simp; omega) (by rw[List.length_take]; simp; omega) fun v1 H1 hL1=>⟨by simp,?_⟩) zK;refine zX (Zj (Y:=[y]) rfl rfl hL1 (.lit (b:=p56) (e:=122) (by simp) rfl) rfl RB.z rfl (by simp; omega) (by simp; omega) fun v2 H2 hL2=>⟨by simp,?_⟩) zK;refine zO (Zj (Y:=L.drop k) rfl rfl hL2 (hY2.mono (by simp)) rfl RB.z rfl (by simp; omega) (by simp; omega) fun v3 H3 hL3=>?_) zK;rw[List.nil_append,List.append_assoc,List.singleton_append] at hL3;obtain⟨a3,c3,rfl⟩:=hL3.isSlice;refine zi (zQ rfl) (zi (zl rfl) ?_);refine zO (uI rfl rfl (yN rfl) ?_) zK;refine zN (za (ze (z8 (yp (pI rfl) (yp (Z9 rfl rfl (by omega)) (yp (pI rfl) (yp pC (zf (za (zH ?_))))))))));exact zG (Uz rfl rfl) ⟨_,.of,.inr ⟨k,m,y,.slice a3 (L.take k++y::L.drop k).length c3,[(p44,.cells (cells (List.replicate m (0:UInt8))).toArray 5)],H3,rfl,hlead,hnext,hn.1,hn.2,rfl,by rw[hy]; show((k+1:Nat):Int)=_; omega,by rw[hy],by rw[hy],hL3,hyS,rfl⟩⟩
def blk(i:Nat):List (Option Bt)→List (Int × Bt)
 | []=>[]
 | none::l=>blk (i+1) l
 | some b::l=>((i:Int)+1,b)::blk (i+1) l
theorem yG:∀(D:List (Option Bt)) (i:Nat),((blk i D).map fun x=>Z6 x.2.length).sum=Z8 D
 | [],_=>rfl
 | none::l,i=>by rw[wI,blk,yG l]; simp[X6]
 | some b::l,i=>by rw[wI,blk,List.map_cons,List.sum_cons,yG l]; simp[X6]
theorem kT:∀(D:List (Option Bt)) (i:Nat),(blk i D).length≤D.length
 | [],_=>Nat.le_refl _
 | none::l,i=>by rw[blk]; have:=kT l (i+1); simp; omega
 | some b::l,i=>by rw[blk]; have:=kT l (i+1); simp; omega
theorem kS:∀(D:List (Option Bt)) (i:Nat) (e:Int × Bt),e∈blk i D→∃k:Nat,D[k]?=some (some e.2)
 | [],_,e,h=>by cases h
 | none::l,i,e,h=>by
  obtain⟨k,hk⟩:=kS l (i+1) e h;exact⟨k+1,by simpa using hk⟩
 | some b::l,i,e,h=>by
  rcases List.mem_cons.1 h with rfl | h
  ·exact⟨0,rfl⟩
  ·obtain⟨k,hk⟩:=kS l (i+1) e h;exact⟨k+1,by simpa using hk⟩
def fb(h:Int):List (Int × Bt)→Option (Nat × Bt)
 | []=>none
 | x::l=>if x.1=h then some (0,x.2) else(fb h l).map fun y=>(y.1+1,y.2)
theorem jG(h:Int):∀L:List RB,(KA h L=none∧fb h (told L)=none)∨(∃i x,KA h L=some i∧L[i]?=some x∧x.h=h∧fb h (told L)=some (i,x.b))
 | []=> .inl ⟨rfl,rfl⟩
 | x::l=>by
  by_cases hx:x.h=h
  ·exact .inr ⟨0,x,by rw[KA,if_pos hx],rfl,hx,by show(if x.h=h then _ else _)=_; rw[if_pos hx]⟩
  ·have e:fb h (told (x::l))=(fb h (told l)).map fun y=>(y.1+1,y.2):=by show(if x.h=h then _ else _)=_; rw[if_neg hx]; rfl
   rcases jG h l with⟨h1,h2⟩ | ⟨i,y,h1,h2,h3,h4⟩
   ·exact .inl ⟨by rw[KA,if_neg hx,h1]; rfl,by rw[e,h2]; rfl⟩
   ·exact .inr ⟨i+1,y,by rw[KA,if_neg hx,h1]; rfl,by simpa using h2,h3,by rw[e,h4]; rfl⟩
theorem UK:∀(D:List (Option Bt)) (i:Nat) (h:Int),h≤i→fb h (blk i D)=none
 | [],_,_,_=>rfl
 | none::l,i,h,hh=>by rw[blk]; exact UK l (i+1) h (by omega)
 | some b::l,i,h,hh=>by
  rw[blk,fb,if_neg (by simp only; omega),UK l (i+1) h (by omega)]; rfl
theorem kU:∀(D:List (Option Bt)) (i k:Nat),(fb ((i:Int)+k+1) (blk i D)).map (·.2)=(D[k]?).join
 | [],i,k=>by simp[blk,fb]
 | none::l,i,0=>by rw[blk,UK l (i+1) _ (by omega)]; rfl
 | none::l,i,k+1=>by
  have:=kU l (i+1) k;rw[blk,List.getElem?_cons_succ, ←this];congr 2; omega
 | some b::l,i,0=>by rw[blk,fb,if_pos (by simp)]; rfl
 | some b::l,i,k+1=>by
  have:=kU l (i+1) k;rw[blk,fb,if_neg (by simp only; omega),List.getElem?_cons_succ, ←this,Option.map_map];have e:((i:Int)+((k+1:Nat):Int)+1)=(((i+1:Nat):Int)+(k:Int)+1):=by omega
  rw[e]; rfl
theorem bg(D:List (Option Bt))(h:Int):(fb h (blk 0 D)).map (·.2)=Zb D h:=by
 by_cases h1:1≤h
 ·obtain⟨k,rfl⟩:∃k:Nat,h=(k:Int)+1:=⟨(h-1).toNat,by omega⟩
  have:=kU D 0 k;rw[ZE, ←this];congr 2; omega
 ·rw[UK D 0 h (by omega)];unfold Zb; rw[if_neg h1]; rfl
theorem kR:∀(D:List (Option Bt)) (i:Nat) (h:Int) (j:Nat) (b:Bt),fb h (blk i D)=some (j,b)→
 ∃k:Nat,h=(i:Int)+k+1∧D[k]?=some (some b)∧(∀Y,blk i (D.set k (some Y))=(blk i D).set j (h,Y))∧blk i (D.set k none)=(blk i D).eraseIdx j
 | [],i,h,j,b,e=>by cases e
 | none::l,i,h,j,b,e=>by
  rw[blk] at e;obtain⟨k,h1,h2,h3,h4⟩:=kR l (i+1) h j b e;exact⟨k+1,by omega,by simpa using h2,fun Y=>by rw[List.set_cons_succ,blk,blk,h3],by rw[List.set_cons_succ,blk,blk,h4]⟩
 | some c::l,i,h,j,b,e=>by
  rw[blk,fb] at e;split at e
  ·next hx=>
   obtain⟨rfl,rfl⟩:0=j∧c=b:=by have:=Option.some.inj e; exact⟨congrArg Prod.fst this,congrArg Prod.snd this⟩
   exact⟨0,by simp only at hx; omega,rfl,fun Y=>by rw[List.set_cons_zero,blk,blk,List.set_cons_zero]; simp only at hx; rw[hx],by rw[List.set_cons_zero,blk,blk]; rfl⟩
  ·next hx=>
   cases hf:fb h (blk (i+1) l) with
   | none=>rw[hf] at e; cases e
   | some z=>
    obtain⟨j2,b2⟩:=z;rw[hf] at e;obtain⟨rfl,rfl⟩:j2+1=j∧b2=b:=by have:=Option.some.inj e; exact⟨congrArg Prod.fst this,congrArg Prod.snd this⟩
    obtain⟨k,h1,h2,h3,h4⟩:=kR l (i+1) h j2 b2 hf;exact⟨k+1,by omega,by simpa using h2,fun Y=>by rw[List.set_cons_succ,blk,blk,h3,List.set_cons_succ],by rw[List.set_cons_succ,blk,blk,h4,List.eraseIdx_cons_succ]⟩
theorem KZ(b:Bt)(l:List (Option Bt))(m:Nat):Zc (some b::l) m=some b::Zc l m:=by
 have hp:=wu l;unfold Zc;have e:hnd (some b::l)=hnd l+1:=rfl;by_cases h:hnd l≤l.length
 ·rw[if_pos (by rw[e]; simp; omega),if_pos h,e,show hnd l+1-1=(hnd l-1)+1 from by omega,List.set_cons_succ]
 ·rw[if_neg (by rw[e]; simp; omega),if_neg h]; rfl
theorem xM:∀(D:List (Option Bt)) (i:Nat) (e:Int × Bt),e∈blk i D→(i:Int)+1≤e.1
 | [],_,e,h=>by cases h
 | none::l,i,e,h=>by have:=xM l (i+1) e h; omega
 | some b::l,i,e,h=>by
  rcases List.mem_cons.1 h with rfl | h
  ·simp
  ·have:=xM l (i+1) e h; omega
theorem Yy(m:Nat):∀(D:List (Option Bt)) (i:Nat),(hnd D-1≤(blk i D).length)∧(∀q e,q<hnd D-1→(blk i D)[q]?=some e→e.1=(i:Int)+q+1)∧(∀e,(blk i D)[hnd D-1]?=some e→e.1≠(i:Int)+(hnd D-1:Nat)+1)∧
 blk i (Zc D m)=(blk i D).take (hnd D-1)++((i:Int)+(hnd D-1:Nat)+1,zeros m)::(blk i D).drop (hnd D-1)
 | [],i=>⟨Nat.zero_le _,fun q e hq=>by simp[hnd] at hq,fun e h=>by simp[blk] at h,by simp[Zc,hnd,blk]⟩
 | none::l,i=>by
  refine⟨Nat.zero_le _,fun q e hq=>by simp[hnd] at hq,fun e h=>?_,by simp[Zc,hnd,blk]⟩;have:e∈blk (i+1) l:=List.mem_of_getElem? h;have:=xM l (i+1) e this;simp[hnd]; omega
 | some b::l,i=>by
  obtain⟨h0,h1,h2,h3⟩:=Yy m l (i+1);have hp:=wu l;have e1:hnd (some b::l)-1=(hnd l-1)+1:=by show hnd l+1-1=_; omega
  rw[e1,blk];refine⟨by simp; omega,fun q e hq he=>?_,fun e he=>?_,?_⟩
  ·cases q with
   | zero=>obtain rfl:=Option.some.inj he; simp
   | succ q=>have:=h1 q e (by omega) (by simpa using he); omega
  ·have:=h2 e (by simpa using he); omega
  ·rw[KZ,blk,h3,List.take_succ_cons,List.drop_succ_cons,List.cons_append];congr 3
   ·congr 1; congr 1; omega
/-- the document's arena, as one piece of memory, beside what is read -/
def Rf(rb N:Nat)(D:List (Option Bt))(S1:zq)(T:List Chunk):Prop:=
 ∃(kv:Value) (L:List RB) (HB:List Chunk),Zf 122 kv L HB∧told L=blk 0 D∧(∀x∈L,Src S1 x.v x.b∧x.b.length≤x.c)∧T=wW rb N kv++HB
theorem Yg{α β:Type}(f:α→β):∀(L:List α) (i:Nat),(L.eraseIdx i).map f=(L.map f).eraseIdx i
 | [],_=>rfl
 | a::L,0=>rfl
 | a::L,i+1=>by rw[List.eraseIdx_cons_succ,List.map_cons,Yg f L i,List.map_cons,List.eraseIdx_cons_succ]
theorem jw(L:List RB):Wq L=((told L).map fun x=>Z6 x.2.length).sum:=by simp[Wq,told]; rfl
theorem X9{N:Nat}{D:List (Option Bt)}{L:List RB}(h:told L=blk 0 D)(hD:U7 N D):sV N L∧Wq L=Z8 D∧∀x∈L,x.b.length≤4096:=by
 have hl:L.length=(blk 0 D).length:=by rw[←h]; simp[told]
 have hb:=kT D 0;have hu:Wq L=Z8 D:=by rw[jw,h,yG]
 have hl2:=hD.len;have hb2:=hD.big;have he:∀x∈L,x.b.length≤4096:=fun x hx=>by
  have:(x.h,x.b)∈blk 0 D:=by rw[←h]; exact List.mem_map.2 ⟨x,hx,rfl⟩
  obtain⟨k,hk⟩:=kS D 0 _ this;exact hD.each k _ hk
 exact⟨⟨by omega,by omega,he,by rw[hu]; exact hD.used⟩,hu,he⟩
theorem Rf.mono{rb N:Nat}{D:List (Option Bt)}{S1 S2:zq}{T:List Chunk}(h:Rf rb N D S1 T)(hs:∀s∈S1,s∈S2):Rf rb N D S2 T:=by
 obtain⟨kv,L,HB,h1,h2,h3,h4⟩:=h;exact⟨kv,L,HB,h1,h2,fun x hx=>⟨(h3 x hx).1.mono hs,(h3 x hx).2⟩,h4⟩
theorem zM.U6{a b:List Chunk}{S1:zq}:zM (a::b::S1) ((a++b)::S1):=⟨[],by simp⟩
theorem Tri.U9{f:FuncId}{args:Array Value}{a b:List Chunk}{S0:zq}{R:Value→zq→Prop}(h:Tri Tryz.prog f args (a::b::S0) R):Tri Tryz.prog f args ((a++b)::S0) R:=h.perm (by simp)
theorem QF{rb N:Nat}{D:List (Option Bt)}{S1:zq}{T:List Chunk}(hR:Rf rb N D S1 T)(hD:U7 N D):Tri Tryz.prog 22 #[.pointer (some ⟨rb,0,none⟩)] [T] (fun r S=>r= .int .i64 (Z8 D:Nat)∧S=[T]):=by
 obtain⟨kv,L,HB,hL,ht,hS,rfl⟩:=hR;obtain⟨hs,hu,he⟩:=X9 ht hD;refine Tri.forget (Tri.U9 ((QB (rb:=rb) hL hs).mono fun r S h=>?_));obtain⟨rfl,rfl⟩:=h;exact⟨_,zM.U6,by rw[hu],rfl⟩
theorem gU{rb N:Nat}{D:List (Option Bt)}{S1:zq}{T:List Chunk}(hR:Rf rb N D S1 T)(hD:U7 N D):Tri Tryz.prog 66 #[.pointer (some ⟨rb,0,none⟩)] [T] (fun r S=>r= .int .i64 ((N-Z8 D:Nat):Int)∧S=[T]):=by
 obtain⟨kv,L,HB,hL,ht,hS,rfl⟩:=hR;obtain⟨hs,hu,he⟩:=X9 ht hD;refine Tri.forget (Tri.U9 ((QC (rb:=rb) hL hs).mono fun r S h=>?_));obtain⟨rfl,rfl⟩:=h;exact⟨_,zM.U6,by rw[hu],rfl⟩
theorem QI{rb N:Nat}{D:List (Option Bt)}{S1:zq}{T:List Chunk}(hR:Rf rb N D S1 T)(hD:U7 N D)(h:Int):Tri Tryz.prog 73 #[.pointer (some ⟨rb,0,none⟩),.int .i64 h] [T] (fun r S=>r= .int .i64 (XY D h)∧∃T',Rf rb N (wB D h) S1 T'∧S=[T']):=by
 obtain⟨kv,L,HB,hL,ht,hS,rfl⟩:=hR;obtain⟨hs,hu,he⟩:=X9 ht hD;have hg:=bg D h;refine Tri.forget (Tri.U9 ((gT (rb:=rb) (N:=(N:Int)) hL hs.len h).mono fun r S h=>?_));rcases h with⟨h1,rfl,rfl⟩ | ⟨i,kv',HB',h1,rfl,hL',rfl⟩
 ·rcases jG h L with⟨_,h2⟩ | ⟨i,x,h2,_⟩
  ·rw[←ht,h2] at hg;have hn:Zb D h=none:=hg.symm;refine⟨_,zM.U6,by unfold XY; rw[hn]; rfl,_,⟨kv,L,HB,hL,?_,hS,rfl⟩,rfl⟩;unfold wB; rw[hn]; exact ht
  ·rw[h1] at h2; cases h2
 ·rcases jG h L with⟨h2,_⟩ | ⟨j,x,h2,h3,h4,h5⟩
  ·rw[h1] at h2; cases h2
  ·rw[h1] at h2;obtain rfl:=Option.some.inj h2;rw[ht] at h5;obtain⟨k,e1,e2,e3,e4⟩:=kR D 0 h i x.b h5;rw[h5] at hg;have hn:Zb D h=some x.b:=hg.symm;refine⟨_,zM.U6,by unfold XY; rw[hn]; rfl,_,⟨kv',L.eraseIdx i,HB',hL',?_,fun y hy=>hS y ((List.eraseIdx_sublist L i).subset hy),rfl⟩,rfl⟩;unfold wB;rw[hn,if_pos (show(some x.b).isSome=true from rfl),show(h-1).toNat=k from by omega,e4, ←ht];unfold told;exact(Yg (fun x:RB=>(x.h,x.b)) L i)
theorem Jq{rb N:Nat}{D:List (Option Bt)}{S1:zq}{T:List Chunk}(hR:Rf rb N D S1 T)(hD:U7 N D)(n:Int):Tri Tryz.prog 68 #[.pointer (some ⟨rb,0,none⟩),.int .i64 n] [T] (fun r S=>
 (Zm N D n≠0∧r= .tuple #[.int .i64 0,.int .i64 (Zm N D n)]∧S=[T])∨(Zm N D n=0∧∃(m:Nat) (T' x:List Chunk),n=m∧r= .tuple #[.int .i64 (hnd D:Nat),.int .i64 0]∧Rf rb N (Zc D m) (x::S1) T'∧S=[x,T'])):=by
 obtain⟨kv,L,HB,hL,ht,hS,rfl⟩:=hR;obtain⟨hs,hu,he⟩:=X9 ht hD;refine Tri.forget (Tri.U9 ((dz (rb:=rb) hL hs n).mono fun r S h=>?_));rw[hu] at h;rcases h with⟨e,h1,h2,rfl,rfl⟩ | ⟨k,m,y,kv',HN,HB',rfl,hlead,hnext,hc0,hcu,rfl,hyh,hyb,hyc,hL',hyS,rfl⟩
 ·have hE:Zm N D n=e:=h2.symm;exact⟨_,zM.U6,.inl ⟨by rw[hE]; exact h1,by rw[hE],rfl⟩⟩
 ·have hE:Zm N D m=0:=by unfold Zm; rw[if_neg hc0,if_neg hcu]
  obtain⟨b0,b1,b2,b3⟩:=Yy m D 0;have hp:=wu D;have hget:∀(q:Nat) (x:RB),L[q]?=some x→(blk 0 D)[q]?=some (x.h,x.b):=fun q x hq=>by rw[←ht]; unfold told; rw[List.getElem?_map,hq]; rfl
  have hll:L.length=(blk 0 D).length:=by rw[←ht]; simp[told]
  have hkl:=hlead.le;have hk:k=hnd D-1:=by
   rcases Nat.lt_trichotomy k (hnd D-1) with h | h | h
   ·have hlt:k<L.length:=by omega
    have hxk:L[k]?=some L[k]:=List.getElem?_eq_getElem hlt;have:=b1 k _ h (hget k _ hxk);have:=hnext _ hxk;simp only at*; omega
   ·exact h
   ·have hlt:hnd D-1<L.length:=by omega
    have hxk:L[hnd D-1]?=some L[hnd D-1]:=List.getElem?_eq_getElem hlt;have:=b2 _ (hget _ _ hxk);have:=hlead.is _ _ h hxk;simp only at*; omega
  refine⟨[HN,wW rb N kv'++HB'],⟨[],by simp⟩,.inr ⟨hE,m,_,HN,rfl,?_,⟨kv',_,HB',hL',?_,fun x hx=>?_,rfl⟩,rfl⟩⟩
  ·rw[show k+1=hnd D from by omega]
  ·rw[b3, ←ht, ←hk];unfold told;rw[List.map_append,List.map_cons,List.map_take,List.map_drop,hyh,hyb];congr 3; omega
  ·rcases List.mem_append.1 hx with hx | hx
   ·have:=hS x (List.mem_of_mem_take hx);exact⟨this.1.mono fun s hs=>List.mem_cons_of_mem _ hs,this.2⟩
   ·rcases List.mem_cons.1 hx with rfl | hx
    ·exact⟨hyS.src List.mem_cons_self,by rw[hyb,hyc,YE]; exact Nat.le_refl _⟩
    ·have:=hS x (List.mem_of_mem_drop hx);exact⟨this.1.mono fun s hs=>List.mem_cons_of_mem _ hs,this.2⟩
theorem Rf.start{rb N:Nat}{S1:zq}:Rf rb N [] S1 (wW rb N (.slice none 0 0)):=⟨.slice none 0 0,[],[],.nil,rfl,fun x hx=>by simp at hx,by simp⟩
end Go.Proofs.YtekgciopamkjlaaGreat
