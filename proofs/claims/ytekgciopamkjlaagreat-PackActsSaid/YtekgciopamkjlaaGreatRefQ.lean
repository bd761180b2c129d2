/- The document's own answer (freshetref6): what a set costs, a set put, and taken. -/
import Derived.Test.YtekgciopamkjlaaGreatRefP
import Derived.Test.YtekgciopamkjlaaGreatI1
import Derived.Test.YtekgciopamkjlaaGreatP3
namespace Go.Proofs.YtekgciopamkjlaaGreat
open Go.Xs
open Enc (enc)
set_option maxRecDepth 10000 in
set_option maxHeartbeats 4000000 in
theorem Qx{S:zq}{s:St}{v:Value}{rt rb:Nat}{L:List Nm}{T:List Chunk}(hT:Rt rt rb L T)(hlen:L.length<2 ^ 30)(hs:yP s)(hv:Src S v s.rrs):Tri Tryz.prog 18 #[.pointer (some ⟨rt,0,none⟩),.agg (Y9 s v)] (T::S) (fun x S'=>x= .int .i64 (Wd L s)∧S'=T::S):=by
 refine Tri.forget (zB Tryz.BS (Nat.le_of_ble_eq_true rfl) ?_);unfold Tryz.Dl;obtain⟨a,c,rfl⟩:=hv.isSlice;refine ze (z8 ?_);refine zh (Wp rfl fun p3=>?_);refine yp pC (zf (za (ze (z8 ?_))));refine zh (Xt rfl rfl ?_);refine zh (zm (jE hs hv) rfl rfl fun r' S' h=>?_);obtain⟨rfl,hSS⟩:=h;have hSS:=hSS.symm;subst hSS;refine yp (pU rfl) (yp (pExt rfl rfl) (yp (pExt rfl rfl) (yp (pI rfl) (yp (pI rfl) (zf (za (ze (ze (z8 (yp (pI rfl) (yp (uW rfl rfl) (zf (za ?_)))))))))))));by_cases hE:ZL s=0
 case neg=>
  have hC:Wd L s=0:=by unfold Wd; rw[if_neg hE]
  rw[decide_eq_false hE];refine zC rfl (ze (z8 (yp pC (zf (za (zH (zP ?_)))))));exact zG (rI rfl) ⟨_,.of,by rw[hC],rfl⟩
 have hm:WC s=true:=by
  cases hm:WC s with
  | true=>rfl
  | false=>unfold ZL at hE; rw[if_pos hm] at hE; cases hE
 have hZ:WL s=Zg s:=by unfold WL; rw[if_pos hE]
 have hC:Wd L s=cost (Zg s)+(wG L [] (zS s):Nat):=by unfold Wd; rw[if_pos hE]
 rw[decide_eq_true hE,hZ];refine zA rfl (zx (za (ze (z8 (yp (pI rfl) ?_)))));refine zh (zm (YW (Zg s)) rfl rfl fun r' S' h=>?_);obtain⟨rfl,rfl⟩:=h;refine yp (pI rfl) (zf (za (ze (z8 ?_))));refine zh (Xt rfl rfl ?_);refine zh (zm (Jo hs hm hv) rfl rfl fun r' S' h=>?_);obtain⟨HN,hN,hSS⟩:=h;subst hSS;obtain⟨na,nc,rfl⟩:=hN.isSlice;rw[wQ] at hN ⊢;have hnl:=vK s;have hrr:=hs.rrs;have hcb:0≤cost (Zg s)∧cost (Zg s)≤8192:=by
  have:=yu (Zg s).toNat;unfold cost;split<;>omega
 have htot:=yw L (zS s) [];refine yp (pS rfl) (zf (za (ze (ze (z8 (yp pC (zf (za (zw ?_)))))))));refine Z7 (σ:=Nat) (fun i E S'=>∃(acc:Nat),Has E [(0,.pointer (some ⟨rt,0,none⟩)),(7,.int .i64 (cost (Zg s)+(acc:Nat))),(8,.slice na (zS s).length nc),(9,.int .i64 (i:Int))]∧i≤(zS s).length∧acc+wG L (((zS s).take i).map zk) ((zS s).drop i)=wG L [] (zS s)∧zM S' (HN::T::S)) (fun i=>(zS s).length-i) 0
  ⟨0,⟨rfl,by show Value.int _ _=_; congr 1; omega,rfl,rfl,trivial⟩,Nat.zero_le _,by rw[List.drop_zero,Nat.zero_add]; rfl,.of⟩ fun i E S' ⟨acc,hE2,hi,hacc,hJ⟩=>?_
 obtain⟨E0,e0⟩:=zu hE2; subst e0; clear hE2;refine zy hJ (ze (ze (z8 (yp (pI rfl) (yp (pS rfl) (yp (Zq rfl) (yp (w9 rfl rfl) (zf (za ?_)))))))));refine zU rfl (fun h=>?_) (fun h=>?_)
 ·have hlt:i<(zS s).length:=by omega
  have hdr:(zS s).drop i=(zS s)[i]::(zS s).drop (i+1):=List.drop_eq_getElem_cons hlt;have htk:(zS s).take (i+1)=(zS s).take i++[(zS s)[i]]:=List.take_succ_eq_append_getElem hlt;have hvl:=vM hm _ (List.getElem_mem hlt);have hsr:Src (HN::T::S) (.slice na (bss (zS s)).length nc) (bss (zS s)):=by rw[wQ]; exact hN.src (List.mem_cons_self ..)
  obtain⟨b1,o1,ca1,ty1,fz1,rfl,hm1,_,hg1⟩:=wR hsr (i:=i) (by rw[wQ]; exact hlt);have hgn:ca1.toList[o1+i*1]?=some (sv (zS s)[i]):=(hg1 0 (by decide)).trans (by unfold bss; rw[List.getElem_map]; rfl);generalize hn:(zS s)[i]=n at hdr htk hvl hgn;have h255:=ZQ hvl;rw[hdr,wG] at hacc;refine zx (za (ze (zw (ze (z8 (yp pC (zf (za (ze (ze (z8 (yp pC (zf (za (zw ?_)))))))))))))));refine Z7 (σ:=Nat) (fun k E S'=>Has E [(0,.pointer (some ⟨rt,0,none⟩)),(7,.int .i64 (cost (Zg s)+(acc:Nat))),(8,.slice (some ⟨b1,o1,none⟩) (zS s).length nc),(9,.int .i64 (i:Int)),(10,.bool (decide (zk n∈((zS s).take k).map zk))),(11,.int .i64 (k:Int))]∧k≤i∧zM S' (HN::T::S)) (fun k=>i-k) 0
   ⟨⟨rfl,rfl,rfl,rfl,rfl,rfl,trivial⟩,Nat.zero_le _,.of⟩ fun k E S' ⟨hE3,hk,hJ⟩=>?_
  obtain⟨E0,e0⟩:=zu hE3; subst e0; clear hE3;refine zy hJ (ze (ze (z8 (yp (pI rfl) (yp (pI rfl) (yp (w9 rfl rfl) (zf (za ?_))))))));refine zU rfl (fun h=>?_) (fun h=>?_)
  ·have hkk:k<(zS s).length:=by omega
   have htk2:(zS s).take (k+1)=(zS s).take k++[(zS s)[k]]:=List.take_succ_eq_append_getElem hkk;obtain⟨b2,o2,ca2,ty2,fz2,hab,hm2,_,hg2⟩:=wR hsr (i:=k) (by rw[wQ]; exact hkk);obtain⟨rfl,rfl⟩:b1=b2∧o1=o2:=by injection hab with h; injection h; exact⟨by assumption,by assumption⟩
   have hgm:ca2.toList[o1+k*1]?=some (sv (zS s)[k]):=(hg2 0 (by decide)).trans (by unfold bss; rw[List.getElem_map]; rfl);have hvm:=vM hm _ (List.getElem_mem hkk);generalize (zS s)[k]=m at htk2 hgm hvm;have h255m:=ZQ hvm;cases hb:decide (zk n∈((zS s).take k).map zk) with
   | true=>
    refine zx (za (ze (zw (Za (zi (pB rfl) (zi (pB rfl) (Z5 rfl (Z5 rfl (Z5 rfl (Z5 rfl (Z5 rfl (Z5 rfl (Z5 rfl (Z5 rfl ?_))))))))))))));refine vQ rfl ?_ zK;refine vQ rfl ?_ zK;refine Z5 rfl (zi (zD rfl rfl) (zi (pB rfl) (zN (zY (za (z8 (yp (pI rfl) (yp (Z9 rfl rfl (by omega)) (yp (pI rfl) (zf (za ?_)))))))))));refine⟨k+1,⟨⟨rfl,rfl,rfl,rfl,?_,rfl,trivial⟩,by omega,.of⟩,by omega⟩;show Value.bool true=_;rw[decide_eq_true (show zk n∈((zS s).take (k+1)).map zk from by rw[htk2,List.map_append]; exact List.mem_append.2 (.inl (of_decide_eq_true hb)))]
   | false=>
    refine zx (za (ze (zw (Za (zi (pB rfl) (zi (pB rfl) (zR rfl (zi (pS rfl) (zR rfl (zi (pI rfl) (zR rfl (zi (zT rfl rfl (by omega)) (zR rfl (UW (show _∈_ from by repeat (first | exact hm2 | apply List.mem_cons_of_mem)) rfl hgm (zR rfl (zi (pS rfl) (zR rfl (zi (pI rfl) (zR rfl (zi (zT rfl rfl (by omega)) (zR rfl (UW (show _∈_ from by repeat (first | exact hm1 | apply List.mem_cons_of_mem)) rfl hgn ?_))))))))))))))))))))));refine ZP rfl ?_ zK;refine zX (zm (VZ m (by omega)) rfl rfl fun r' S' h=>?_) zK;obtain⟨rfl,rfl⟩:=h;refine⟨by simp,?_⟩;refine ZP rfl ?_ zK;refine zO (zm (VZ n (by omega)) rfl rfl fun r' S' h=>?_) zK;obtain⟨rfl,rfl⟩:=h;refine zR rfl (zi (av rfl rfl) (zi (zL rfl rfl) (zi (pB rfl) (zN (zY (za (z8 (yp (pI rfl) (yp (Z9 rfl rfl (by omega)) (yp (pI rfl) (zf (za ?_))))))))))));refine⟨k+1,⟨⟨rfl,rfl,rfl,rfl,?_,rfl,trivial⟩,by omega,.of⟩,by omega⟩;show Value.bool _=Value.bool _;have hnb:=of_decide_eq_false hb;rw[htk2,List.map_append];congr 1;rw[Bool.eq_iff_iff,decide_eq_true_iff,decide_eq_true_iff,List.mem_append,XC];exact⟨fun h=> .inr (List.mem_singleton.2 h.symm),fun h=>by rcases h with h | h; exact absurd h hnb; exact(List.mem_singleton.1 h).symm⟩
  ·have hki:k=i:=by omega
   subst hki;refine Z0 (zF (zF (Z4 (za (ze (z8 (yp (pB rfl) (yp (Ze rfl) (zf (za ?_))))))))));have hcg:=Vo (L:=L) (l:=(zS s).drop (k+1)) (s:=zk n::((zS s).take k).map zk) (s':=((zS s).take (k+1)).map zk) fun m=>by
    rw[htk,List.map_append,List.mem_append,List.mem_cons];simp[or_comm]
   rw[hcg] at hacc;by_cases hin:zk n∈((zS s).take k).map zk
   ·rw[if_pos (.inl hin),Nat.zero_add] at hacc;rw[decide_eq_true hin];refine zA rfl (zx (zY (za (z8 (yp (pI rfl) (yp (Z9 rfl rfl (by omega)) (yp (pI rfl) (zf (za ?_)))))))));exact⟨k+1,⟨acc,⟨rfl,rfl,rfl,rfl,trivial⟩,by omega,hacc,.of⟩,by omega⟩
   ·rw[decide_eq_false hin];refine zC rfl (z8 (yp (pI rfl) (yp (pP rfl) (yp (pS rfl) (yp (pI rfl) (yp (zT rfl rfl (by omega)) ?_))))));refine zh (wY (show _∈_ from by repeat (first | exact hm1 | apply List.mem_cons_of_mem)) rfl hgn ?_)
    skip
    refine zh (zm (gN hT hlen n (by omega)) rfl rfl fun r' S' h=>?_);obtain⟨rfl,rfl⟩:=h;rw[hvl];have hcc:cost (8+(n.length:Int))=(Z6 (8+n.length):Nat):=by
     unfold cost; rw[if_neg (by omega)]; congr 1
    have hval:(if(vB L (zk n)).isSome=true∨true=false then(0:Int) else cost (8+(n.length:Int)))=((if zk n∈((zS s).take k).map zk∨(vB L (zk n)).isSome=true then 0 else Z6 (8+n.length):Nat):Int):=by
     by_cases hb:(vB L (zk n)).isSome=true
     ·rw[if_pos (.inl hb),if_pos (.inr hb)]; rfl
     ·rw[if_neg (by simp[hb]),if_neg (not_or.2 ⟨hin,hb⟩),hcc]
    rw[hval];generalize (if zk n∈((zS s).take k).map zk∨(vB L (zk n)).isSome=true then 0 else Z6 (8+n.length):Nat)=q at hacc;refine yp (vY rfl rfl (by omega)) (yp (pI rfl) (zf (zY (za (z8 (yp (pI rfl) (yp (Z9 rfl rfl (by omega)) (yp (pI rfl) (zf (za ?_))))))))));exact⟨k+1,⟨acc+q,⟨rfl,by show Value.int _ _=_; congr 1; omega,rfl,rfl,trivial⟩,by omega,by omega,.of⟩,by omega⟩
 ·have hd0:(zS s).drop i=[]:=List.drop_eq_nil_of_le (by omega);rw[hd0,wG] at hacc;refine Z0 (zF (zF (Z4 (za (ze (z8 (yp (pI rfl) (yp (pI rfl) (zf (za (zH ?_)))))))))));exact zG (rI rfl) ⟨_,.of,by rw[hC, ←hacc]; rfl,rfl⟩
/-! ### the document's blocks stay within bounds -/
theorem U7.alloc{N:Nat}{D:List (Option Bt)}(h:U7 N D){m:Nat}(hm:m≤4096)(he:Zm N D (m:Int)=0):U7 N (Zc D m):=by
 have hu:=Um D m;have hc:cost (m:Int)=(Z6 m:Nat):=by unfold cost; rw[if_neg (by omega),Int.toNat_natCast]
 have h16:=yt m;have h1:=h.used;have hle:Z8 D+Z6 m≤N:=by
  unfold Zm at he;rw[hc,if_neg (by omega)] at he;split at he
  ·cases he
  ·omega
 have hp:=wu D;refine⟨by rw[hu]; exact hle,h.big,?_,fun i b hb=>?_⟩
 ·unfold Zc;split
  ·rw[List.length_set]; exact h.len
  ·next hn=>
   have h2:=yL D fun i hi=>uM D i (by omega)
   rw[List.length_append,List.length_singleton]; omega
 ·unfold Zc at hb;split at hb
  ·rw[List.getElem?_set] at hb;split at hb
   ·split at hb
    ·cases hb; rw[YE]; exact hm
    ·cases hb
   ·exact h.each i b hb
  ·rw[List.getElem?_append] at hb;split at hb
   ·exact h.each i b hb
   ·rcases List.mem_singleton.1 (List.mem_of_getElem? hb) with hb2;cases hb2; rw[YE]; exact hm
theorem U7.free{N:Nat}{D:List (Option Bt)}(h:U7 N D)(i:Int):U7 N (wB D i):=by
 unfold wB;split
 ·next hi=>
  obtain⟨b,hb⟩:=Option.isSome_iff_exists.1 hi;obtain⟨j,rfl,hj⟩:=Vh hb;rw[show((j:Int)+1-1).toNat=j from by omega];have hu:=WX (y:=none) hj;have h1:=h.used;simp only[X6] at hu;refine⟨by omega,h.big,by rw[List.length_set]; exact h.len,fun k c hc=>?_⟩;rw[List.getElem?_set] at hc;split at hc
  ·split at hc
   ·cases hc
   ·cases hc
  ·exact h.each k c hc
 ·exact h
theorem U7.wH{N:Nat}{D:List (Option Bt)}(h:U7 N D){L:List Nm}{n:Bs}(hv:wO n=true)(he:wm N D L n=0):U7 N (wH D L (zk n)):=by
 have h255:=ZQ hv;have hfl:=wE n;unfold Go.Proofs.YtekgciopamkjlaaGreat.wH;split
 ·exact h
 ·next hb=>
  unfold wm at he;rw[if_neg (by rw[hv]; decide),if_neg hb] at he;rw[hfl];refine h.alloc (by omega) ?_;rw[show((8+n.length:Nat):Int)=8+(n.length:Int) from by omega]; exact he
theorem U7.WR{N:Nat}{D:List (Option Bt)}(h:U7 N D)(L:List Nm)(i:Int):U7 N (WR D L i):=by
 unfold Go.Proofs.YtekgciopamkjlaaGreat.WR;split
 ·split
  ·exact h.free i
  ·exact h
 ·exact h
theorem dw{S:zq}{s:St}{v kv:Value}{rt rb:Nat}{L:List Nm}{HL:List Chunk}(hL:Zf 171 kv L HL)(hlen:L.length<2 ^ 30)(hs:yP s)(hv:Src S v s.rrs):Tri Tryz.prog 18 #[.pointer (some ⟨rt,0,none⟩),.agg (Y9 s v)] (Zp rt rb kv::HL::S) (fun x S'=>x= .int .i64 (Wd L s)∧S'=Zp rt rb kv::HL::S):=
 Tri.forget (Tri.perm (S:=(Zp rt rb kv++HL)::S) (by simp) ((Qx (T:=Zp rt rb kv++HL) ⟨kv,HL,hL,rfl⟩ hlen hs hv).mono fun x S' ⟨h1,h2⟩=>⟨_,⟨[],by rw[h2]; simp⟩,h1,rfl⟩))
theorem gW{E:Env}{S:zq}{t u x:Tmp}{k k':IntKind}{a b:Int}{p:Option Addr}{n m:Nat}(hv:E t= .int k a)(hv':E u= .slice p n m)(hx:E x= .int k' b):X5 Tryz.prog #[.tmp t,.tmp u,.tmp x] E S (.tuple #[.int k a,.slice p n m,.int k' b]):=nC hv hv' hx
set_option maxRecDepth 10000 in
set_option maxHeartbeats 4000000 in
theorem nu{S:zq}{s:St}{v:Value}{rt rb N:Nat}{D:List (Option Bt)}{L:List Nm}{T Tm:List Chunk}{S1:zq}(hT:Rt rt rb L T)(hR:Rf rb N D S1 Tm)(hD:U7 N D)(hlen:L.length<2 ^ 29)(hu:∀e∈L,e.u<2 ^ 50)(hs:yP s)(hv:Src S v s.rrs):
 Tri Tryz.prog 20 #[.pointer (some ⟨rt,0,none⟩),.agg (Y9 s v)] (T::Tm::S) (fun r S'=>
  (ZL s≠0∧r= .tuple #[.int .i64 0,.slice none 0 0,.int .i64 (ZL s)]∧S'=T::Tm::S)∨
  (ZL s=0∧¬fits N D L s∧r= .tuple #[.int .i64 0,.slice none 0 0,.int .i64 4]∧S'=T::Tm::S)∨
  (ZL s=0∧fits N D L s∧∃T' Tm' S1' iv Hi,r= .tuple #[.int .i64 ((hnd (ZI N D L (zS s)).D:Nat):Int),iv,.int .i64 0]∧Zf 3 iv (ZI N D L (zS s)).ids Hi∧Rt rt rb (ZI N D L (zS s)).L T'∧
   Rf rb N (Zc (ZI N D L (zS s)).D (Zg s).toNat) S1' Tm'∧U7 N (Zc (ZI N D L (zS s)).D (Zg s).toNat)∧S'=Hi::T'::Tm'::S)):=by
 obtain⟨kv,HL,hL,rfl⟩:=hT;refine Tri.forget (Tri.perm (S:=Zp rt rb kv::HL::Tm::S) (by simp) (zB Tryz.BQ (Nat.le_of_ble_eq_true rfl) ?_));unfold Tryz.Di;obtain⟨a,c,rfl⟩:=hv.isSlice;refine ze (z8 ?_);refine zh (Wp rfl fun p3=>?_);refine yp pC (yp pC (yp pC (zf (za (ze (z8 ?_))))));refine zh (Xt rfl rfl ?_);refine zh (zm (jE hs hv) rfl rfl fun r' S' h=>?_);obtain⟨rfl,hSS⟩:=h;have hSS:=hSS.symm;subst hSS;refine yp (pU rfl) (yp (pExt rfl rfl) (yp (pExt rfl rfl) (yp (pI rfl) (yp (pI rfl) (zf (za (ze (ze (z8 (yp (pI rfl) (yp (uW rfl rfl) (zf (za ?_)))))))))))));by_cases hE:ZL s=0
 case neg=>
  rw[decide_eq_false hE];refine zC rfl (ze (z8 (yp (pI rfl) (yp pC (yp pC (yp (pI rfl) (zf (za (zH (zP ?_))))))))));exact zG (gW rfl rfl rfl) ⟨(Zp rt rb kv++HL)::Tm::S,zM.re (S1:=Zp rt rb kv::HL::Tm::S) (by simp),.inl ⟨hE,rfl,rfl⟩⟩
 obtain⟨hmay,h4096⟩:=uN hE;have hZ:WL s=Zg s:=by unfold WL; rw[if_pos hE]
 have h16:=Xc hmay;have hvl:=vM hmay;obtain⟨hf1,hf2⟩:=UJ (N:=N) (D:=D) (L:=L) hE hD.used ⟨by omega,h4096⟩ hvl;have hnl:=vK s;have hrr:=hs.rrs;have hNb:=hD.big;have hDu:=hD.used;rw[decide_eq_true hE,hZ];refine zA rfl (zx (za (ze (ze (Za (zi (pP rfl) (lu rfl rfl (zi (pP rfl) (zi (zQ rfl) (zi (zl rfl) (Zd rfl rfl ?_)))))))))));refine zX (zm (dw (rt:=rt) (rb:=rb) hL (by omega) hs hv) rfl rfl fun r' S' h=>?_) zK;obtain⟨rfl,hSS⟩:=h;subst hSS;refine⟨fun x hx=>by simp only[List.mem_append,List.mem_cons,List.not_mem_nil,or_false] at hx ⊢; rcases hx with h | h | h | h | h<;>simp[h],?_⟩;refine zO (zm (gU hR hD) rfl rfl fun r' S' h=>?_) zK;obtain⟨rfl,rfl⟩:=h;refine zi (Va rfl rfl) (zN (za ?_));by_cases hf:fits N D L s
 case neg=>
  rw[decide_eq_true (show((N-Z8 D:Nat):Int)<Wd L s from by unfold fits at hf; omega)];refine zC rfl (ze (z8 (yp pC (yp pC (yp pC (zf (za (zH (zP ?_)))))))));exact zG (gW rfl rfl rfl) ⟨(Zp rt rb kv++HL)::Tm::S,zM.re (S1:=Zp rt rb kv::HL::Tm::S) (by simp),.inr (.inl ⟨hE,hf,rfl,rfl⟩)⟩
 rw[decide_eq_false (show ¬((N-Z8 D:Nat):Int)<Wd L s from by unfold fits at hf; omega)];obtain⟨he0,ha0⟩:=hf1 hf;refine zA rfl (zx (za (ze (z8 (yp pC (zf (za (ze (z8 ?_)))))))));refine zh (Xt rfl rfl ?_);refine zh (zm (Jo hs hmay hv) rfl rfl fun r' S' h=>?_);obtain⟨HN,hN,hSS⟩:=h;subst hSS;obtain⟨na,nc,rfl⟩:=hN.isSlice;rw[wQ] at hN ⊢;generalize hPd:ZI N D L (zS s)=P at he0 ha0 hf1 hf2 ⊢;refine yp (pS rfl) (zf (za (ze (ze (z8 (yp pC (zf (za (zw ?_)))))))));refine Z7 (σ:=Nat) (fun i E S'=>∃(T1 Tm1:List Chunk) (Dk:List (Option Bt)) (L1:List Nm) (ik:List Int) (iv:Value) (Hi:List Chunk) (S2:zq),Has E [(0,.pointer (some ⟨rt,0,none⟩)),(7,.int .i64 (Zg s)),(9,iv),(10,.slice na (zS s).length nc),(11,.int .i64 (i:Int))]∧i≤(zS s).length∧Zf 3 iv ik Hi∧ik.length=i∧Rt rt rb L1 T1∧Rf rb N Dk S2 Tm1∧U7 N Dk∧L1.length≤L.length+i∧(∀e∈L1,e.u≤2 ^ 50+i)∧
  P=⟨(ZI N Dk L1 ((zS s).drop i)).D,(ZI N Dk L1 ((zS s).drop i)).L,ik++(ZI N Dk L1 ((zS s).drop i)).ids,(ZI N Dk L1 ((zS s).drop i)).e⟩∧
  zM S' (Hi::HN::T1::Tm1::S)) (fun i=>(zS s).length-i) 0
  ⟨Zp rt rb kv++HL,Tm,D,L,[],_,[],S1,⟨rfl,rfl,rfl,rfl,rfl,trivial⟩,Nat.zero_le _,.nil,rfl,⟨kv,HL,hL,rfl⟩,hR,hD,by omega,fun e he=>by have:=hu e he; omega,hPd.symm,zM.re (S1:=HN::Zp rt rb kv::HL::Tm::S) (by simp)⟩ fun i E S' ⟨T1,Tm1,Dk,L1,ik,iv,Hi,S2,hE2,hi,hiv,hikl,hT1,hR1,hD1,hl1,hu1,hPe,hJ⟩=>?_
 obtain⟨ia,ic,rfl⟩:=hiv.isSlice;obtain⟨E0,e0⟩:=zu hE2; subst e0; clear hE2;refine zy hJ (ze (ze (z8 (yp (pI rfl) (yp (pS rfl) (yp (Zq rfl) (yp (w9 rfl rfl) (zf (za ?_)))))))));refine zU rfl (fun hlt=>?_) (fun hlt=>?_)
 ·have hii:i<(zS s).length:=by omega
  have hdi:(zS s).drop i=(zS s)[i]::(zS s).drop (i+1):=List.drop_eq_getElem_cons hii;have hvn:=hvl _ (List.getElem_mem hii);have hsr:Src (Hi::HN::T1::Tm1::S) (.slice na (bss (zS s)).length nc) (bss (zS s)):=by rw[wQ]; exact hN.src (List.mem_cons_of_mem _ (List.mem_cons_self ..))
  obtain⟨b1,o1,ca1,ty1,fz1,rfl,hm1,_,hg1⟩:=wR hsr (i:=i) (by rw[wQ]; exact hii);have hgn:ca1.toList[o1+i*1]?=some (sv (zS s)[i]):=(hg1 0 (by decide)).trans (by unfold bss; rw[List.getElem_map]; rfl);rw[hdi] at hPe;generalize (zS s)[i]=n at hgn hvn hPe;have h255:=ZQ hvn;have hEe:wm N Dk L1 n=0:=by
   by_cases h:wm N Dk L1 n=0
   ·exact h
   ·rw[uw h] at hPe;rw[hPe] at he0; exact absurd he0 h
  refine zx (za (ze (zw (ze (z8 (yp (pP rfl) (yp (pS rfl) (yp (pI rfl) (yp (zT rfl rfl (by omega)) ?_)))))))));refine zh (wY (show _∈_ from by repeat (first | exact hm1 | apply List.mem_cons_of_mem)) rfl hgn ?_)
  skip
  refine zh (zm (ni hT1 hR1 hD1 (by omega) (fun e he=>by have:=hu1 e he; omega) n (by omega)) rfl rfl fun r' S' h=>?_);rcases h with⟨he,rfl,rfl⟩ | ⟨he,T2,Tm2,x,rfl,hT2,hR2,rfl⟩
  ·exact absurd hEe he
  have hD2:=hD1.wH hvn hEe;rw[WS hEe] at hPe;generalize hzI:vP Dk L1 (zk n)=z at hPe ⊢;have huL:=J8 (D:=Dk) (n:=zk n) hu1;have hlL:=j5 (D:=Dk) (L:=L1) (n:=zk n);refine yp (pU rfl) (yp (pExt rfl rfl) (yp (pExt rfl rfl) (yp (pI rfl) (yp (pI rfl) (zf (za (z8 (yp (pS rfl) (yp (pI rfl) ?_)))))))));refine zh (Zu z rfl rfl (by decide) (by decide) rfl fun p52=>?_);refine zh (Zj (Y:=[z]) rfl rfl hiv (.lit (by repeat (first | exact List.mem_cons_self | apply List.mem_cons_of_mem)) rfl) rfl (0:Int) rfl (by rw[List.length_singleton]; omega) (by rw[List.length_singleton]; omega) fun v2 H2' hL2=>?_);obtain⟨la2,lc2,rfl⟩:=hL2.isSlice;refine yp (pS rfl) (zf (zY (za (z8 (yp (pI rfl) (yp (Z9 rfl rfl (by omega)) (yp (pI rfl) (zf (za ?_)))))))));refine⟨i+1,⟨T2,Tm2,wH Dk L1 (zk n),Zw Dk L1 (zk n),ik++[z],.slice la2 (ik++[z]).length lc2,H2',_,⟨rfl,rfl,rfl,rfl,rfl,trivial⟩,by omega,hL2,by rw[List.length_append,List.length_singleton]; omega,hT2,hR2,hD2,by omega,fun e he=>by have:=huL e he; omega,?_,.of⟩,by omega⟩;rw[hPe,List.append_assoc]; rfl
 ·have hd0:(zS s).drop i=[]:=List.drop_eq_nil_of_le (by omega);rw[hd0] at hPe;obtain⟨kv1,HL1,hL1,rfl⟩:=hT1;refine zy (show zM _ (Hi::HN::Zp rt rb kv1::HL1::Tm1::S) from⟨[],by simp⟩) (Z0 (zF (zF (Z4 (za (ze (z8 (yp (pP rfl) (yp (zQ rfl) (yp (zl rfl) ?_))))))))));refine zh (zo rfl rfl ?_);refine yp (pI rfl) ?_;rw[ZI,List.append_nil] at hPe;subst hPe;refine zh (zm (Jq hR1 hD1 (Zg s)) rfl rfl fun r' S' h=>?_);rcases h with⟨he,rfl,rfl⟩ | ⟨he,m,Tm2,x,hm,rfl,hR2,rfl⟩
  ·exact absurd ha0 he
  have hmm:(Zg s).toNat=m:=by omega
  refine yp (pU rfl) (yp (pExt rfl rfl) (yp (pExt rfl rfl) (yp (pI rfl) (yp (pI rfl) (zf (za (ze (z8 (yp (pI rfl) (yp (pS rfl) (yp (pI rfl) (yp (pS rfl) (yp pC (zf (za (zH ?_))))))))))))))));refine zG (gW rfl rfl rfl) ⟨Hi::(Zp rt rb kv1++HL1)::Tm2::S,zM.re (S1:=Hi::Zp rt rb kv1::HL1::Tm2::S) (by simp),.inr (.inr ⟨hE,hf,Zp rt rb kv1++HL1,Tm2,x::S2,_,Hi,rfl,hiv,⟨kv1,HL1,hL1,rfl⟩,?_,?_,rfl⟩)⟩
  ·rw[hmm]; exact hR2
  ·rw[hmm]; exact hD1.alloc (by omega) (by rw[←hm]; exact he)
set_option maxRecDepth 10000 in
set_option maxHeartbeats 4000000 in
theorem gP{S:zq}{iv:Value}{ids:List Int}{rt rb N:Nat}{D:List (Option Bt)}{L:List Nm}{T Tm:List Chunk}{S1:zq}(hT:Rt rt rb L T)(hR:Rf rb N D S1 Tm)(hD:U7 N D)(hlen:L.length<2 ^ 30)(hu:∀e∈L,1≤e.u∧e.u<2 ^ 60)(hv:Src S iv ids)(hl:ids.length<2 ^ 40)(h:Int):
 Tri Tryz.prog 26 #[.pointer (some ⟨rt,0,none⟩),.int .i64 h,iv] (T::Tm::S) (fun r S'=>r= .tuple #[]∧∃T' Tm',Rt rt rb (drops L ids) T'∧Rf rb N (wB (K8 D L ids) h) S1 Tm'∧U7 N (wB (K8 D L ids) h)∧S'=T'::Tm'::S):=by
 refine Tri.forget (zB Tryz.BK (Nat.le_of_ble_eq_true rfl) ?_);unfold Tryz.Dg;obtain⟨a,c,rfl⟩:=hv.isSlice;refine ze (ze (z8 (yp pC (zf (za (zw ?_))))));refine Z7 (σ:=Nat) (fun i E S'=>∃(T1 Tm1:List Chunk),Has E [(0,.pointer (some ⟨rt,0,none⟩)),(1,.int .i64 h),(2,.slice a ids.length c),(6,.int .i64 (i:Int))]∧i≤ids.length∧Rt rt rb (drops L (ids.take i)) T1∧Rf rb N (K8 D L (ids.take i)) S1 Tm1∧U7 N (K8 D L (ids.take i))∧(drops L (ids.take i)).length≤L.length∧(∀e∈drops L (ids.take i),1≤e.u∧e.u<2 ^ 60)∧
  zM S' (T1::Tm1::S)) (fun i=>ids.length-i) 0
  ⟨T,Tm,⟨rfl,rfl,rfl,rfl,trivial⟩,Nat.zero_le _,hT,hR,hD,Nat.le_refl _,hu,.of⟩ fun i E S' ⟨T1,Tm1,hE2,hi,hT1,hR1,hD1,hl1,hu1,hJ⟩=>?_
 obtain⟨E0,e0⟩:=zu hE2; subst e0; clear hE2;refine zy hJ (ze (ze (z8 (yp (pI rfl) (yp (pS rfl) (yp (Zq rfl) (yp (w9 rfl rfl) (zf (za ?_)))))))));refine zU rfl (fun hlt=>?_) (fun hlt=>?_)
 ·have hii:i<ids.length:=by omega
  have hts:ids.take (i+1)=ids.take i++[ids[i]]:=List.take_succ_eq_append_getElem hii;obtain⟨b1,o1,ca1,ty1,fz1,rfl,hm1,_,hg1⟩:=wR hv hii;have hgn:ca1.toList[o1+i*1]?=some (.int .i64 ids[i]):=(hg1 0 (by decide)).trans rfl;generalize ids[i]=z at hts hgn;have e1:drops L (ids.take (i+1))=wN (drops L (ids.take i)) z:=by rw[hts,Vk]
  have e2:K8 D L (ids.take (i+1))=WR (K8 D L (ids.take i)) (drops L (ids.take i)) z:=by rw[hts,yj]
  generalize drops L (ids.take i)=L1 at hT1 hl1 hu1 e1 e2;generalize K8 D L (ids.take i)=D1 at hR1 hD1 e2;have hll:=Yn (L:=L1) (i:=z);refine zx (za (ze (zw (z8 (yp (pP rfl) (yp (pS rfl) (yp (pI rfl) (yp (zT rfl rfl (by omega)) ?_))))))));refine zh (wY (show _∈_ from by repeat (first | exact hm1 | apply List.mem_cons_of_mem)) rfl hgn ?_);refine zh (zm (gL hT1 hR1 hD1 (by omega) hu1 z) rfl rfl fun r' S' h'=>?_);obtain⟨rfl,T2,Tm2,hT2,hR2,rfl⟩:=h';refine zf (zY (za (z8 (yp (pI rfl) (yp (Z9 rfl rfl (by omega)) (yp (pI rfl) (zf (za ?_))))))));refine⟨i+1,⟨T2,Tm2,⟨rfl,rfl,rfl,rfl,trivial⟩,by omega,by rw[e1]; exact hT2,by rw[e2]; exact hR2,by rw[e2]; exact hD1.WR _ _,by rw[e1]; omega,?_,.of⟩,by omega⟩;rw[e1];exact fun e he=>⟨Ym (fun e he=>(hu1 e he).1) e he,by have:=dS (k:=2 ^ 60-1) (fun e he=>by have:=(hu1 e he).2; omega) e he; omega⟩
 ·have hni:ids.take i=ids:=List.take_of_length_le (by omega);rw[hni] at hT1 hR1 hD1;obtain⟨kv1,HL1,hL1,rfl⟩:=hT1;refine zy (show zM _ (Zp rt rb kv1::HL1::Tm1::S) from⟨[],by simp⟩) (Z0 (zF (zF (Z4 (za (z8 (yp (pP rfl) (yp (zQ rfl) (yp (zl rfl) ?_)))))))));refine zh (zo rfl rfl ?_);refine yp (pI rfl) ?_;refine zh (zm (QI hR1 hD1 h) rfl rfl fun r' S' h'=>?_);obtain⟨rfl,Tm2,hR2,rfl⟩:=h';refine zf ?_;exact VE Vu ⟨(Zp rt rb kv1++HL1)::Tm2::S,zM.re (S1:=Zp rt rb kv1::HL1::Tm2::S) (by simp),rfl,_,Tm2,⟨kv1,HL1,hL1,rfl⟩,hR2,hD1.free h,rfl⟩
end Go.Proofs.YtekgciopamkjlaaGreat