/- Keys by their use (lists.LRU, for a store): contracts. Keys by their use: Order. Keys by their times (lists.Due, for a store): contracts. -/
import Derived.Test.YtekgciopamkjlaaGreatY1
import Derived.Test.YtekgciopamkjlaaGreatL0
import Derived.Test.YtekgciopamkjlaaGreatN1
import Derived.Test.YtekgciopamkjlaaGreatA1
import Derived.Test.YtekgciopamkjlaaGreatFLists
namespace Go.Proofs.YtekgciopamkjlaaGreat
open Go.Xs
open Enc (enc)
def iG(o:Option Nat):Value:= .int .i64 (match o with | some i=>(i:Int) | none=> -1)
def kpos(k:Ky):List Ky→Option Nat
 | []=>none
 | e::l=>if k=e then some 0 else(kpos k l).map (· +1)
theorem QS{k:Ky}:∀{l:List Ky} {i:Nat},kpos k l=some i→i<l.length
 | e::l,i,h=>by
  unfold kpos at h;split at h
  ·simp at h; subst h; simp
  ·cases h':kpos k l with
   | none=>simp[h'] at h
   | some j=>simp[h'] at h; have:=QS h'; subst h; simp; omega
theorem X0{k:Ky}:∀{l:List Ky},kpos k l=none→k ∉ l
 | [],_=>by simp
 | e::l,h=>by
  unfold kpos at h;split at h
  ·simp at h
  ·next hk=>
   rw[Option.map_eq_none_iff] at h;have:=X0 h;simp[hk,this]
theorem Ub{k:Ky}:∀{l:List Ky} {i:Nat},kpos k l=some i→k∈l∧l.eraseIdx i=l.erase k
 | e::l,i,h=>by
  unfold kpos at h;split at h
  ·next hk=>simp at h; subst h; subst hk; simp
  ·next hk=>
   cases h':kpos k l with
   | none=>simp[h'] at h
   | some j=>
    simp[h'] at h; subst h;obtain⟨h1,h2⟩:=Ub h';refine⟨List.mem_cons_of_mem _ h1,?_⟩;rw[List.eraseIdx_cons_succ,h2,List.erase_cons_tail (by simpa using fun h=>hk h.symm)]
/-- where a key stands -/
theorem sM{v:Value}{L:List Ky}{H:List Chunk}(hL:Zf 43 v L H)(hlen:L.length<2 ^ 40)(k:Ky):
 Tri Tryz.prog 172 #[v,.agg (WS k)] [H] (fun r S=>r=iG (kpos k L)∧S=[H]):=by
 refine Tri.forget (zn Tryz.Gm (Nat.le_of_ble_eq_true rfl) ?_);unfold Tryz.Dh;obtain⟨a,c,rfl⟩:=hL.isSlice;refine ze (z8 ?_);refine zh (Zv rfl fun p3=>?_);refine yp pC (zf (za (ze (ze (z8 (yp (pS rfl) (yp (Zz rfl) (yp pC (zf (za (zo ?_)))))))))));refine Z4 (σ:=Nat) (fun i E S=>Has E [(0,.slice a L.length c),(3,.pointer (some ⟨p3,0,none⟩)),(7,.int .i64 L.length),(8,.int .i64 i)]∧i≤L.length∧(kpos k L=(kpos k (L.drop i)).map (· +i))∧zG S [[(p3,.cells (WS k) 43)],H]) (fun i=>L.length-i) 0 ⟨⟨rfl,rfl,rfl,rfl,trivial⟩,Nat.zero_le _,by simp,.of⟩ fun i E S ⟨hE,hi,hx,hS⟩=>?_
 obtain⟨E0,e0⟩:=zl hE; subst e0; clear hE;refine zm hS (ze (z8 (yp (ZL rfl rfl) (zf (za (ze ?_))))));refine zO rfl (fun h=>?_) (fun h=>?_)
 ·have hlt:i<L.length:=by omega
  have hd:L.drop i=L[i]::L.drop (i+1):=List.drop_eq_getElem_cons hlt;obtain⟨b,sp,fz2,hz,rfl,_,rfl,rfl⟩:=hL.at' (by intro h; simp[h] at hlt);refine zq (za (ze (zo (ze (z8 (yp (pI rfl) (yp (pI rfl) (zf (za (ze (zY (vH rfl rfl (zi (pS rfl) (zi (pI rfl) (zi (zN rfl rfl (by omega)) (VA (l:=enc L[i]) rfl (vJ hlt rfl) rfl ?_))))))))))))))));by_cases h2:k=L[i]
  ·refine zi (BG (a:=k) (b:=L[i]) rfl rfl) ?_;rw[decide_eq_true h2];refine zD (za (zI rfl (ze (z8 (yp (pI rfl) (yp (pI rfl) (zf (za (zL (bret (zX (zX (bret (zX ?_))))))))))))));exact zK (rI rfl) ⟨_,.of,by rw[hx,hd,kpos,if_pos h2]; simp[iG],rfl⟩
  ·refine zi (BG (a:=k) (b:=L[i]) rfl rfl) ?_;rw[decide_eq_false h2];refine zD (za (zw rfl (zq (zT (za (z8 (yp (Za rfl rfl (by omega)) (yp (pI rfl) (zf (za ?_))))))))));refine⟨i+1,⟨⟨rfl,rfl,rfl,rfl,trivial⟩,by omega,?_,.of⟩,by omega⟩;rw[hx,hd,kpos,if_neg h2,Option.map_map];congr 1;funext x;simp; omega
 ·refine zV (zy (zy (zW (za (ze (z8 (yp pC (zf (za (zL ?_))))))))));have:L.drop i=[]:=List.drop_eq_nil_of_le (by omega);exact zK (rI rfl) ⟨_,.of,by rw[hx,this]; rfl,rfl⟩
theorem sN{v:Value}{L:List Ky}{H:List Chunk}(hL:Zf 43 v L H)(hlen:L.length<2 ^ 40)(k:Ky):
 Tri Tryz.prog 154 #[v,.agg (WS k)] [H] (fun r S=>r= .bool (decide (k∈L))∧S=[H]):=by
 refine Tri.forget (zn Tryz.GH (Nat.le_of_ble_eq_true rfl) ?_);unfold Tryz.Dq;obtain⟨a,c,rfl⟩:=hL.isSlice;refine ze (z8 ?_);refine zh (Zv rfl fun p3=>?_);refine yp pC (zf (za (ze (z8 (yp (pS rfl) ?_)))));refine zh (wC rfl rfl ?_);refine zh (zk (sM hL hlen k) rfl rfl fun r S' h=>?_);obtain⟨rfl,rfl⟩:=h;cases h:kpos k L with
 | none=>
  rw[decide_eq_false (X0 h)];simp only[iG];refine yp (U9 rfl rfl) (yp (pB rfl) (zf (za (zL ?_))));exact zK (rB rfl) ⟨_,.of,rfl,rfl⟩
 | some i=>
  rw[decide_eq_true (Ub h).1];simp only[iG];refine yp (U9 rfl rfl) (yp (pB rfl) (zf (za (zL ?_))));exact zK (rB rfl) ⟨_,.of,by simp,rfl⟩
theorem Fe{v:Value}{L:List Ky}{H:List Chunk}(hL:Zf 43 v L H)(hlen:L.length<2 ^ 40){i j:Nat}(hi:i<L.length)(hj:j=i+1):
 Tri Tryz.prog 162 #[v,.int .i64 (i:Int),.int .i64 (j:Int)] [H] (fun r S=>∃H',Zf 43 r (L.eraseIdx i) H'∧S=[H']):=
 yQ Tryz.Gw rfl (⟨[],0⟩:Ky) rfl hL hlen hi hj
theorem sO{v:Value}{L:List Ky}{H:List Chunk}(hL:Zf 43 v L H)(hlen:L.length<2 ^ 40)(k:Ky):
 Tri Tryz.prog 167 #[v,.agg (WS k)] [H] (fun r S=>∃v' H',r= .tuple #[v',.bool (decide (k∈L))]∧Zf 43 v' (L.erase k) H'∧S=[H']):=by
 refine Tri.forget (zn Tryz.Gs (Nat.le_of_ble_eq_true rfl) ?_);unfold Tryz.x167;obtain⟨a,c,rfl⟩:=hL.isSlice;refine ze (z8 ?_);refine zh (Zv rfl fun p3=>?_);refine yp pC (yp pC (zf (za (ze (z8 (yp (pS rfl) ?_))))));refine zh (wC rfl rfl ?_);refine zh (zk (sM hL hlen k) rfl rfl fun r S' h=>?_);obtain⟨rfl,rfl⟩:=h;cases h:kpos k L with
 | none=>
  have h1:=X0 h;rw[decide_eq_false h1,List.erase_of_not_mem h1];simp only[iG];refine yp (pI rfl) (zf (za (ze (ze (z8 (yp (pI rfl) (yp (ZL rfl rfl) (zf (za (zI rfl (ze (z8 (yp (pS rfl) (yp (pS rfl) (yp pC (zf (za (zL (zX ?_)))))))))))))))))));exact zK (AZ rfl rfl) ⟨_,.of,_,_,rfl,hL,rfl⟩
 | some i=>
  have hi:=QS h;rw[decide_eq_true (Ub h).1, ←(Ub h).2];simp only[iG];refine yp (pI rfl) (zf (za (ze (ze (z8 (yp (pI rfl) (yp (ZL rfl rfl) (zf (za (zw rfl (zq (za (ze (z8 (yp (pS rfl) (yp (pI rfl) (yp (pI rfl) (yp (Za rfl rfl (by omega)) ?_))))))))))))))))));refine zh (zk (Fe hL hlen hi rfl) rfl rfl fun r S' h=>?_);obtain⟨H',hL',rfl⟩:=h;obtain⟨a',c',rfl⟩:=hL'.isSlice;refine yp (pS rfl) (yp pC (zf (za (zL ?_))));exact zK (AZ rfl rfl) ⟨_,.of,_,_,rfl,hL',rfl⟩
/-- its room, and its two lists -/
abbrev KC(lb:Nat)(most:Int)(u v:Value):List Chunk:=[(lb,.cells #[.int .i64 most,u,v] 208)]
def Lr(lb:Nat)(most:Int)(A B:List Ky)(T:List Chunk):Prop:=∃u v H G,Zf 43 u A H∧Zf 43 v B G∧T=KC lb most u v++H++G
theorem Lr.mk{lb:Nat}{most:Int}{u v:Value}{A B:List Ky}{H G:List Chunk}(hA:Zf 43 u A H)(hB:Zf 43 v B G):Lr lb most A B (KC lb most u v++H++G):=⟨u,v,H,G,hA,hB,rfl⟩
theorem Fb(most:Int):Tri Tryz.prog 122 #[.int .i64 most] [] (fun r S=>∃lb T,r= .pointer (some ⟨lb,0,none⟩)∧Lr lb (max most 0) [] [] T∧S=[T]):=by
 refine Tri.forget (zn Tryz.I4 (Nat.le_of_ble_eq_true rfl) ?_);unfold Tryz.DY;refine ze (z8 (yp pC (zf (za (ze (z8 (yp (pI rfl) (yp (QF rfl rfl) (yp (v:= .agg #[.int .i64 (max most 0),.slice none 0 0,.slice none 0 0]) rfl ?_)))))))));refine zh (Zv rfl fun p6=>?_);refine yp (pP rfl) (zf (za (zL ?_)));exact zK (rP rfl) ⟨_,zG.re (S1:=[KC p6 (max most 0) (.slice none 0 0) (.slice none 0 0)]) (by simp),_,_,rfl,Lr.mk .nil .nil,rfl⟩
theorem oO{lb:Nat}{most:Int}{u v:Value}{A B:List Ky}{H G:List Chunk}(hA:Zf 43 u A H)(hB:Zf 43 v B G)(ha:A.length<2 ^ 40)(hb:B.length<2 ^ 40)(k:Ky):
 Tri Tryz.prog 151 #[.pointer (some ⟨lb,0,none⟩),.agg (WS k)] [KC lb most u v,H,G] (fun r S=>r= .bool (decide (k∈A) || decide (k∈B))∧∃u' H' v' G',Zf 43 u' (A.erase k) H'∧Zf 43 v' (B.erase k) G'∧S=[KC lb most u' v',H',G']):=by
 refine Tri.forget (zn Tryz.GK (Nat.le_of_ble_eq_true rfl) ?_);unfold Tryz.x151;obtain⟨a,c,rfl⟩:=hA.isSlice;obtain⟨a',c',rfl⟩:=hB.isSlice;refine ze (z8 ?_);refine zh (Zv rfl fun p3=>?_);refine yp pC (zf (za (ze (ze (z8 (yp (pP rfl) (yp (wJ rfl rfl) (zf (za (zw rfl (zq (za (ze (z8 (yp pC (yp pC (zf (za (ze (zY (zi (pP rfl) (zi (pP rfl) (zi (zS rfl) (zi (zx rfl) (Zd rfl rfl (vH rfl rfl ?_))))))))))))))))))))))))));refine zH (zk (sO hA ha k) rfl rfl fun r S' h=>?_) zM;obtain⟨u1,H1,rfl,hA1,rfl⟩:=h;obtain⟨a1,c1,rfl⟩:=hA1.isSlice;refine zi (pU rfl) (zi (pExt rfl rfl) (zi (pExt rfl rfl) (zi (zS rfl) (zi (zx rfl) ?_))));refine zH (dz rfl rfl (Ke rfl) ?_) zM;refine zi (pB rfl) (zD (za (ze (zY (zi (pP rfl) (zi (pP rfl) (zi (zS rfl) (zi (zx rfl) (Zd rfl rfl (vH rfl rfl ?_))))))))));refine zH (zk (sO hB hb k) rfl rfl fun r S' h=>?_) zM;obtain⟨v1,G1,rfl,hB1,rfl⟩:=h;obtain⟨a2,c2,rfl⟩:=hB1.isSlice;refine zi (pU rfl) (zi (pExt rfl rfl) (zi (pExt rfl rfl) (zi (zS rfl) (zi (zx rfl) ?_))));refine zH (Ab rfl rfl (Ke rfl) ?_) zM;refine zi (pB rfl) (zD (za (ze (z8 (yp (pB rfl) (yp (pB rfl) ?_))))));by_cases h1:k∈A
 ·rw[decide_eq_true h1];refine Z5 rfl (yp (zP rfl rfl) (yp (pB rfl) (zf (za (zL ?_)))));exact zK (rB rfl) ⟨_,.of,by simp,_,_,_,_,hA1,hB1,rfl⟩
 ·rw[decide_eq_false h1];refine Z0 rfl (Zc (pB rfl) (yp (zU rfl rfl) (yp (pB rfl) (zf (za (zL ?_))))));exact zK (rB rfl) ⟨_,.of,by simp,_,_,_,_,hA1,hB1,rfl⟩
theorem BQ{lb:Nat}{most:Int}{A B:List Ky}{T:List Chunk}(hT:Lr lb most A B T)(ha:A.length<2 ^ 40)(hb:B.length<2 ^ 40)(k:Ky):
 Tri Tryz.prog 151 #[.pointer (some ⟨lb,0,none⟩),.agg (WS k)] [T] (fun r S=>r= .bool (decide (k∈A) || decide (k∈B))∧∃T',Lr lb most (A.erase k) (B.erase k) T'∧S=[T']):=by
 obtain⟨u,v,H,G,hA,hB,rfl⟩:=hT;refine Tri.forget (Tri.Vg ((oO hA hB ha hb k).mono fun r S ⟨h1,u',H',v',G',h2,h3,h4⟩=>⟨[KC lb most u' v'++H'++G'],?_,h1,_,Lr.mk h2 h3,rfl⟩));subst h4;exact zG.vX
/-- what Add makes of the probation -/
def mI(k:Ky)(A B:List Ky):List Ky:=if k∈A∨k∈B then A else A++[k]
theorem Fg{lb:Nat}{most:Int}{A B:List Ky}{T:List Chunk}(hT:Lr lb most A B T)(ha:A.length<2 ^ 40-1)(hb:B.length<2 ^ 40)(k:Ky):
 Tri Tryz.prog 130 #[.pointer (some ⟨lb,0,none⟩),.agg (WS k)] [T] (fun r S=>r= .tuple #[]∧∃T',Lr lb most (mI k A B) B T'∧S=[T']):=by
 obtain⟨u,v,H,G,hA,hB,rfl⟩:=hT;refine Tri.Vg (Tri.forget (zn Tryz.Hq (Nat.le_of_ble_eq_true rfl) ?_));unfold Tryz.DL;obtain⟨a,c,rfl⟩:=hA.isSlice;obtain⟨a',c',rfl⟩:=hB.isSlice;refine ze (z8 ?_);refine zh (Zv rfl fun p3=>?_);refine zf (za (ze (zY (zi (pP rfl) (zi (yt rfl rfl) (zi (pB rfl) (zQ rfl (zi (pP rfl) (zQ rfl (zi (zS rfl) (zQ rfl (zi (zx rfl) (zQ rfl (Zd rfl rfl (zQ rfl (vH rfl rfl ?_))))))))))))))));refine ZU rfl ?_ zM;refine Zm (zk (sN hA (by omega) k) rfl rfl fun r S' h=>?_) zM;obtain⟨rfl,rfl⟩:=h;refine⟨by simp,?_⟩;refine zQ rfl (zi (Ze rfl) (zi (zP rfl rfl) (zi (pB rfl) ?_)));by_cases h1:k∈A
 ·rw[decide_eq_true h1];refine zR rfl (zR rfl (zR rfl (zR rfl (zR rfl ?_))));refine ZY rfl ?_ zM;refine zR rfl (zi (zU rfl rfl) (zD (za (zw rfl (zq ?_)))));exact ZF ZG ⟨_,zG.vX,rfl,_,by rw[mI,if_pos (.inl h1)]; exact Lr.mk hA hB,rfl⟩
 rw[decide_eq_false h1];refine zQ rfl (zi (pP rfl) (zQ rfl (zi (zS rfl) (zQ rfl (zi (zx rfl) (zQ rfl (Zd rfl rfl (zQ rfl (vH rfl rfl ?_)))))))));refine ZU rfl ?_ zM;refine zH (zk (sN hB (by omega) k) rfl rfl fun r S' h=>?_) zM;obtain⟨rfl,rfl⟩:=h;refine zQ rfl (zi (Ze rfl) (zi (zP rfl rfl) (zD (za ?_))));by_cases h2:k∈B
 ·rw[decide_eq_true h2];refine zw rfl (zq ?_);exact ZF ZG ⟨_,zG.vX,rfl,_,by rw[mI,if_pos (.inr h2)]; exact Lr.mk hA hB,rfl⟩
 rw[decide_eq_false h2];refine zI rfl (zY (zi (pP rfl) (zi (pP rfl) (zi (zS rfl) (zi (zx rfl) (Zd rfl rfl (vH rfl rfl ?_)))))));refine Zm (Ve k rfl rfl (by decide) (by decide) rfl fun p30=>⟨by simp,?_⟩) zM;refine zH (VL (Y:=[k]) rfl rfl hA (.lit (by repeat (first | exact List.mem_cons_self | apply List.mem_cons_of_mem)) rfl) rfl (⟨[],0⟩:Ky) rfl (by simp; omega) (by simp; omega) fun v2 H2 hL2=>?_) zM;obtain⟨a2,c2,rfl⟩:=hL2.isSlice;refine zi (zS rfl) (zi (zx rfl) ?_);refine zH (dz rfl rfl (Ke rfl) ?_) zM;refine zD ?_;exact ZF ZG ⟨_,zG.vX,rfl,_,by rw[mI,if_neg (by simp[h1,h2])]; exact Lr.mk hL2 hB,rfl⟩
theorem Em:Tryz.prog.underlying 92=some (.slice 43):=by kernel_rfl
theorem Ml:Tryz.prog.underlying 3=some (.int .i64):=by kernel_rfl
theorem Ew:sizeOf? Tryz.prog 43=some 2:=by kernel_rfl
theorem CU:zero? Tryz.prog 43=some [.string ⟨#[]⟩,.int .i64 0]:=by kernel_rfl
theorem IG:bytes? Tryz.prog 43=some 24:=by kernel_rfl
theorem BP{n:Nat}(hn:n≤1099511627776):Tri Tryz.prog 195 #[.slice none 0 0,.int .i64 (n:Int)] [] (fun r S=>∃H,Zf 43 r ([]:List Ky) H∧S=[H]):=by
 refine Tri.forget (zn Tryz.FV (Nat.le_of_ble_eq_true rfl) ?_);unfold Tryz.Da;refine ze (z8 (yp pC (zf (za (ze (ze (z8 (yp (pI rfl) (yp (ZL rfl rfl) (zf (za (zw rfl (zq (za (ze (ze (z8 (yp (pI rfl) (yp (pS rfl) (yp (EW rfl) (yp (pS rfl) (yp (Zz rfl) (yp (Zt rfl rfl (by omega)) (yp (Zt rfl rfl (by omega)) (yp (pI rfl) (zf (za (ze (z8 (yp (pI rfl) (yp (VE rfl rfl) (zf (za ?_)))))))))))))))))))))))))))))))));rcases Nat.eq_zero_or_pos n with rfl | hp
 ·refine zw rfl (zq (za (ze (z8 (yp (pS rfl) (yp (pS rfl) (zf (za (zL ?_)))))))));exact zK (rS rfl) ⟨_,.of,_,.nil,rfl⟩
 rw[show((n:Int)-(((0:Nat):Int)-((0:Nat):Int)))=(n:Int) from by omega];rw[decide_eq_true (show(0:Int)<n from by omega)];refine zI rfl (z8 (yp (pS rfl) (yp (pS rfl) (yp (EW rfl) (yp (v:= .slice none 0 0) rfl (yp (pI rfl) ?_))))));refine zh (CW Em Ml Ew CU IG rfl rfl hp (by decide) (by omega) hn fun b M hM=>?_);refine yp (pS rfl) (yp (Zz rfl) (yp (QB (j:=0) rfl rfl (Nat.zero_le _)) (yp (pS rfl) (zf (za (ze (z8 (yp (pS rfl) (yp (pS rfl) (zf (za (zL ?_))))))))))));refine zK (rS rfl) ⟨_,.of,[(b,.cells ((List.replicate M [.string ⟨#[]⟩,.int .i64 0]).flatten).toArray 43)],?_,rfl⟩;have h:=Zf.of (ty:=43) (b:=b) (L:=([]:List Ky)) (sp:=List.replicate M (⟨[],0⟩:Ky));rw[vS (z:=[.string ⟨#[]⟩,.int .i64 0]) M (⟨[],0⟩:Ky) rfl];simpa using h
def nD(A B:List Ky):Nat→Int
 | 0=>0
 | 1=>A.length
 | _=>A.length+B.length
theorem iB{u v:Value}{A B:List Ky}{S:zB}{b:Nat}(hA:Src S u A)(hB:Src S v B)(ha:A.length<2 ^ 36)(hb:B.length<2 ^ 36)(hm:[(b,.cells #[u,v] 92)]∈S):
 Tri Tryz.prog 171 #[.slice (some ⟨b,0,none⟩) 2 2] S (fun r S'=>∃H,Zf 43 r (A++B) H∧S'=H::S):=by
 refine Tri.forget (zn Tryz.Gn (Nat.le_of_ble_eq_true rfl) ?_);unfold Tryz.Di;obtain⟨a1,c1,rfl⟩:=hA.isSlice;obtain⟨a2,c2,rfl⟩:=hB.isSlice;obtain⟨f,hAt⟩:=At.Ku hm;refine ze (z8 (yp pC (zf (za (ze (z8 (yp pC (zf (za (ze (ze (z8 (yp (pS rfl) (yp (Zz rfl) (yp pC (zf (za (zo ?_))))))))))))))))));refine Z4 (σ:=Nat) (fun i E S'=>Has E [(0,.slice (some ⟨b,0,none⟩) 2 2),(3,.int .i64 (nD A B i)),(9,.slice (some ⟨b,0,none⟩) 2 2),(10,.int .i64 2),(11,.int .i64 i)]∧i≤2∧S'=S) (fun i=>2-i) 0 ⟨⟨rfl,rfl,rfl,rfl,rfl,trivial⟩,Nat.zero_le _,rfl⟩ fun i E S' ⟨hE,hi,hS⟩=>?_
 subst hS;obtain⟨E0,e0⟩:=zl hE; subst e0; clear hE;refine ze (z8 (yp (ZL rfl rfl) (zf (za (ze ?_)))));refine zO rfl (fun h=>?_) (fun h=>?_)
 ·have h01:i=0∨i=1:=by omega
  rcases h01 with rfl | rfl
  ·rw[show nD A B 0=0 from rfl];refine zq (za (ze (zo (ze (z8 (yp (zN rfl rfl (by omega)) ?_))))));refine zh (zF rfl rfl ?_);refine yp (pS rfl) (zf (za (ze (z8 (yp (pI rfl) (yp (pS rfl) (yp (Zz rfl) (yp (Vo rfl rfl (by omega)) (yp (pI rfl) (zf (za (ze (z8 (yp (pI rfl) (yp (ZL rfl rfl) (zf (za (zw rfl (zq (zT (za (z8 (yp (Za rfl rfl (by omega)) (yp (pI rfl) (zf (za ?_))))))))))))))))))))))))));refine⟨1,⟨⟨rfl,?_,rfl,rfl,rfl,trivial⟩,by omega,rfl⟩,by omega⟩;show Value.int .i64 (0+(A.length:Int))= .int .i64 (A.length:Int);rw[Int.zero_add]
  ·rw[show nD A B 1=A.length from rfl];refine zq (za (ze (zo (ze (z8 (yp (zN rfl rfl (by omega)) ?_))))));refine zh (zF rfl rfl ?_);refine yp (pS rfl) (zf (za (ze (z8 (yp (pI rfl) (yp (pS rfl) (yp (Zz rfl) (yp (Zi rfl rfl (by omega)) (yp (pI rfl) (zf (za (ze (z8 (yp (pI rfl) (yp (ZL rfl rfl) (zf (za (zw rfl (zq (zT (za (z8 (yp (Za rfl rfl (by omega)) (yp (pI rfl) (zf (za ?_))))))))))))))))))))))))));exact⟨2,⟨⟨rfl,rfl,rfl,rfl,rfl,trivial⟩,by omega,rfl⟩,by omega⟩
 obtain rfl:i=2:=by omega
 rw[show nD A B 2=((A.length+B.length:Nat):Int) from by show(A.length:Int)+B.length=_; omega];refine zV (zy (zy (zW (za (ze (z8 (yp (pI rfl) ?_)))))));refine zh (zk (BP (n:=A.length+B.length) (by omega)) rfl rfl fun r S' h=>?_);obtain⟨H,hL,rfl⟩:=h;obtain⟨a3,c3,rfl⟩:=hL.isSlice;refine yp (pS rfl) (zf (za (ze (ze (z8 (yp (pS rfl) (yp (Zz rfl) (yp pC (zf (za (zo ?_)))))))))));refine Z4 (σ:=Nat) (fun i E S''=>Has E [(25,.slice (some ⟨b,0,none⟩) 2 2),(26,.int .i64 2),(27,.int .i64 i)]∧i≤2∧∃v H,Zf 43 v (([A,B].take i).flatten) H∧E 6=v∧S''=H::S') (fun i=>2-i) 0 ⟨⟨rfl,rfl,rfl,trivial⟩,Nat.zero_le _,_,_,hL,rfl,rfl⟩ fun i E S'' ⟨hE,hi,v1,H1,hL1,hE6,hS⟩=>?_
 subst hS;obtain⟨a4,c4,rfl⟩:=hL1.isSlice;have hE2:Has E [(6,.slice a4 ([A,B].take i).flatten.length c4),(25,.slice (some ⟨b,0,none⟩) 2 2),(26,.int .i64 2),(27,.int .i64 i)]:=⟨hE6,hE⟩
 obtain⟨E0,e0⟩:=zl hE2; subst e0; clear hE2;refine ze (z8 (yp (ZL rfl rfl) (zf (za (ze ?_)))));refine zO rfl (fun h=>?_) (fun h=>?_)
 ·have h01:i=0∨i=1:=by omega
  rcases h01 with rfl | rfl
  ·refine zq (za (ze (zo (ze (z8 (yp (zN rfl rfl (by omega)) ?_))))));refine zh (zF rfl rfl ?_);refine yp (pS rfl) (zf (za (z8 (yp (pS rfl) (yp (pS rfl) ?_)))));refine zh (VL (Y:=A) rfl rfl hL1 (Src.mono hA fun s hs=>?_) rfl (⟨[],0⟩:Ky) rfl (by simp; omega) (by simp; omega) fun v2 H2 hL2=>?_)
   ·exact List.mem_cons_of_mem _ hs
   obtain⟨a2,c2,rfl⟩:=hL2.isSlice;refine yp (pS rfl) (zf (zT (za (z8 (yp (Za rfl rfl (by omega)) (yp (pI rfl) (zf (za ?_))))))));exact⟨1,⟨⟨rfl,rfl,rfl,trivial⟩,by omega,.slice a2 (([A,B].take 0).flatten++A).length c2,H2,by simpa using hL2,rfl,rfl⟩,by omega⟩
  ·refine zq (za (ze (zo (ze (z8 (yp (zN rfl rfl (by omega)) ?_))))));refine zh (zF rfl rfl ?_);refine yp (pS rfl) (zf (za (z8 (yp (pS rfl) (yp (pS rfl) ?_)))));refine zh (VL (Y:=B) rfl rfl hL1 (Src.mono hB fun s hs=>?_) rfl (⟨[],0⟩:Ky) rfl (by simp; omega) (by simp; omega) fun v2 H2 hL2=>?_)
   ·exact List.mem_cons_of_mem _ hs
   obtain⟨a2,c2,rfl⟩:=hL2.isSlice;refine yp (pS rfl) (zf (zT (za (z8 (yp (Za rfl rfl (by omega)) (yp (pI rfl) (zf (za ?_))))))));exact⟨2,⟨⟨rfl,rfl,rfl,trivial⟩,by omega,.slice a2 (([A,B].take 1).flatten++B).length c2,H2,by simpa using hL2,rfl,rfl⟩,by omega⟩
 obtain rfl:i=2:=by omega
 refine zV (zy (zy (zW (za (ze (z8 (yp (pS rfl) (yp (pS rfl) (zf (za (zL ?_)))))))))));exact zK (rS rfl) ⟨_,.self,_,by simpa using hL1,rfl⟩
theorem oJ{p:Option Addr}:Tri Tryz.prog 153 #[.pointer p] [] (fun r S=>∃bl,r= .func (.func 170) #[] #[.pointer (some ⟨bl,0,none⟩)]∧S=[[(bl,.cells #[.pointer p] 145)]]):=by
 refine Tri.forget (zn Tryz.GI (Nat.le_of_ble_eq_true rfl) ?_);unfold Tryz.x153;refine ze (z8 ?_);refine zh (mO (jI rfl) fun p1=>?_);refine yp pC (zf (za (ze (z8 (yp (gQ (jI rfl)) (yp (pF rfl) (zf (za (zL ?_)))))))));exact zK (rF rfl) ⟨_,.of,_,rfl,rfl⟩
def mP(k:Ky):Array Value:= #[.agg (WS k)]
theorem bD{bl lb:Nat}{most:Int}{A B:List Ky}{T0:List Chunk}{S0:zB}(hT:Lr lb most A B T0)(ha:A.length<2 ^ 36)(hb:B.length<2 ^ 36):
 Y8 Tryz.prog 170 #[] #[.pointer (some ⟨bl,0,none⟩)] [[(bl,.cells #[.pointer (some ⟨lb,0,none⟩)] 145)]] (T0::S0)
  (fun pre x=>pre++[x]<+:(A++B).map mP) (fun xs=>xs=(A++B).map mP):=by
 obtain⟨u,v,H,G,hA,hB,rfl⟩:=hT;intro l c J Jx hJ0 hround;have e0:(#[]++ #[.func (.yield l) #[] #[]]++ #[.pointer (some ⟨bl,0,none⟩)]:Array Value)= #[.func (.yield l) #[] #[],.pointer (some ⟨bl,0,none⟩)]:=rfl;rw[e0];refine Tri.forget (zn Tryz.Gp (Nat.le_of_ble_eq_true rfl) ?_);unfold Tryz.Dj;refine zm (zG.pm (S2:=[c]::[(bl,.cells #[.pointer (some ⟨lb,0,none⟩)] 145)]::KC lb most u v::H::G::S0) (by simp)) ?_;obtain⟨a0,c0,rfl⟩:=hA.isSlice;obtain⟨a1,c1,rfl⟩:=hB.isSlice;refine ze (ze (z8 ?_));refine zh (zF rfl rfl ?_);refine yp (wJ rfl rfl) (zf (za (zw rfl (zq (za (ze (zY (Zd rfl rfl (zi (zS rfl) (zi (zx rfl) (Zd rfl rfl (Zd rfl rfl (zi (zS rfl) (zi (zx rfl) (Zd rfl rfl (zi pC ?_))))))))))))))));refine zH (mY (l:=[.slice a0 A.length c0,.slice a1 B.length c1]) rfl (by decide) (by decide) (by decide) rfl fun p15=>?_) zM;refine zH (zk (iB (S:=[[(p15,.cells #[.slice a0 A.length c0,.slice a1 B.length c1] 92)],H,G]) (b:=p15) (hA.src (by simp)) (hB.src (by simp)) ha hb (by simp)) rfl rfl fun r S' h=>?_) zM;obtain⟨H1,hL1,rfl⟩:=h;obtain⟨a2,c2,rfl⟩:=hL1.isSlice;generalize hR:A++B=R at hL1 hround ⊢;have hRl:R.length<2 ^ 39:=by rw[←hR,List.length_append]; omega
 refine zi (Zz rfl) (zD (za (zo ?_)));refine Z4 (σ:=Nat) (fun i E S=>Has E [(0,.func (.yield l) #[] #[]),(16,.slice a2 R.length c2),(17,.int .i64 R.length),(18,.int .i64 i)]∧i≤R.length∧∃T,J ((R.take i).map mP) T∧zG S (H1::T)) (fun i=>R.length-i) 0 ⟨⟨rfl,rfl,rfl,rfl,trivial⟩,Nat.zero_le _,[c]::(KC lb most (.slice a0 A.length c0) (.slice a1 B.length c1)++H++G)::S0,hJ0,(zG.re (S1:=H1::[c]::KC lb most (.slice a0 A.length c0) (.slice a1 B.length c1)::H::G::S0) (by simp))⟩ fun i E S ⟨hE,hi,T,hJ,hK⟩=>?_
 obtain⟨E0,e0⟩:=zl hE; subst e0; clear hE;refine zm hK (ze (z8 (yp (ZL rfl rfl) (zf (za (ze ?_))))));refine zO rfl (fun h=>?_) (fun h=>?_)
 ·have hlt:i<R.length:=by omega
  obtain⟨bb,sp,fz,hz,rfl,hm,hc,rfl⟩:=hL1.at' (by intro h; simp[h] at hlt);have htk:R.take (i+1)=R.take i++[R[i]]:=by rw[List.take_add_one,List.getElem?_eq_getElem hlt]; rfl
  refine zq (za (ze (zo (ze (z8 (yp (zN rfl rfl (by omega)) ?_))))));refine zh (wB (l:=enc R[i]) rfl (vJ hlt rfl) rfl ?_);refine zh (Z8 fun p4=>?_);refine zh (wz rfl rfl rfl rfl rfl ?_);refine zf (za (ze (z8 (yp (pF rfl) ?_))));refine zh (wC rfl rfl ?_);have hV:(R.take i).map mP++[mP R[i]]<+:R.map mP:=by
   have e1:(R.take i).map mP++[mP R[i]]=(R.take (i+1)).map mP:=by rw[htk,List.map_append]; rfl
   rw[e1];exact List.IsPrefix.map mP (List.take_prefix _ _)
  refine zh (Xw (hround _ _ T hV hJ) rfl rfl fun b T' h=>?_);rcases h with⟨rfl,hJ'⟩ | ⟨rfl,hJx⟩
  ·refine yp (Ze rfl) (zf (za (zw rfl (zq (zT (za (z8 (yp (Za rfl rfl (by omega)) (yp (pI rfl) (zf (za ?_)))))))))));refine⟨i+1,⟨⟨rfl,rfl,rfl,rfl,trivial⟩,by omega,T',?_,.of⟩,by omega⟩;rw[htk,List.map_append]; exact hJ'
  ·refine yp (Ze rfl) (zf (za (zI rfl (zL (bret (zX (zX (bret ?_))))))));exact zK ZG ⟨T',.of,.inr ⟨_,hJx⟩⟩
 ·refine zV (zy (zy (zW ?_)));refine ZF ZG ⟨T,.of,.inl ⟨_,?_,hJ⟩⟩;rw[List.take_of_length_le (by omega)]
structure De where
 k:Ky
 at_:Int
abbrev NC(e:De):Array Value:= #[.string ⟨e.k.n.toArray⟩,.int .i64 e.k.t,.int .i64 e.at_]
instance:Enc De:=⟨fun e=>[.string ⟨e.k.n.toArray⟩,.int .i64 e.k.t,.int .i64 e.at_],3,fun _=>rfl,fun _=>rfl⟩
/-- by their times -/
theorem Fv(a b:De):Tri Tryz.prog 161 #[.agg (NC a),.agg (NC b)] [] (fun r S=>r= .int .i64 (qP a.at_ b.at_)∧S=[]):=by
 refine Tri.forget (zn Tryz.Gx (Nat.le_of_ble_eq_true rfl) ?_);unfold Tryz.Dm;refine ze (z8 ?_);refine zh (Zv rfl fun p2=>?_);refine zh (Zv rfl fun p3=>?_);refine yp pC (zf (za (ze (z8 (yp (zx rfl) ?_)))));refine zh (zF rfl rfl ?_);refine yp (zx rfl) ?_;refine zh (zF rfl rfl ?_);refine zh (zk (lu a.at_ b.at_) rfl rfl fun v S' h=>?_);obtain⟨rfl,rfl⟩:=h;refine yp (pI rfl) (zf (za (zL ?_)));exact zK (rI rfl) ⟨_,.of,rfl,rfl⟩
/-- is it this key? -/
theorem Mt(e:De)(b:Nat)(k:Ky)(t:TypeId)(fz:Nat × Nat):Tri Tryz.prog 194 #[.agg (NC e),.pointer (some ⟨b,0,none⟩)] [[(b,.cells (WS k) t fz)]] (fun r S=>r= .bool (decide (e.k=k))∧S=[[(b,.cells (WS k) t fz)]]):=by
 refine Tri.forget (zn Tryz.FW (Nat.le_of_ble_eq_true rfl) ?_);unfold Tryz.Db;refine ze (z8 ?_);refine zh (Zv rfl fun p2=>?_);refine yp pC (zf (za (ze (z8 (yp (zx rfl) ?_)))));refine zh (wB (l:=[.string ⟨e.k.n.toArray⟩,.int .i64 e.k.t]) rfl rfl rfl ?_);refine zh (wC rfl rfl ?_);refine yp (BG (a:=e.k) (b:=k) rfl rfl) (yp (pB rfl) (zf (za (zL ?_))));exact zK (rB rfl) ⟨_,.of,rfl,rfl⟩
def idx(k:Ky):List De→Option Nat
 | []=>none
 | e::l=>if e.k=k then some 0 else(idx k l).map (· +1)
theorem iI{k:Ky}:∀{l:List De} {i:Nat},idx k l=some i→i<l.length
 | e::l,i,h=>by
  unfold idx at h;split at h
  ·simp at h; subst h; simp
  ·cases h':idx k l with
   | none=>simp[h'] at h
   | some j=>simp[h'] at h; have:=iI h'; subst h; simp; omega
/-- where a key stands -/
theorem Fq(v:Value)(L:List De)(H:List Chunk)(hL:Zf 216 v L H)(hlen:L.length<2 ^ 40)(kb:Nat)(k:Ky)(t:TypeId)(fz:Nat × Nat):
 Tri Tryz.prog 193 #[v,.func (.func 194) #[] #[.pointer (some ⟨kb,0,none⟩)]] [H,[(kb,.cells (WS k) t fz)]] (fun r S=>r=iG (idx k L)∧S=[H,[(kb,.cells (WS k) t fz)]]):=by
 refine Tri.forget (zn Tryz.FX (Nat.le_of_ble_eq_true rfl) ?_);unfold Tryz.Dc;obtain⟨a,c,rfl⟩:=hL.isSlice;refine ze (z8 (yp pC (zf (za (ze (ze (z8 (yp (pS rfl) (yp (Zz rfl) (yp pC (zf (za (zo ?_)))))))))))));refine Z4 (σ:=Nat) (fun i E S=>Has E [(0,.slice a L.length c),(1,.func (.func 194) #[] #[.pointer (some ⟨kb,0,none⟩)]),(7,.int .i64 L.length),(8,.int .i64 i)]∧i≤L.length∧(idx k L=(idx k (L.drop i)).map (· +i))∧zG S [H,[(kb,.cells (WS k) t fz)]]) (fun i=>L.length-i) 0 ⟨⟨rfl,rfl,rfl,rfl,trivial⟩,Nat.zero_le _,by simp,.self⟩ fun i E S ⟨hE,hi,hx,hS⟩=>?_
 obtain⟨E0,e0⟩:=zl hE; subst e0; clear hE;refine zm hS (ze (z8 (yp (ZL rfl rfl) (zf (za (ze ?_))))));refine zO rfl (fun h=>?_) (fun h=>?_)
 ·have hlt:i<L.length:=by omega
  have hd:L.drop i=L[i]::L.drop (i+1):=List.drop_eq_getElem_cons hlt;refine zq (za (ze (zo (ze (z8 (yp (pI rfl) (yp (pI rfl) (zf (za (ze (z8 (yp (pF rfl) (yp (pS rfl) (yp (pI rfl) ?_))))))))))))));obtain⟨b,sp,fz2,hz,rfl,_,rfl,rfl⟩:=hL.at' (by intro h; simp[h] at hlt);refine yp (zN rfl rfl (by omega)) ?_;refine zh (wB (l:=enc L[i]) rfl (vJ hlt rfl) rfl ?_);refine zh (zk (Mt L[i] kb k t fz) rfl rfl fun v S' h=>?_);obtain⟨rfl,rfl⟩:=h;refine zf (za ?_);refine zO rfl (fun h2=>?_) (fun h2=>?_)
  ·refine ze (z8 (yp (pI rfl) (yp (pI rfl) (zf (za (zL (bret (zX (zX (bret (zX ?_)))))))))));exact zK (rI rfl) ⟨_,.of,by rw[hx,hd,idx,if_pos h2]; simp[iG],rfl⟩
  ·refine zq (zT (za (z8 (yp (Za rfl rfl (by omega)) (yp (pI rfl) (zf (za ?_)))))));refine⟨i+1,⟨⟨rfl,rfl,rfl,rfl,trivial⟩,by omega,?_,.of⟩,by omega⟩;rw[hx,hd,idx,if_neg h2,Option.map_map];congr 1;funext x;simp; omega
 ·refine zV (zy (zy (zW (za (ze (z8 (yp pC (zf (za (zL ?_))))))))));have:L.drop i=[]:=List.drop_eq_nil_of_le (by omega);exact zK (rI rfl) ⟨_,.of,by rw[hx,this]; rfl,rfl⟩
theorem oP(db:Nat)(dt:TypeId)(dfz:Nat × Nat)(v:Value)(L:List De)(H:List Chunk)(hL:Zf 216 v L H)(hlen:L.length<2 ^ 40)(k:Ky):
 Tri Tryz.prog 168 #[.pointer (some ⟨db,0,none⟩),.agg (WS k)] [[(db,.cells #[v] dt dfz)],H] (fun r S=>r=iG (idx k L)∧S=[[(db,.cells #[v] dt dfz)],H]):=by
 refine Tri.forget (zn Tryz.Gr (Nat.le_of_ble_eq_true rfl) ?_);unfold Tryz.x168;obtain⟨a,c,rfl⟩:=hL.isSlice;refine ze (z8 ?_);refine zh (Zv rfl fun p3=>?_);refine yp pC (zf (za (ze (ze (z8 (yp (pP rfl) (yp (wJ rfl rfl) (zf (za (zw rfl (zq (za (ze (z8 (yp (pP rfl) (yp (zS rfl) (yp (zx rfl) ?_)))))))))))))))));refine zh (zF rfl rfl ?_);refine yp (gQ (jI rfl)) ?_;refine zh (zk (Fq _ L H hL hlen p3 k 43 (0,0)) rfl rfl fun v S' h=>?_);obtain⟨rfl,rfl⟩:=h;refine yp (pI rfl) (zf (za (zL ?_)));exact zK (rI rfl) ⟨_,.of,rfl,rfl⟩
theorem Fu{v:Value}{L:List De}{H:List Chunk}(hL:Zf 216 v L H)(hlen:L.length<2 ^ 40){i j:Nat}(hi:i<L.length)(hj:j=i+1):
 Tri Tryz.prog 169 #[v,.int .i64 (i:Int),.int .i64 (j:Int)] [H] (fun r S=>∃H',Zf 216 r (L.eraseIdx i) H'∧S=[H']):=
 yQ Tryz.Gq rfl (⟨⟨[],0⟩,0⟩:De) rfl hL hlen hi hj
def Vu(k:Ky)(L:List De):List De:=match idx k L with | some i=>L.eraseIdx i | none=>L
def bI(k:Ky)(L:List De):Bool:=(idx k L).isSome
theorem KN(k:Ky)(L:List De):(Vu k L).length≤L.length:=by
 unfold Vu;split
 ·rw[List.length_eraseIdx]; split<;>omega
 ·exact Nat.le_refl _
theorem QO{db:Nat}{v:Value}{L:List De}{H:List Chunk}(hL:Zf 216 v L H)(hlen:L.length<2 ^ 40)(k:Ky):
 Tri Tryz.prog 152 #[.pointer (some ⟨db,0,none⟩),.agg (WS k)] [[(db,.cells #[v] 211)],H] (fun r S=>r= .bool (bI k L)∧∃v' H',Zf 216 v' (Vu k L) H'∧S=[[(db,.cells #[v'] 211)],H']):=by
 refine Tri.forget (zn Tryz.GJ (Nat.le_of_ble_eq_true rfl) ?_);unfold Tryz.x152;refine ze (z8 ?_);refine zh (Zv rfl fun p3=>?_);refine yp pC (zf (za (ze (z8 (yp (pP rfl) ?_)))));refine zh (wC rfl rfl ?_);refine zh (zk (oP db 211 (0,0) v L H hL hlen k) rfl rfl fun r S' h=>?_);obtain⟨rfl,rfl⟩:=h;cases h:idx k L with
 | none=>
  have h1:bI k L=false:=by simp[bI,h]
  have h2:Vu k L=L:=by simp[Vu,h]
  rw[h1,h2];simp only[iG];refine yp (pI rfl) (zf (za (ze (ze (z8 (yp (pI rfl) (yp (ZL rfl rfl) (zf (za (zI rfl (ze (z8 (yp pC (zf (za (zL (zX ?_)))))))))))))))));exact zK (rB rfl) ⟨_,.of,rfl,_,_,hL,rfl⟩
 | some i=>
  have h1:bI k L=true:=by simp[bI,h]
  have h2:Vu k L=L.eraseIdx i:=by simp[Vu,h]
  have hi:=iI h;rw[h1,h2];simp only[iG];refine yp (pI rfl) (zf (za (ze (ze (z8 (yp (pI rfl) (yp (ZL rfl rfl) (zf (za (zw rfl (zq (za (ze (z8 (yp (pP rfl) (yp (pP rfl) (yp (zS rfl) (yp (zx rfl) ?_))))))))))))))))));refine zh (zF rfl rfl ?_);refine yp (pI rfl) (yp (pI rfl) (yp (Za rfl rfl (by omega)) ?_));obtain⟨a,c,rfl⟩:=hL.isSlice
  skip
  refine zh (zk (Fu hL hlen hi rfl) rfl rfl fun r S' h=>?_);obtain⟨H',hL',rfl⟩:=h;obtain⟨a',c',rfl⟩:=hL'.isSlice;refine yp (zS rfl) (yp (zx rfl) ?_);refine zh (ZO rfl rfl (Ke rfl) ?_);refine zf (za (ze (z8 (yp pC (zf (za (zL ?_)))))));exact zK (rB rfl) ⟨_,.of,rfl,_,_,hL',rfl⟩
theorem BZ:Tri Tryz.prog 123 #[] [] (fun r S=>∃db,r= .pointer (some ⟨db,0,none⟩)∧S=[[(db,.cells #[.slice none 0 0] 211)]]):=by
 refine Tri.forget (zn Tryz.HZ (Nat.le_of_ble_eq_true rfl) ?_);unfold Tryz.DX;refine ze (z8 (yp pC (zf (za (ze (z8 (yp vF ?_)))))));refine zh (Zv rfl fun p2=>?_);refine yp (pP rfl) (zf (za (zL ?_)));exact zK (rP rfl) ⟨_,.of,_,rfl,rfl⟩
theorem BX{db:Nat}{v:Value}{L:List De}{H:List Chunk}(hL:Zf 216 v L H)(hlen:L.length<2 ^ 40-1)(k:Ky)(t:Int):
 Tri Tryz.prog 131 #[.pointer (some ⟨db,0,none⟩),.agg (WS k),.int .i64 t] [[(db,.cells #[v] 211)],H] (fun r S=>r= .tuple #[]∧∃v' H',Zf 216 v' (Vu k L++[(⟨k,t⟩:De)]) H'∧S=[[(db,.cells #[v'] 211)],H']):=by
 refine Tri.forget (zn Tryz.Hl (Nat.le_of_ble_eq_true rfl) ?_);unfold Tryz.DK;refine ze (z8 ?_);refine zh (Zv rfl fun p4=>?_);refine zf (za (ze (ze (z8 (yp (pP rfl) (yp (wJ rfl rfl) (zf (za (zw rfl (zq (za (ze (z8 (yp (pP rfl) ?_))))))))))))));refine zh (wC rfl rfl ?_);refine zh (zk (QO hL (by omega) k) rfl rfl fun r S' h=>?_);obtain⟨rfl,v1,H1,hL1,rfl⟩:=h;refine zf (za (zY (zi (pP rfl) (zi (pP rfl) (zi (zS rfl) (zi (zx rfl) (Zd rfl rfl (vH rfl rfl (zi (pI rfl) ?_)))))))));obtain⟨a,c,rfl⟩:=hL1.isSlice
 skip
 refine zi (v:= .agg #[.string ⟨k.n.toArray⟩,.int .i64 k.t,.int .i64 t]) rfl ?_;refine Zm (Ve (⟨k,t⟩:De) rfl rfl (by decide) (by decide) rfl fun p19=>⟨by simp,?_⟩) zM;have hdl:=KN k L;refine zH (VL (Y:=[(⟨k,t⟩:De)]) rfl rfl hL1 (.lit (by repeat (first | exact List.mem_cons_self | apply List.mem_cons_of_mem)) rfl) rfl (⟨⟨[],0⟩,0⟩:De) rfl (by simp; omega) (by simp; omega) fun v2 H2 hL2=>?_) zM;obtain⟨a2,c2,rfl⟩:=hL2.isSlice;refine zi (zS rfl) (zi (zx rfl) ?_);refine zH (ZO rfl rfl (Ke rfl) ?_) zM;refine zD ?_;exact ZF ZG ⟨_,.of,rfl,_,_,hL2,rfl⟩
theorem oU{v:Value}{L:List De}{H:List Chunk}(hL:Zf 216 v L H)(hlen:L.length<2 ^ 40):
 Tri Tryz.prog 159 #[v] [H] (fun r S=>∃H',Zf 216 r L H'∧S=[H',H]):=by
 refine Tri.forget (zn Tryz.Gz (Nat.le_of_ble_eq_true rfl) ?_);unfold Tryz.x159;rcases hL.inv with⟨rfl,rfl,rfl⟩ | ⟨b,sp,fz,hz,rfl,rfl⟩
 ·refine ze (z8 (yp pC (zf (za (ze (ze (z8 (yp (pS rfl) (yp (QE rfl rfl) (zf (za (zI rfl (ze (z8 (yp pC (zf (za (zL (zX ?_)))))))))))))))))));exact zK (rS rfl) ⟨_,.of,_,.nil,rfl⟩
 ·refine ze (z8 (yp pC (zf (za (ze (ze (z8 (yp (pS rfl) (yp (QE rfl rfl) (zf (za (zw rfl (zq (za (ze (z8 ?_))))))))))))))));refine zh (rO fun p5=>?_);refine yp (pS rfl) ?_;refine zh (VL rfl rfl Zf.empty (hL.src (by repeat (first | exact List.mem_cons_self | apply List.mem_cons_of_mem))) rfl (⟨⟨[],0⟩,0⟩:De) rfl (by simp; omega) (by simp; omega) fun v2 H2 hL2=>?_);obtain⟨a2,c2,rfl⟩:=hL2.isSlice;refine yp (pS rfl) (zf (za (zL ?_)));exact zK (rS rfl) ⟨_,.of,_,hL2,rfl⟩
def xH(e:De):Int:=e.at_
theorem BS{v:Value}{L:List De}{H:List Chunk}(hL:Zf 216 v L H)(hlen:L.length<2 ^ 38){n:Nat}(hn:n=L.length):
 Tri Tryz.prog 184 #[v,.int .i64 (n:Int),.func (.func 161) #[] #[]] [H] (fun r S=>r= .tuple #[]∧∃L' H',SS xH L L'∧L'.length=L.length∧Zf 216 v L' H'∧S=[H']):=
 jC Tryz.Gb Tryz.FQ Tryz.FP Tryz.FJ Tryz.FH rfl xH (fun a b=>(Fv a b).mono fun _ _ ⟨h1,h2⟩=>⟨⟨_,h1,aA _ _⟩,h2⟩) hL hlen hn
theorem BU{v:Value}{L:List De}{H:List Chunk}(hL:Zf 216 v L H)(hlen:L.length<2 ^ 38):
 Tri Tryz.prog 160 #[v,.func (.func 161) #[] #[]] [H] (fun r S=>r= .tuple #[]∧∃L' H',SS xH L L'∧L'.length=L.length∧Zf 216 v L' H'∧S=[H']):=by
 refine Tri.forget (zn Tryz.Gy (Nat.le_of_ble_eq_true rfl) ?_);unfold Tryz.x160;obtain⟨a0,c0,rfl⟩:=hL.isSlice;refine z8 (yp (pS rfl) (yp (pS rfl) (yp (Zz rfl) (yp (pF rfl) ?_))));refine zh (zk (BS hL hlen rfl) rfl rfl fun v S' h=>?_);obtain⟨rfl,L2,H2,hS2,hl2,hL2,rfl⟩:=h;refine zf ?_;exact ZF ZG ⟨_,.of,rfl,_,_,hS2,hl2,hL2,rfl⟩
/-- those whose time has come, in their order -/
def upto(at_:Int)(L:List De):List De:=(QU xH L).filter fun e=>decide (xH e≤at_)
def mQ(e:De):Array Value:= #[.agg (WS e.k),.int .i64 e.at_]
theorem BR{p:Option Addr}{at_:Int}:Tri Tryz.prog 138 #[.pointer p,.int .i64 at_] [] (fun r S=>∃bd ba,r= .func (.func 158) #[] #[.pointer (some ⟨bd,0,none⟩),.pointer (some ⟨ba,0,none⟩)]∧S=[[(bd,.cells #[.pointer p] 146)],[(ba,.cells #[.int .i64 at_] 3)]]):=by
 refine Tri.forget (zn Tryz.He (Nat.le_of_ble_eq_true rfl) ?_);unfold Tryz.DF;refine ze (z8 ?_);refine zh (mO (jI rfl) fun p2=>?_);refine zh (mO (uM rfl) fun p3=>?_);refine yp pC (zf (za (ze (z8 (yp (ER (jI rfl) (jI rfl)) (yp (pF rfl) (zf (za (zL ?_)))))))));exact zK (rF rfl) ⟨_,.of,_,_,rfl,rfl⟩
/-- all of it as one piece of memory -/
abbrev qE(db:Nat)(v:Value):List Chunk:=[(db,.cells #[v] 211)]
def Du(db:Nat)(L:List De)(T:List Chunk):Prop:=∃v H,Zf 216 v L H∧T=qE db v++H
theorem Du.mk{db:Nat}{v:Value}{L:List De}{H:List Chunk}(h:Zf 216 v L H):Du db L (qE db v++H):=⟨v,H,h,rfl⟩
theorem zG.j2{S:zB}{a b:List Chunk}{G:zB}[h:Sub S [a,b] G]:zG S [a++b]:=zG.trans (zG.of (h:=h)) ⟨[],by simp⟩
theorem Tri.s2{P:Program}{f:FuncId}{args:Array Value}{a b:List Chunk}{S0:zB}{R:Value→zB→Prop}(h:Tri P f args (a::b::S0) R):Tri P f args ((a++b)::S0) R:=h.perm (by simp)
theorem Fj:Tri Tryz.prog 123 #[] [] (fun r S=>∃db T,r= .pointer (some ⟨db,0,none⟩)∧Du db [] T∧S=[T]):=
 BZ.mono fun r S ⟨db,h1,h2⟩=>⟨db,_,h1,Du.mk .nil,by rw[h2]; rfl⟩
theorem C9{db:Nat}{L:List De}{T:List Chunk}(hT:Du db L T)(hlen:L.length<2 ^ 40)(k:Ky):
 Tri Tryz.prog 152 #[.pointer (some ⟨db,0,none⟩),.agg (WS k)] [T] (fun r S=>r= .bool (bI k L)∧∃T',Du db (Vu k L) T'∧S=[T']):=by
 obtain⟨v,H,hL,rfl⟩:=hT;refine Tri.forget (Tri.s2 ((QO hL hlen k).mono fun r S ⟨h1,v',H',h2,h3⟩=>⟨[qE db v'++H'],?_,h1,_,Du.mk h2,rfl⟩));subst h3;exact zG.j2
theorem Fh{db:Nat}{L:List De}{T:List Chunk}(hT:Du db L T)(hlen:L.length<2 ^ 40-1)(k:Ky)(t:Int):
 Tri Tryz.prog 131 #[.pointer (some ⟨db,0,none⟩),.agg (WS k),.int .i64 t] [T] (fun r S=>r= .tuple #[]∧∃T',Du db (Vu k L++[(⟨k,t⟩:De)]) T'∧S=[T']):=by
 obtain⟨v,H,hL,rfl⟩:=hT;refine Tri.forget (Tri.s2 ((BX hL hlen k t).mono fun r S ⟨h1,v',H',h2,h3⟩=>⟨[qE db v'++H'],?_,h1,_,Du.mk h2,rfl⟩));subst h3;exact zG.j2
theorem iE{db bd ba:Nat}{L:List De}{T0:List Chunk}{S0:zB}(hT:Du db L T0)(hlen:L.length<2 ^ 38)(at_:Int):
 Y8 Tryz.prog 158 #[] #[.pointer (some ⟨bd,0,none⟩),.pointer (some ⟨ba,0,none⟩)] [[(bd,.cells #[.pointer (some ⟨db,0,none⟩)] 146)],[(ba,.cells #[.int .i64 at_] 3)]] (T0::S0)
  (fun pre x=>pre++[x]<+:(upto at_ L).map mQ) (fun xs=>xs=(upto at_ L).map mQ):=by
 obtain⟨v,H,hL,rfl⟩:=hT;intro l c J Jx hJ0 hround;have e0:(#[]++ #[.func (.yield l) #[] #[]]++ #[.pointer (some ⟨bd,0,none⟩),.pointer (some ⟨ba,0,none⟩)]:Array Value)= #[.func (.yield l) #[] #[],.pointer (some ⟨bd,0,none⟩),.pointer (some ⟨ba,0,none⟩)]:=rfl;rw[e0];refine Tri.forget (zn Tryz.GA (Nat.le_of_ble_eq_true rfl) ?_);unfold Tryz.x158;refine zm (zG.pm (S2:=[c]::[(bd,.cells #[.pointer (some ⟨db,0,none⟩)] 146)]::[(ba,.cells #[.int .i64 at_] 3)]::qE db v::H::S0) (by simp)) ?_;obtain⟨a0,c0,rfl⟩:=hL.isSlice;refine ze (ze (z8 ?_));refine zh (zF rfl rfl ?_);refine yp (wJ rfl rfl) (zf (za (zw rfl (zq (za (ze (z8 ?_)))))));refine zh (zF rfl rfl ?_);refine yp (zS rfl) (yp (zx rfl) ?_);refine zh (zF rfl rfl ?_);refine zh (zk (oU hL (by omega)) rfl rfl fun v S' h=>?_);obtain⟨H1,hL1,rfl⟩:=h;obtain⟨a1,c1,rfl⟩:=hL1.isSlice;refine yp (pS rfl) (zf (za (ze (z8 (yp (pS rfl) ?_)))));refine zh (zk (BU hL1 hlen) rfl rfl fun v S' h=>?_);obtain⟨rfl,R,H2,hS,hl,hL2,rfl⟩:=h;have hR:=hS.eq;have hU:upto at_ L=R.filter fun e=>decide (xH e≤at_):=by rw[upto, ←hR]
 rw[hU];rw[hU] at hround;clear hU hR;have hso:=hS.1;refine zf (za (ze (z8 (yp (pS rfl) (yp (Zz rfl) (yp pC (zf (za (zo ?_)))))))));refine Z4 (σ:=Nat) (fun i E S=>Has E [(0,.func (.yield l) #[] #[]),(2,.pointer (some ⟨ba,0,none⟩)),(16,.slice a1 L.length c1),(17,.int .i64 L.length),(18,.int .i64 i)]∧i≤R.length∧(∀e∈R.take i,xH e≤at_)∧∃T,J ((R.take i).map mQ) T∧zG S ([(ba,.cells #[.int .i64 at_] 3)]::H2::T)) (fun i=>L.length-i) 0 ⟨⟨rfl,rfl,rfl,rfl,rfl,trivial⟩,Nat.zero_le _,by simp,[c]::(qE db (.slice a0 L.length c0)++H)::S0,hJ0,(zG.re (S1:=[(ba,.cells #[.int .i64 at_] 3)]::H2::[c]::qE db (.slice a0 L.length c0)::H::S0) (by simp))⟩ fun i E S ⟨hE,hi,hle,T,hJ,hK⟩=>?_
 obtain⟨E0,e0⟩:=zl hE; subst e0; clear hE;refine zm hK (ze (z8 (yp (ZL rfl rfl) (zf (za (ze ?_))))));refine zO rfl (fun h=>?_) (fun h=>?_)
 ·have hlt:i<R.length:=by omega
  obtain⟨bb,sp,fz,hz,rfl,hm,hc,rfl⟩:=hL2.at' (by intro h; simp[h] at hlt);have htk:R.take (i+1)=R.take i++[R[i]]:=by rw[List.take_add_one,List.getElem?_eq_getElem hlt]; rfl
  have hdr:R.drop i=R[i]::R.drop (i+1):=List.drop_eq_getElem_cons hlt;refine zq (za (ze (zo (ze (z8 (yp (zN rfl rfl (by omega)) ?_))))));refine zh (wB (l:=enc R[i]) rfl (vJ hlt rfl) rfl ?_);refine zh (Z8 fun p6=>?_);refine zh (wz rfl rfl rfl rfl rfl ?_);refine zf (za (ze (z8 (yp (zx rfl) ?_))));refine zh (zF rfl rfl ?_);refine zh (zF rfl rfl ?_);refine yp (VE rfl rfl) (yp (pB rfl) ?_);by_cases hat:at_<R[i].at_
  ·rw[decide_eq_true hat];refine Z5 rfl (Z5 rfl (Z5 rfl (Z5 rfl (Z5 rfl (Z5 rfl (Z5 rfl (yp (zP rfl rfl) (zf (za (zI rfl (zL (bret (zX (zX (bret ?_)))))))))))))));refine zK ZG ⟨T,.of,.inl ⟨_,?_,hJ⟩⟩;have h1:R.filter (fun e=>decide (xH e≤at_))=R.take i:=by
    conv=>lhs; rw[←List.take_append_drop i R]
    rw[List.filter_append,List.filter_eq_self.2 (by intro e he; simpa using hle e he)];have:(R.drop i).filter (fun e=>decide (xH e≤at_))=[]:=by
     rw[List.filter_eq_nil_iff];intro e he;have hp:=(List.pairwise_append.1 (by rw[List.take_append_drop]; exact hso:(R.take i++R.drop i).Pairwise _)).2.1;rw[hdr] at hp he;rcases List.mem_cons.1 he with rfl | he
     ·have h9:xH R[i]=R[i].at_:=rfl;simp; omega
     ·have:=(List.pairwise_cons.1 hp).1 e he;have h9:xH R[i]=R[i].at_:=rfl;simp; omega
    rw[this,List.append_nil]
   rw[h1]
  ·rw[decide_eq_false hat];refine Z0 rfl (Zc (pF rfl) (Z0 rfl (Zc (zx rfl) (Z0 rfl ?_))));have hle':∀e∈R.take (i+1),xH e≤at_:=by
    intro e he;rw[htk] at he;rcases List.mem_append.1 he with he | he
    ·exact hle e he
    ·rw[List.mem_singleton.1 he]; show R[i].at_≤at_; omega
   have hV:(R.take i).map mQ++[mQ R[i]]<+:(R.filter fun e=>decide (xH e≤at_)).map mQ:=by
    have e1:(R.take i).map mQ++[mQ R[i]]=(R.take (i+1)).map mQ:=by rw[htk,List.map_append]; rfl
    rw[e1];refine List.IsPrefix.map mQ ?_
    conv=>rhs; rw[←List.take_append_drop (i+1) R]
    rw[List.filter_append,List.filter_eq_self.2 (by intro e he; simpa using hle' e he)];exact List.prefix_append _ _
   refine wB (l:=[.string ⟨R[i].k.n.toArray⟩,.int .i64 R[i].k.t]) rfl rfl rfl (Z0 rfl (Zc (zx rfl) (Z0 rfl ?_)));refine(zF rfl rfl ?_);refine Z0 rfl ?_;refine Xw (hround _ _ T hV hJ) rfl rfl fun b T' h=>?_
   rcases h with⟨rfl,hJ'⟩ | ⟨rfl,hJx⟩
   ·refine Z0 rfl (Zc (Ze rfl) (yp (zU rfl rfl) (zf (za (zw rfl (zq (zT (za (z8 (yp (Za rfl rfl (by omega)) (yp (pI rfl) (zf (za ?_)))))))))))));refine⟨i+1,⟨⟨rfl,rfl,rfl,rfl,rfl,trivial⟩,by omega,hle',T',?_,.of⟩,by omega⟩;rw[htk,List.map_append]; exact hJ'
   ·refine Z0 rfl (Zc (Ze rfl) (yp (zU rfl rfl) (zf (za (zI rfl (zL (bret (zX (zX (bret ?_))))))))));exact zK ZG ⟨T',.of,.inr ⟨_,hJx⟩⟩
 ·refine zV (zy (zy (zW ?_)));refine ZF ZG ⟨T,.of,.inl ⟨_,?_,hJ⟩⟩;rw[List.take_of_length_le (by omega)] at hle ⊢;rw[List.filter_eq_self.2 (by intro e he; simpa using hle e he)]
end Go.Proofs.YtekgciopamkjlaaGreat
