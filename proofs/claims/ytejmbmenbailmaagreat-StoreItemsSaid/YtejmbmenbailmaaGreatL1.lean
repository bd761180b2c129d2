/- Keys by their use (lists.LRU, for a store): contracts. Keys by their use: Order. Keys by their times (lists.Due, for a store): contracts. -/
import Derived.Test.YtejmbmenbailmaaGreatY1
import Derived.Test.YtejmbmenbailmaaGreatL0
import Derived.Test.YtejmbmenbailmaaGreatN1
import Derived.Test.YtejmbmenbailmaaGreatA1
import Derived.Test.YtejmbmenbailmaaGreatFLists
namespace Go.Proofs.YtejmbmenbailmaaGreat
open Go.Xs
open Enc (enc)
def iy(o:Option Nat):Value:= .int .i64 (match o with | some i=>(i:Int) | none=> -1)
def kpos(k:Ky):List Ky→Option Nat
 | []=>none
 | e::l=>if k=e then some 0 else(kpos k l).map (· +1)
theorem QH{k:Ky}:∀{l:List Ky} {i:Nat},kpos k l=some i→i<l.length
 | e::l,i,h=>by
  unfold kpos at h;split at h
  ·simp at h; subst h; simp
  ·cases h':kpos k l with
   | none=>simp[h'] at h
   | some j=>simp[h'] at h; have:=QH h'; subst h; simp; omega
theorem Xb{k:Ky}:∀{l:List Ky},kpos k l=none→k ∉ l
 | [],_=>by simp
 | e::l,h=>by
  unfold kpos at h;split at h
  ·simp at h
  ·next hk=>
   rw[Option.map_eq_none_iff] at h;have:=Xb h;simp[hk,this]
theorem Uj{k:Ky}:∀{l:List Ky} {i:Nat},kpos k l=some i→k∈l∧l.eraseIdx i=l.erase k
 | e::l,i,h=>by
  unfold kpos at h;split at h
  ·next hk=>simp at h; subst h; subst hk; simp
  ·next hk=>
   cases h':kpos k l with
   | none=>simp[h'] at h
   | some j=>
    simp[h'] at h; subst h;obtain⟨h1,h2⟩:=Uj h';refine⟨List.mem_cons_of_mem _ h1,?_⟩;rw[List.eraseIdx_cons_succ,h2,List.erase_cons_tail (by simpa using fun h=>hk h.symm)]
/-- where a key stands -/
theorem rY{v:Value}{L:List Ky}{H:List Chunk}(hL:Za 43 v L H)(hlen:L.length<2 ^ 40)(k:Ky):
 Tri Tryz.prog 151 #[v,.agg (Wi k)] [H] (fun r S=>r=iy (kpos k L)∧S=[H]):=by
 refine Tri.forget (zm Tryz.FJ (Nat.le_of_ble_eq_true rfl) ?_);unfold Tryz.x151;obtain⟨a,c,rfl⟩:=hL.isSlice;refine ze (z8 ?_);refine zh (Zt rfl fun p3=>?_);refine yp pC (zf (za (ze (ze (z8 (yp (pS rfl) (yp (ZB rfl) (yp pC (zf (za (zq ?_)))))))))));refine Z6 (σ:=Nat) (fun i E S=>Has E [(0,.slice a L.length c),(3,.pointer (some ⟨p3,0,none⟩)),(7,.int .i64 L.length),(8,.int .i64 i)]∧i≤L.length∧(kpos k L=(kpos k (L.drop i)).map (· +i))∧zD S [[(p3,.cells (Wi k) 43)],H]) (fun i=>L.length-i) 0 ⟨⟨rfl,rfl,rfl,rfl,trivial⟩,Nat.zero_le _,by simp,.of⟩ fun i E S ⟨hE,hi,hx,hS⟩=>?_
 obtain⟨E0,e0⟩:=zy hE; subst e0; clear hE;refine zn hS (ze (z8 (yp (ZO rfl rfl) (zf (za (ze ?_))))));refine zQ rfl (fun h=>?_) (fun h=>?_)
 ·have hlt:i<L.length:=by omega
  have hd:L.drop i=L[i]::L.drop (i+1):=List.drop_eq_getElem_cons hlt;obtain⟨b,sp,fz2,hz,rfl,_,rfl,rfl⟩:=hL.at' (by intro h; simp[h] at hlt);refine zw (za (ze (zq (ze (z8 (yp (pI rfl) (yp (pI rfl) (zf (za (ze (zX (WA rfl rfl (zi (pS rfl) (zi (pI rfl) (zi (zT rfl rfl (by omega)) (Vq (l:=enc L[i]) rfl (wU hlt rfl) rfl ?_))))))))))))))));by_cases h2:k=L[i]
  ·refine zi (nQ (a:=k) (b:=L[i]) rfl rfl) ?_;rw[decide_eq_true h2];refine zL (za (zH rfl (ze (z8 (yp (pI rfl) (yp (pI rfl) (zf (za (zJ (bret (zU (zU (bret (zU ?_))))))))))))));exact zI (rI rfl) ⟨_,.of,by rw[hx,hd,kpos,if_pos h2]; simp[iy],rfl⟩
  ·refine zi (nQ (a:=k) (b:=L[i]) rfl rfl) ?_;rw[decide_eq_false h2];refine zL (za (zA rfl (zw (zS (za (z8 (yp (Zg rfl rfl (by omega)) (yp (pI rfl) (zf (za ?_))))))))));refine⟨i+1,⟨⟨rfl,rfl,rfl,rfl,trivial⟩,by omega,?_,.of⟩,by omega⟩;rw[hx,hd,kpos,if_neg h2,Option.map_map];congr 1;funext x;simp; omega
 ·refine zW (zF (zF (zZ (za (ze (z8 (yp pC (zf (za (zJ ?_))))))))));have:L.drop i=[]:=List.drop_eq_nil_of_le (by omega);exact zI (rI rfl) ⟨_,.of,by rw[hx,this]; rfl,rfl⟩
theorem rZ{v:Value}{L:List Ky}{H:List Chunk}(hL:Za 43 v L H)(hlen:L.length<2 ^ 40)(k:Ky):
 Tri Tryz.prog 125 #[v,.agg (Wi k)] [H] (fun r S=>r= .bool (decide (k∈L))∧S=[H]):=by
 refine Tri.forget (zm Tryz.Gf (Nat.le_of_ble_eq_true rfl) ?_);unfold Tryz.CS;obtain⟨a,c,rfl⟩:=hL.isSlice;refine ze (z8 ?_);refine zh (Zt rfl fun p3=>?_);refine yp pC (zf (za (ze (z8 (yp (pS rfl) ?_)))));refine zh (Zx rfl rfl ?_);refine zh (zk (rY hL hlen k) rfl rfl fun r S' h=>?_);obtain⟨rfl,rfl⟩:=h;cases h:kpos k L with
 | none=>
  rw[decide_eq_false (Xb h)];simp only[iy];refine yp (yM rfl rfl) (yp (pB rfl) (zf (za (zJ ?_))));exact zI (rB rfl) ⟨_,.of,rfl,rfl⟩
 | some i=>
  rw[decide_eq_true (Uj h).1];simp only[iy];refine yp (yM rfl rfl) (yp (pB rfl) (zf (za (zJ ?_))));exact zI (rB rfl) ⟨_,.of,by simp,rfl⟩
theorem sj{v:Value}{L:List Ky}{H:List Chunk}(hL:Za 43 v L H)(hlen:L.length<2 ^ 40){i j:Nat}(hi:i<L.length)(hj:j=i+1):
 Tri Tryz.prog 127 #[v,.int .i64 (i:Int),.int .i64 (j:Int)] [H] (fun r S=>∃H',Za 43 r (L.eraseIdx i) H'∧S=[H']):=
 Yb Tryz.Gc rfl (⟨[],0⟩:Ky) rfl hL hlen hi hj
theorem su{v:Value}{L:List Ky}{H:List Chunk}(hL:Za 43 v L H)(hlen:L.length<2 ^ 40)(k:Ky):
 Tri Tryz.prog 146 #[v,.agg (Wi k)] [H] (fun r S=>∃v' H',r= .tuple #[v',.bool (decide (k∈L))]∧Za 43 v' (L.erase k) H'∧S=[H']):=by
 refine Tri.forget (zm Tryz.FP (Nat.le_of_ble_eq_true rfl) ?_);unfold Tryz.Cr;obtain⟨a,c,rfl⟩:=hL.isSlice;refine ze (z8 ?_);refine zh (Zt rfl fun p3=>?_);refine yp pC (yp pC (zf (za (ze (z8 (yp (pS rfl) ?_))))));refine zh (Zx rfl rfl ?_);refine zh (zk (rY hL hlen k) rfl rfl fun r S' h=>?_);obtain⟨rfl,rfl⟩:=h;cases h:kpos k L with
 | none=>
  have h1:=Xb h;rw[decide_eq_false h1,List.erase_of_not_mem h1];simp only[iy];refine yp (pI rfl) (zf (za (ze (ze (z8 (yp (pI rfl) (yp (ZO rfl rfl) (zf (za (zH rfl (ze (z8 (yp (pS rfl) (yp (pS rfl) (yp pC (zf (za (zJ (zU ?_)))))))))))))))))));exact zI (Aa rfl rfl) ⟨_,.of,_,_,rfl,hL,rfl⟩
 | some i=>
  have hi:=QH h;rw[decide_eq_true (Uj h).1, ←(Uj h).2];simp only[iy];refine yp (pI rfl) (zf (za (ze (ze (z8 (yp (pI rfl) (yp (ZO rfl rfl) (zf (za (zA rfl (zw (za (ze (z8 (yp (pS rfl) (yp (pI rfl) (yp (pI rfl) (yp (Zg rfl rfl (by omega)) ?_))))))))))))))))));refine zh (zk (sj hL hlen hi rfl) rfl rfl fun r S' h=>?_);obtain⟨H',hL',rfl⟩:=h;obtain⟨a',c',rfl⟩:=hL'.isSlice;refine yp (pS rfl) (yp pC (zf (za (zJ ?_))));exact zI (Aa rfl rfl) ⟨_,.of,_,_,rfl,hL',rfl⟩
/-- its room, and its two lists -/
abbrev XC(lb:Nat)(most:Int)(u v:Value):List Chunk:=[(lb,.cells #[.int .i64 most,u,v] 183)]
def Lr(lb:Nat)(most:Int)(A B:List Ky)(T:List Chunk):Prop:=∃u v H G,Za 43 u A H∧Za 43 v B G∧T=XC lb most u v++H++G
theorem Lr.mk{lb:Nat}{most:Int}{u v:Value}{A B:List Ky}{H G:List Chunk}(hA:Za 43 u A H)(hB:Za 43 v B G):Lr lb most A B (XC lb most u v++H++G):=⟨u,v,H,G,hA,hB,rfl⟩
theorem Ed(most:Int):Tri Tryz.prog 73 #[.int .i64 most] [] (fun r S=>∃lb T,r= .pointer (some ⟨lb,0,none⟩)∧Lr lb (max most 0) [] [] T∧S=[T]):=by
 refine Tri.forget (zm Tryz.LX (Nat.le_of_ble_eq_true rfl) ?_);unfold Tryz.Ni;refine ze (z8 (yp pC (zf (za (ze (z8 (yp (pI rfl) (yp (DT rfl rfl) (yp (v:= .agg #[.int .i64 (max most 0),.slice none 0 0,.slice none 0 0]) rfl ?_)))))))));refine zh (Zt rfl fun p6=>?_);refine yp (pP rfl) (zf (za (zJ ?_)));exact zI (rP rfl) ⟨_,zD.re (S1:=[XC p6 (max most 0) (.slice none 0 0) (.slice none 0 0)]) (by simp),_,_,rfl,Lr.mk .nil .nil,rfl⟩
theorem QD{lb:Nat}{most:Int}{u v:Value}{A B:List Ky}{H G:List Chunk}(hA:Za 43 u A H)(hB:Za 43 v B G)(ha:A.length<2 ^ 40)(hb:B.length<2 ^ 40)(k:Ky):
 Tri Tryz.prog 122 #[.pointer (some ⟨lb,0,none⟩),.agg (Wi k)] [XC lb most u v,H,G] (fun r S=>r= .bool (decide (k∈A) || decide (k∈B))∧∃u' H' v' G',Za 43 u' (A.erase k) H'∧Za 43 v' (B.erase k) G'∧S=[XC lb most u' v',H',G']):=by
 refine Tri.forget (zm Tryz.Gi (Nat.le_of_ble_eq_true rfl) ?_);unfold Tryz.CW;obtain⟨a,c,rfl⟩:=hA.isSlice;obtain⟨a',c',rfl⟩:=hB.isSlice;refine ze (z8 ?_);refine zh (Zt rfl fun p3=>?_);refine yp pC (zf (za (ze (ze (z8 (yp (pP rfl) (yp (ZW rfl rfl) (zf (za (zA rfl (zw (za (ze (z8 (yp pC (yp pC (zf (za (ze (zX (zi (pP rfl) (zi (pP rfl) (zi (zK rfl) (zi (zo rfl) (zV rfl rfl (WA rfl rfl ?_))))))))))))))))))))))))));refine zO (zk (su hA ha k) rfl rfl fun r S' h=>?_) zN;obtain⟨u1,H1,rfl,hA1,rfl⟩:=h;obtain⟨a1,c1,rfl⟩:=hA1.isSlice;refine zi (pU rfl) (zi (pExt rfl rfl) (zi (pExt rfl rfl) (zi (zK rfl) (zi (zo rfl) ?_))));refine zO (JE rfl rfl (Yx rfl) ?_) zN;refine zi (pB rfl) (zL (za (ze (zX (zi (pP rfl) (zi (pP rfl) (zi (zK rfl) (zi (zo rfl) (zV rfl rfl (WA rfl rfl ?_))))))))));refine zO (zk (su hB hb k) rfl rfl fun r S' h=>?_) zN;obtain⟨v1,G1,rfl,hB1,rfl⟩:=h;obtain⟨a2,c2,rfl⟩:=hB1.isSlice;refine zi (pU rfl) (zi (pExt rfl rfl) (zi (pExt rfl rfl) (zi (zK rfl) (zi (zo rfl) ?_))));refine zO (JD rfl rfl (Yx rfl) ?_) zN;refine zi (pB rfl) (zL (za (ze (z8 (yp (pB rfl) (yp (pB rfl) ?_))))));by_cases h1:k∈A
 ·rw[decide_eq_true h1];refine Z4 rfl (yp (zP rfl rfl) (yp (pB rfl) (zf (za (zJ ?_)))));exact zI (rB rfl) ⟨_,.of,by simp,_,_,_,_,hA1,hB1,rfl⟩
 ·rw[decide_eq_false h1];refine Z5 rfl (Zd (pB rfl) (yp (zR rfl rfl) (yp (pB rfl) (zf (za (zJ ?_))))));exact zI (rB rfl) ⟨_,.of,by simp,_,_,_,_,hA1,hB1,rfl⟩
theorem AP{lb:Nat}{most:Int}{A B:List Ky}{T:List Chunk}(hT:Lr lb most A B T)(ha:A.length<2 ^ 40)(hb:B.length<2 ^ 40)(k:Ky):
 Tri Tryz.prog 122 #[.pointer (some ⟨lb,0,none⟩),.agg (Wi k)] [T] (fun r S=>r= .bool (decide (k∈A) || decide (k∈B))∧∃T',Lr lb most (A.erase k) (B.erase k) T'∧S=[T']):=by
 obtain⟨u,v,H,G,hA,hB,rfl⟩:=hT;refine Tri.forget (Tri.vS ((QD hA hB ha hb k).mono fun r S ⟨h1,u',H',v',G',h2,h3,h4⟩=>⟨[XC lb most u' v'++H'++G'],?_,h1,_,Lr.mk h2 h3,rfl⟩));subst h4;exact zD.vJ
/-- what Add makes of the probation -/
def lS(k:Ky)(A B:List Ky):List Ky:=if k∈A∨k∈B then A else A++[k]
theorem Ee{lb:Nat}{most:Int}{A B:List Ky}{T:List Chunk}(hT:Lr lb most A B T)(ha:A.length<2 ^ 40-1)(hb:B.length<2 ^ 40)(k:Ky):
 Tri Tryz.prog 80 #[.pointer (some ⟨lb,0,none⟩),.agg (Wi k)] [T] (fun r S=>r= .tuple #[]∧∃T',Lr lb most (lS k A B) B T'∧S=[T']):=by
 obtain⟨u,v,H,G,hA,hB,rfl⟩:=hT;refine Tri.vS (Tri.forget (zm Tryz.LK (Nat.le_of_ble_eq_true rfl) ?_));unfold Tryz.x80;obtain⟨a,c,rfl⟩:=hA.isSlice;obtain⟨a',c',rfl⟩:=hB.isSlice;refine ze (z8 ?_);refine zh (Zt rfl fun p3=>?_);refine zf (za (ze (zX (zi (pP rfl) (zi (yL rfl rfl) (zi (pB rfl) (zM rfl (zi (pP rfl) (zM rfl (zi (zK rfl) (zM rfl (zi (zo rfl) (zM rfl (zV rfl rfl (zM rfl (WA rfl rfl ?_))))))))))))))));refine wE rfl ?_ zN;refine Zb (zk (rZ hA (by omega) k) rfl rfl fun r S' h=>?_) zN;obtain⟨rfl,rfl⟩:=h;refine⟨by simp,?_⟩;refine zM rfl (zi (Zi rfl) (zi (zP rfl rfl) (zi (pB rfl) ?_)));by_cases h1:k∈A
 ·rw[decide_eq_true h1];refine Z0 rfl (Z0 rfl (Z0 rfl (Z0 rfl (Z0 rfl ?_))));refine vQ rfl ?_ zN;refine Z0 rfl (zi (zR rfl rfl) (zL (za (zA rfl (zw ?_)))));exact ZQ ZX ⟨_,zD.vJ,rfl,_,by rw[lS,if_pos (.inl h1)]; exact Lr.mk hA hB,rfl⟩
 rw[decide_eq_false h1];refine zM rfl (zi (pP rfl) (zM rfl (zi (zK rfl) (zM rfl (zi (zo rfl) (zM rfl (zV rfl rfl (zM rfl (WA rfl rfl ?_)))))))));refine wE rfl ?_ zN;refine zO (zk (rZ hB (by omega) k) rfl rfl fun r S' h=>?_) zN;obtain⟨rfl,rfl⟩:=h;refine zM rfl (zi (Zi rfl) (zi (zP rfl rfl) (zL (za ?_))));by_cases h2:k∈B
 ·rw[decide_eq_true h2];refine zA rfl (zw ?_);exact ZQ ZX ⟨_,zD.vJ,rfl,_,by rw[lS,if_pos (.inr h2)]; exact Lr.mk hA hB,rfl⟩
 rw[decide_eq_false h2];refine zH rfl (zX (zi (pP rfl) (zi (pP rfl) (zi (zK rfl) (zi (zo rfl) (zV rfl rfl (WA rfl rfl ?_)))))));refine Zb (wL k rfl rfl (by decide) (by decide) rfl fun p30=>⟨by simp,?_⟩) zN;refine zO (Vr (Y:=[k]) rfl rfl hA (.lit (by repeat (first | exact List.mem_cons_self | apply List.mem_cons_of_mem)) rfl) rfl (⟨[],0⟩:Ky) rfl (by simp; omega) (by simp; omega) fun v2 H2 hL2=>?_) zN;obtain⟨a2,c2,rfl⟩:=hL2.isSlice;refine zi (zK rfl) (zi (zo rfl) ?_);refine zO (JE rfl rfl (Yx rfl) ?_) zN;refine zL ?_;exact ZQ ZX ⟨_,zD.vJ,rfl,_,by rw[lS,if_neg (by simp[h1,h2])]; exact Lr.mk hL2 hB,rfl⟩
/-- what Touch makes of both -/
def YC(most:Int)(k:Ky)(A B:List Ky):List Ky:=if k∈A∨k∈B then(if most<((B.erase k++[k]).length:Int) then A.erase k++(B.erase k++[k]).take 1 else A.erase k) else A
def YB(most:Int)(k:Ky)(A B:List Ky):List Ky:=if k∈A∨k∈B then(if most<((B.erase k++[k]).length:Int) then(B.erase k++[k]).eraseIdx 0 else B.erase k++[k]) else B
theorem gW{lb:Nat}{most:Int}{u v:Value}{A B:List Ky}{H G:List Chunk}(hA:Za 43 u A H)(hB:Za 43 v B G)(ha:A.length<2 ^ 40-1)(hb:B.length<2 ^ 40-1)(k:Ky):
 Tri Tryz.prog 86 #[.pointer (some ⟨lb,0,none⟩),.agg (Wi k)] [XC lb most u v,H,G] (fun r S=>r= .bool (decide (k∈A∨k∈B))∧∃u' H' v' G',Za 43 u' (YC most k A B) H'∧Za 43 v' (YB most k A B) G'∧S=[XC lb most u' v',H',G']):=by
 refine Tri.forget (zm Tryz.LD (Nat.le_of_ble_eq_true rfl) ?_);unfold Tryz.MZ;refine ze (z8 ?_);refine zh (Zt rfl fun p3=>?_);refine yp pC (zf (za (ze (ze (z8 (yp (pP rfl) ?_))))));refine zh (Zx rfl rfl ?_);refine zh (zk (QD (lb:=lb) (most:=most) hA hB (by omega) (by omega) k) rfl rfl fun r S' h=>?_);obtain⟨rfl,u1,H1,v1,G1,hA1,hB1,rfl⟩:=h;unfold YC YB;by_cases hk:k∈A∨k∈B
 ·rw[show(decide (k∈A) || decide (k∈B))=true from by rw[←Bool.decide_or]; exact decide_eq_true hk,decide_eq_true hk];rw[if_pos hk,if_pos hk];have hle:(B.erase k).length≤B.length:=List.length_erase_le;have hla:(A.erase k).length≤A.length:=List.length_erase_le;obtain⟨a,c,rfl⟩:=hB1.isSlice;refine yp (Zi rfl) (zf (za (zA rfl (zw (za (ze (zX (zi (pP rfl) (zi (pP rfl) (zi (zK rfl) (zi (zo rfl) (zV rfl rfl (WA rfl rfl ?_)))))))))))));refine Zb (wL k rfl rfl (by decide) (by decide) rfl fun p15=>⟨by simp,?_⟩) zN;refine zO (Vr (Y:=[k]) rfl rfl hB1 (.lit (by repeat (first | exact List.mem_cons_self | apply List.mem_cons_of_mem)) rfl) rfl (⟨[],0⟩:Ky) rfl (by simp; omega) (by simp; omega) fun v2 G2 hB2=>?_) zN;generalize hBB:B.erase k++[k]=BB at hB2;have hlen:BB.length=(B.erase k).length+1:=by rw[←hBB]; simp
  obtain⟨a2,c2,rfl⟩:=hB2.isSlice;obtain⟨a1,c1,rfl⟩:=hA1.isSlice;refine zi (zK rfl) (zi (zo rfl) ?_);refine zO (JD rfl rfl (Yx rfl) ?_) zN;refine zL (za (ze (ze (zX (zi (pP rfl) (zi (zK rfl) (zi (zo rfl) (zV rfl rfl (zi (ZB rfl) (zi (pP rfl) (zi (zK rfl) (zi (zo rfl) (zV rfl rfl (zi (uq rfl rfl) (zL (za ?_))))))))))))))));by_cases hm:most<(BB.length:Int)
  ·rw[decide_eq_true hm,if_pos hm,if_pos hm];have h0:0<BB.length:=by omega
   obtain⟨b2,sp2,fz2,hz2,rfl,_,rfl,rfl⟩:=hB2.at' (by intro h; simp[h] at h0);refine zH rfl (ze (zX (zi (pP rfl) (zi (pP rfl) (zi (zK rfl) (zi (zo rfl) (zV rfl rfl (zi (pP rfl) (zi (zK rfl) (zi (zo rfl) (zV rfl rfl (zi (zT rfl rfl (by omega)) (Vq (l:=enc BB[0]) rfl (wU (i:=0) h0 rfl) rfl ?_)))))))))))));refine Zb (wL BB[0] rfl rfl (by decide) (by decide) rfl fun p40=>⟨by simp,?_⟩) zN;refine zO (Vr (Y:=[BB[0]]) rfl rfl hA1 (.lit (by repeat (first | exact List.mem_cons_self | apply List.mem_cons_of_mem)) rfl) rfl (⟨[],0⟩:Ky) rfl (by simp; omega) (by simp; omega) fun v3 H3 hA3=>?_) zN;obtain⟨a3,c3,rfl⟩:=hA3.isSlice;refine zi (zK rfl) (zi (zo rfl) ?_);refine zO (JE rfl rfl (Yx rfl) ?_) zN;refine zL (za (z8 (yp (pP rfl) (yp (pP rfl) (yp (zK rfl) (yp (zo rfl) ?_))))));refine zh (zx rfl rfl ?_);have hc:Tri Tryz.prog 127 #[.slice (some ⟨b2,0,none⟩) BB.length (BB.length+sp2.length),.int .i64 0,.int .i64 1] _ _:=sj hB2 (by omega) (i:=0) (j:=1) h0 rfl;refine zh (zk hc rfl rfl fun r S' h=>?_);obtain⟨G4,hB4,rfl⟩:=h;obtain⟨a4,c4,rfl⟩:=hB4.isSlice;refine yp (zK rfl) (yp (zo rfl) ?_);refine zh (JD rfl rfl (Yx rfl) ?_);refine zf (za (ze (z8 (yp pC (zf (za (zJ ?_)))))));have e1:BB.take 1=[BB[0]]:=by
    cases BB with
    | nil=>simp at h0
    | cons x l=>rfl
   rw[e1];exact zI (rB rfl) ⟨_,.of,rfl,_,_,_,_,hA3,hB4,rfl⟩
  ·rw[decide_eq_false hm,if_neg hm,if_neg hm];refine zA rfl (zw (za (ze (z8 (yp pC (zf (za (zJ ?_))))))));exact zI (rB rfl) ⟨_,.of,rfl,_,_,_,_,hA1,hB2,rfl⟩
 ·rw[show(decide (k∈A) || decide (k∈B))=false from by rw[←Bool.decide_or]; exact decide_eq_false hk,decide_eq_false hk];rw[if_neg hk,if_neg hk];rw[List.erase_of_not_mem (fun h=>hk (.inl h))] at hA1;rw[List.erase_of_not_mem (fun h=>hk (.inr h))] at hB1;refine yp (Zi rfl) (zf (za (zH rfl (ze (z8 (yp pC (zf (za (zJ (zU ?_))))))))));exact zI (rB rfl) ⟨_,.of,rfl,_,_,_,_,hA1,hB1,rfl⟩
theorem og{lb:Nat}{most:Int}{A B:List Ky}{T:List Chunk}(hT:Lr lb most A B T)(ha:A.length<2 ^ 40-1)(hb:B.length<2 ^ 40-1)(k:Ky):
 Tri Tryz.prog 86 #[.pointer (some ⟨lb,0,none⟩),.agg (Wi k)] [T] (fun r S=>r= .bool (decide (k∈A∨k∈B))∧∃T',Lr lb most (YC most k A B) (YB most k A B) T'∧S=[T']):=by
 obtain⟨u,v,H,G,hA,hB,rfl⟩:=hT;refine Tri.forget (Tri.vS ((gW hA hB ha hb k).mono fun r S ⟨h1,u',H',v',G',h2,h3,h4⟩=>⟨[XC lb most u' v'++H'++G'],?_,h1,_,Lr.mk h2 h3,rfl⟩));subst h4;exact zD.vJ
theorem Dh:Tryz.prog.underlying 66=some (.slice 43):=by kernel_rfl
theorem IX:Tryz.prog.underlying 3=some (.int .i64):=by kernel_rfl
theorem Dn:sizeOf? Tryz.prog 43=some 2:=by kernel_rfl
theorem BJ:zero? Tryz.prog 43=some [.string ⟨#[]⟩,.int .i64 0]:=by kernel_rfl
theorem GU:bytes? Tryz.prog 43=some 24:=by kernel_rfl
theorem AO{n:Nat}(hn:n≤1099511627776):Tri Tryz.prog 171 #[.slice none 0 0,.int .i64 (n:Int)] [] (fun r S=>∃H,Za 43 r ([]:List Ky) H∧S=[H]):=by
 refine Tri.forget (zm Tryz.Fe (Nat.le_of_ble_eq_true rfl) ?_);unfold Tryz.Cg;refine ze (z8 (yp pC (zf (za (ze (ze (z8 (yp (pI rfl) (yp (ZO rfl rfl) (zf (za (zA rfl (zw (za (ze (ze (z8 (yp (pI rfl) (yp (pS rfl) (yp (DY rfl) (yp (pS rfl) (yp (ZB rfl) (yp (ZK rfl rfl (by omega)) (yp (ZK rfl rfl (by omega)) (yp (pI rfl) (zf (za (ze (z8 (yp (pI rfl) (yp (uq rfl rfl) (zf (za ?_)))))))))))))))))))))))))))))))));rcases Nat.eq_zero_or_pos n with rfl | hp
 ·refine zA rfl (zw (za (ze (z8 (yp (pS rfl) (yp (pS rfl) (zf (za (zJ ?_)))))))));exact zI (rS rfl) ⟨_,.of,_,.nil,rfl⟩
 rw[show((n:Int)-(((0:Nat):Int)-((0:Nat):Int)))=(n:Int) from by omega];rw[decide_eq_true (show(0:Int)<n from by omega)];refine zH rfl (z8 (yp (pS rfl) (yp (pS rfl) (yp (DY rfl) (yp (v:= .slice none 0 0) rfl (yp (pI rfl) ?_))))));refine zh (BN Dh IX Dn BJ GU rfl rfl hp (by decide) (by omega) hn fun b M hM=>?_);refine yp (pS rfl) (yp (ZB rfl) (yp (fH (j:=0) rfl rfl (Nat.zero_le _)) (yp (pS rfl) (zf (za (ze (z8 (yp (pS rfl) (yp (pS rfl) (zf (za (zJ ?_))))))))))));refine zI (rS rfl) ⟨_,.of,[(b,.cells ((List.replicate M [.string ⟨#[]⟩,.int .i64 0]).flatten).toArray 43)],?_,rfl⟩;have h:=Za.of (ty:=43) (b:=b) (L:=([]:List Ky)) (sp:=List.replicate M (⟨[],0⟩:Ky));rw[uP (z:=[.string ⟨#[]⟩,.int .i64 0]) M (⟨[],0⟩:Ky) rfl];simpa using h
def mI(A B:List Ky):Nat→Int
 | 0=>0
 | 1=>A.length
 | _=>A.length+B.length
theorem gX{u v:Value}{A B:List Ky}{S:zu}{b:Nat}(hA:Src S u A)(hB:Src S v B)(ha:A.length<2 ^ 36)(hb:B.length<2 ^ 36)(hm:[(b,.cells #[u,v] 66)]∈S):
 Tri Tryz.prog 150 #[.slice (some ⟨b,0,none⟩) 2 2] S (fun r S'=>∃H,Za 43 r (A++B) H∧S'=H::S):=by
 refine Tri.forget (zm Tryz.FK (Nat.le_of_ble_eq_true rfl) ?_);unfold Tryz.x150;obtain⟨a1,c1,rfl⟩:=hA.isSlice;obtain⟨a2,c2,rfl⟩:=hB.isSlice;obtain⟨f,hAt⟩:=At.Kz hm;refine ze (z8 (yp pC (zf (za (ze (z8 (yp pC (zf (za (ze (ze (z8 (yp (pS rfl) (yp (ZB rfl) (yp pC (zf (za (zq ?_))))))))))))))))));refine Z6 (σ:=Nat) (fun i E S'=>Has E [(0,.slice (some ⟨b,0,none⟩) 2 2),(3,.int .i64 (mI A B i)),(9,.slice (some ⟨b,0,none⟩) 2 2),(10,.int .i64 2),(11,.int .i64 i)]∧i≤2∧S'=S) (fun i=>2-i) 0 ⟨⟨rfl,rfl,rfl,rfl,rfl,trivial⟩,Nat.zero_le _,rfl⟩ fun i E S' ⟨hE,hi,hS⟩=>?_
 subst hS;obtain⟨E0,e0⟩:=zy hE; subst e0; clear hE;refine ze (z8 (yp (ZO rfl rfl) (zf (za (ze ?_)))));refine zQ rfl (fun h=>?_) (fun h=>?_)
 ·have h01:i=0∨i=1:=by omega
  rcases h01 with rfl | rfl
  ·rw[show mI A B 0=0 from rfl];refine zw (za (ze (zq (ze (z8 (yp (zT rfl rfl (by omega)) ?_))))));refine zh (zx rfl rfl ?_);refine yp (pS rfl) (zf (za (ze (z8 (yp (pI rfl) (yp (pS rfl) (yp (ZB rfl) (yp (WT rfl rfl (by omega)) (yp (pI rfl) (zf (za (ze (z8 (yp (pI rfl) (yp (ZO rfl rfl) (zf (za (zA rfl (zw (zS (za (z8 (yp (Zg rfl rfl (by omega)) (yp (pI rfl) (zf (za ?_))))))))))))))))))))))))));refine⟨1,⟨⟨rfl,?_,rfl,rfl,rfl,trivial⟩,by omega,rfl⟩,by omega⟩;show Value.int .i64 (0+(A.length:Int))= .int .i64 (A.length:Int);rw[Int.zero_add]
  ·rw[show mI A B 1=A.length from rfl];refine zw (za (ze (zq (ze (z8 (yp (zT rfl rfl (by omega)) ?_))))));refine zh (zx rfl rfl ?_);refine yp (pS rfl) (zf (za (ze (z8 (yp (pI rfl) (yp (pS rfl) (yp (ZB rfl) (yp (Zr rfl rfl (by omega)) (yp (pI rfl) (zf (za (ze (z8 (yp (pI rfl) (yp (ZO rfl rfl) (zf (za (zA rfl (zw (zS (za (z8 (yp (Zg rfl rfl (by omega)) (yp (pI rfl) (zf (za ?_))))))))))))))))))))))))));exact⟨2,⟨⟨rfl,rfl,rfl,rfl,rfl,trivial⟩,by omega,rfl⟩,by omega⟩
 obtain rfl:i=2:=by omega
 rw[show mI A B 2=((A.length+B.length:Nat):Int) from by show(A.length:Int)+B.length=_; omega];refine zW (zF (zF (zZ (za (ze (z8 (yp (pI rfl) ?_)))))));refine zh (zk (AO (n:=A.length+B.length) (by omega)) rfl rfl fun r S' h=>?_);obtain⟨H,hL,rfl⟩:=h;obtain⟨a3,c3,rfl⟩:=hL.isSlice;refine yp (pS rfl) (zf (za (ze (ze (z8 (yp (pS rfl) (yp (ZB rfl) (yp pC (zf (za (zq ?_)))))))))));refine Z6 (σ:=Nat) (fun i E S''=>Has E [(25,.slice (some ⟨b,0,none⟩) 2 2),(26,.int .i64 2),(27,.int .i64 i)]∧i≤2∧∃v H,Za 43 v (([A,B].take i).flatten) H∧E 6=v∧S''=H::S') (fun i=>2-i) 0 ⟨⟨rfl,rfl,rfl,trivial⟩,Nat.zero_le _,_,_,hL,rfl,rfl⟩ fun i E S'' ⟨hE,hi,v1,H1,hL1,hE6,hS⟩=>?_
 subst hS;obtain⟨a4,c4,rfl⟩:=hL1.isSlice;have hE2:Has E [(6,.slice a4 ([A,B].take i).flatten.length c4),(25,.slice (some ⟨b,0,none⟩) 2 2),(26,.int .i64 2),(27,.int .i64 i)]:=⟨hE6,hE⟩
 obtain⟨E0,e0⟩:=zy hE2; subst e0; clear hE2;refine ze (z8 (yp (ZO rfl rfl) (zf (za (ze ?_)))));refine zQ rfl (fun h=>?_) (fun h=>?_)
 ·have h01:i=0∨i=1:=by omega
  rcases h01 with rfl | rfl
  ·refine zw (za (ze (zq (ze (z8 (yp (zT rfl rfl (by omega)) ?_))))));refine zh (zx rfl rfl ?_);refine yp (pS rfl) (zf (za (z8 (yp (pS rfl) (yp (pS rfl) ?_)))));refine zh (Vr (Y:=A) rfl rfl hL1 (Src.mono hA fun s hs=>?_) rfl (⟨[],0⟩:Ky) rfl (by simp; omega) (by simp; omega) fun v2 H2 hL2=>?_)
   ·exact List.mem_cons_of_mem _ hs
   obtain⟨a2,c2,rfl⟩:=hL2.isSlice;refine yp (pS rfl) (zf (zS (za (z8 (yp (Zg rfl rfl (by omega)) (yp (pI rfl) (zf (za ?_))))))));exact⟨1,⟨⟨rfl,rfl,rfl,trivial⟩,by omega,.slice a2 (([A,B].take 0).flatten++A).length c2,H2,by simpa using hL2,rfl,rfl⟩,by omega⟩
  ·refine zw (za (ze (zq (ze (z8 (yp (zT rfl rfl (by omega)) ?_))))));refine zh (zx rfl rfl ?_);refine yp (pS rfl) (zf (za (z8 (yp (pS rfl) (yp (pS rfl) ?_)))));refine zh (Vr (Y:=B) rfl rfl hL1 (Src.mono hB fun s hs=>?_) rfl (⟨[],0⟩:Ky) rfl (by simp; omega) (by simp; omega) fun v2 H2 hL2=>?_)
   ·exact List.mem_cons_of_mem _ hs
   obtain⟨a2,c2,rfl⟩:=hL2.isSlice;refine yp (pS rfl) (zf (zS (za (z8 (yp (Zg rfl rfl (by omega)) (yp (pI rfl) (zf (za ?_))))))));exact⟨2,⟨⟨rfl,rfl,rfl,trivial⟩,by omega,.slice a2 (([A,B].take 1).flatten++B).length c2,H2,by simpa using hL2,rfl,rfl⟩,by omega⟩
 obtain rfl:i=2:=by omega
 refine zW (zF (zF (zZ (za (ze (z8 (yp (pS rfl) (yp (pS rfl) (zf (za (zJ ?_)))))))))));exact zI (rS rfl) ⟨_,.self,_,by simpa using hL1,rfl⟩
theorem oh{p:Option Addr}:Tri Tryz.prog 124 #[.pointer p] [] (fun r S=>∃bl,r= .func (.func 149) #[] #[.pointer (some ⟨bl,0,none⟩)]∧S=[[(bl,.cells #[.pointer p] 128)]]):=by
 refine Tri.forget (zm Tryz.Gg (Nat.le_of_ble_eq_true rfl) ?_);unfold Tryz.CU;refine ze (z8 ?_);refine zh (bS (jf rfl) fun p1=>?_);refine yp pC (zf (za (ze (z8 (yp (aP (jf rfl)) (yp (pF rfl) (zf (za (zJ ?_)))))))));exact zI (rF rfl) ⟨_,.of,_,rfl,rfl⟩
def lU(k:Ky):Array Value:= #[.agg (Wi k)]
theorem aW{bl lb:Nat}{most:Int}{A B:List Ky}{T0:List Chunk}{S0:zu}(hT:Lr lb most A B T0)(ha:A.length<2 ^ 36)(hb:B.length<2 ^ 36):
 Yt Tryz.prog 149 #[] #[.pointer (some ⟨bl,0,none⟩)] [[(bl,.cells #[.pointer (some ⟨lb,0,none⟩)] 128)]] (T0::S0)
  (fun pre x=>pre++[x]<+:(A++B).map lU) (fun xs=>xs=(A++B).map lU):=by
 obtain⟨u,v,H,G,hA,hB,rfl⟩:=hT;intro l c J Jx hJ0 hround;have e0:(#[]++ #[.func (.yield l) #[] #[]]++ #[.pointer (some ⟨bl,0,none⟩)]:Array Value)= #[.func (.yield l) #[] #[],.pointer (some ⟨bl,0,none⟩)]:=rfl;rw[e0];refine Tri.forget (zm Tryz.FL (Nat.le_of_ble_eq_true rfl) ?_);unfold Tryz.Co;refine zn (zD.pm (S2:=[c]::[(bl,.cells #[.pointer (some ⟨lb,0,none⟩)] 128)]::XC lb most u v::H::G::S0) (by simp)) ?_;obtain⟨a0,c0,rfl⟩:=hA.isSlice;obtain⟨a1,c1,rfl⟩:=hB.isSlice;refine ze (ze (z8 ?_));refine zh (zx rfl rfl ?_);refine yp (ZW rfl rfl) (zf (za (zA rfl (zw (za (ze (zX (zV rfl rfl (zi (zK rfl) (zi (zo rfl) (zV rfl rfl (zV rfl rfl (zi (zK rfl) (zi (zo rfl) (zV rfl rfl (zi pC ?_))))))))))))))));refine zO (dx (l:=[.slice a0 A.length c0,.slice a1 B.length c1]) rfl (by decide) (by decide) (by decide) rfl fun p15=>?_) zN;refine zO (zk (gX (S:=[[(p15,.cells #[.slice a0 A.length c0,.slice a1 B.length c1] 66)],H,G]) (b:=p15) (hA.src (by simp)) (hB.src (by simp)) ha hb (by simp)) rfl rfl fun r S' h=>?_) zN;obtain⟨H1,hL1,rfl⟩:=h;obtain⟨a2,c2,rfl⟩:=hL1.isSlice;generalize hR:A++B=R at hL1 hround ⊢;have hRl:R.length<2 ^ 39:=by rw[←hR,List.length_append]; omega
 refine zi (ZB rfl) (zL (za (zq ?_)));refine Z6 (σ:=Nat) (fun i E S=>Has E [(0,.func (.yield l) #[] #[]),(16,.slice a2 R.length c2),(17,.int .i64 R.length),(18,.int .i64 i)]∧i≤R.length∧∃T,J ((R.take i).map lU) T∧zD S (H1::T)) (fun i=>R.length-i) 0 ⟨⟨rfl,rfl,rfl,rfl,trivial⟩,Nat.zero_le _,[c]::(XC lb most (.slice a0 A.length c0) (.slice a1 B.length c1)++H++G)::S0,hJ0,(zD.re (S1:=H1::[c]::XC lb most (.slice a0 A.length c0) (.slice a1 B.length c1)::H::G::S0) (by simp))⟩ fun i E S ⟨hE,hi,T,hJ,hK⟩=>?_
 obtain⟨E0,e0⟩:=zy hE; subst e0; clear hE;refine zn hK (ze (z8 (yp (ZO rfl rfl) (zf (za (ze ?_))))));refine zQ rfl (fun h=>?_) (fun h=>?_)
 ·have hlt:i<R.length:=by omega
  obtain⟨bb,sp,fz,hz,rfl,hm,hc,rfl⟩:=hL1.at' (by intro h; simp[h] at hlt);have htk:R.take (i+1)=R.take i++[R[i]]:=by rw[List.take_add_one,List.getElem?_eq_getElem hlt]; rfl
  refine zw (za (ze (zq (ze (z8 (yp (zT rfl rfl (by omega)) ?_))))));refine zh (wB (l:=enc R[i]) rfl (wU hlt rfl) rfl ?_);refine zh (Z9 fun p4=>?_);refine zh (vR rfl rfl rfl rfl rfl ?_);refine zf (za (ze (z8 (yp (pF rfl) ?_))));refine zh (Zx rfl rfl ?_);have hV:(R.take i).map lU++[lU R[i]]<+:R.map lU:=by
   have e1:(R.take i).map lU++[lU R[i]]=(R.take (i+1)).map lU:=by rw[htk,List.map_append]; rfl
   rw[e1];exact List.IsPrefix.map lU (List.take_prefix _ _)
  refine zh (UM (hround _ _ T hV hJ) rfl rfl fun b T' h=>?_);rcases h with⟨rfl,hJ'⟩ | ⟨rfl,hJx⟩
  ·refine yp (Zi rfl) (zf (za (zA rfl (zw (zS (za (z8 (yp (Zg rfl rfl (by omega)) (yp (pI rfl) (zf (za ?_)))))))))));refine⟨i+1,⟨⟨rfl,rfl,rfl,rfl,trivial⟩,by omega,T',?_,.of⟩,by omega⟩;rw[htk,List.map_append]; exact hJ'
  ·refine yp (Zi rfl) (zf (za (zH rfl (zJ (bret (zU (zU (bret ?_))))))));exact zI ZX ⟨T',.of,.inr ⟨_,hJx⟩⟩
 ·refine zW (zF (zF (zZ ?_)));refine ZQ ZX ⟨T,.of,.inl ⟨_,?_,hJ⟩⟩;rw[List.take_of_length_le (by omega)]
structure De where
 k:Ky
 at_:Int
abbrev ML(e:De):Array Value:= #[.string ⟨e.k.n.toArray⟩,.int .i64 e.k.t,.int .i64 e.at_]
instance:Enc De:=⟨fun e=>[.string ⟨e.k.n.toArray⟩,.int .i64 e.k.t,.int .i64 e.at_],3,fun _=>rfl,fun _=>rfl⟩
/-- by their times -/
theorem Eo(a b:De):Tri Tryz.prog 131 #[.agg (ML a),.agg (ML b)] [] (fun r S=>r= .int .i64 (Jh a.at_ b.at_)∧S=[]):=by
 refine Tri.forget (zm Tryz.G8 (Nat.le_of_ble_eq_true rfl) ?_);unfold Tryz.CJ;refine ze (z8 ?_);refine zh (Zt rfl fun p2=>?_);refine zh (Zt rfl fun p3=>?_);refine yp pC (zf (za (ze (z8 (yp (zo rfl) ?_)))));refine zh (zx rfl rfl ?_);refine yp (zo rfl) ?_;refine zh (zx rfl rfl ?_);refine zh (zk (qE a.at_ b.at_) rfl rfl fun v S' h=>?_);obtain⟨rfl,rfl⟩:=h;refine yp (pI rfl) (zf (za (zJ ?_)));exact zI (rI rfl) ⟨_,.of,rfl,rfl⟩
/-- is it this key? -/
theorem Lf(e:De)(b:Nat)(k:Ky)(t:TypeId)(fz:Nat × Nat):Tri Tryz.prog 170 #[.agg (ML e),.pointer (some ⟨b,0,none⟩)] [[(b,.cells (Wi k) t fz)]] (fun r S=>r= .bool (decide (e.k=k))∧S=[[(b,.cells (Wi k) t fz)]]):=by
 refine Tri.forget (zm Tryz.Fg (Nat.le_of_ble_eq_true rfl) ?_);unfold Tryz.Ch;refine ze (z8 ?_);refine zh (Zt rfl fun p2=>?_);refine yp pC (zf (za (ze (z8 (yp (zo rfl) ?_)))));refine zh (wB (l:=[.string ⟨e.k.n.toArray⟩,.int .i64 e.k.t]) rfl rfl rfl ?_);refine zh (Zx rfl rfl ?_);refine yp (nQ (a:=e.k) (b:=k) rfl rfl) (yp (pB rfl) (zf (za (zJ ?_))));exact zI (rB rfl) ⟨_,.of,rfl,rfl⟩
def idx(k:Ky):List De→Option Nat
 | []=>none
 | e::l=>if e.k=k then some 0 else(idx k l).map (· +1)
theorem iC{k:Ky}:∀{l:List De} {i:Nat},idx k l=some i→i<l.length
 | e::l,i,h=>by
  unfold idx at h;split at h
  ·simp at h; subst h; simp
  ·cases h':idx k l with
   | none=>simp[h'] at h
   | some j=>simp[h'] at h; have:=iC h'; subst h; simp; omega
/-- where a key stands -/
theorem El(v:Value)(L:List De)(H:List Chunk)(hL:Za 191 v L H)(hlen:L.length<2 ^ 40)(kb:Nat)(k:Ky)(t:TypeId)(fz:Nat × Nat):
 Tri Tryz.prog 169 #[v,.func (.func 170) #[] #[.pointer (some ⟨kb,0,none⟩)]] [H,[(kb,.cells (Wi k) t fz)]] (fun r S=>r=iy (idx k L)∧S=[H,[(kb,.cells (Wi k) t fz)]]):=by
 refine Tri.forget (zm Tryz.Fh (Nat.le_of_ble_eq_true rfl) ?_);unfold Tryz.Ci;obtain⟨a,c,rfl⟩:=hL.isSlice;refine ze (z8 (yp pC (zf (za (ze (ze (z8 (yp (pS rfl) (yp (ZB rfl) (yp pC (zf (za (zq ?_)))))))))))));refine Z6 (σ:=Nat) (fun i E S=>Has E [(0,.slice a L.length c),(1,.func (.func 170) #[] #[.pointer (some ⟨kb,0,none⟩)]),(7,.int .i64 L.length),(8,.int .i64 i)]∧i≤L.length∧(idx k L=(idx k (L.drop i)).map (· +i))∧zD S [H,[(kb,.cells (Wi k) t fz)]]) (fun i=>L.length-i) 0 ⟨⟨rfl,rfl,rfl,rfl,trivial⟩,Nat.zero_le _,by simp,.self⟩ fun i E S ⟨hE,hi,hx,hS⟩=>?_
 obtain⟨E0,e0⟩:=zy hE; subst e0; clear hE;refine zn hS (ze (z8 (yp (ZO rfl rfl) (zf (za (ze ?_))))));refine zQ rfl (fun h=>?_) (fun h=>?_)
 ·have hlt:i<L.length:=by omega
  have hd:L.drop i=L[i]::L.drop (i+1):=List.drop_eq_getElem_cons hlt;refine zw (za (ze (zq (ze (z8 (yp (pI rfl) (yp (pI rfl) (zf (za (ze (z8 (yp (pF rfl) (yp (pS rfl) (yp (pI rfl) ?_))))))))))))));obtain⟨b,sp,fz2,hz,rfl,_,rfl,rfl⟩:=hL.at' (by intro h; simp[h] at hlt);refine yp (zT rfl rfl (by omega)) ?_;refine zh (wB (l:=enc L[i]) rfl (wU hlt rfl) rfl ?_);refine zh (zk (Lf L[i] kb k t fz) rfl rfl fun v S' h=>?_);obtain⟨rfl,rfl⟩:=h;refine zf (za ?_);refine zQ rfl (fun h2=>?_) (fun h2=>?_)
  ·refine ze (z8 (yp (pI rfl) (yp (pI rfl) (zf (za (zJ (bret (zU (zU (bret (zU ?_)))))))))));exact zI (rI rfl) ⟨_,.of,by rw[hx,hd,idx,if_pos h2]; simp[iy],rfl⟩
  ·refine zw (zS (za (z8 (yp (Zg rfl rfl (by omega)) (yp (pI rfl) (zf (za ?_)))))));refine⟨i+1,⟨⟨rfl,rfl,rfl,rfl,trivial⟩,by omega,?_,.of⟩,by omega⟩;rw[hx,hd,idx,if_neg h2,Option.map_map];congr 1;funext x;simp; omega
 ·refine zW (zF (zF (zZ (za (ze (z8 (yp pC (zf (za (zJ ?_))))))))));have:L.drop i=[]:=List.drop_eq_nil_of_le (by omega);exact zI (rI rfl) ⟨_,.of,by rw[hx,this]; rfl,rfl⟩
theorem om(db:Nat)(dt:TypeId)(dfz:Nat × Nat)(v:Value)(L:List De)(H:List Chunk)(hL:Za 191 v L H)(hlen:L.length<2 ^ 40)(k:Ky):
 Tri Tryz.prog 147 #[.pointer (some ⟨db,0,none⟩),.agg (Wi k)] [[(db,.cells #[v] dt dfz)],H] (fun r S=>r=iy (idx k L)∧S=[[(db,.cells #[v] dt dfz)],H]):=by
 refine Tri.forget (zm Tryz.FN (Nat.le_of_ble_eq_true rfl) ?_);unfold Tryz.Cq;obtain⟨a,c,rfl⟩:=hL.isSlice;refine ze (z8 ?_);refine zh (Zt rfl fun p3=>?_);refine yp pC (zf (za (ze (ze (z8 (yp (pP rfl) (yp (ZW rfl rfl) (zf (za (zA rfl (zw (za (ze (z8 (yp (pP rfl) (yp (zK rfl) (yp (zo rfl) ?_)))))))))))))))));refine zh (zx rfl rfl ?_);refine yp (aP (jf rfl)) ?_;refine zh (zk (El _ L H hL hlen p3 k 43 (0,0)) rfl rfl fun v S' h=>?_);obtain⟨rfl,rfl⟩:=h;refine yp (pI rfl) (zf (za (zJ ?_)));exact zI (rI rfl) ⟨_,.of,rfl,rfl⟩
theorem Em{v:Value}{L:List De}{H:List Chunk}(hL:Za 191 v L H)(hlen:L.length<2 ^ 40){i j:Nat}(hi:i<L.length)(hj:j=i+1):
 Tri Tryz.prog 148 #[v,.int .i64 (i:Int),.int .i64 (j:Int)] [H] (fun r S=>∃H',Za 191 r (L.eraseIdx i) H'∧S=[H']):=
 Yb Tryz.FM rfl (⟨⟨[],0⟩,0⟩:De) rfl hL hlen hi hj
def Vx(k:Ky)(L:List De):List De:=match idx k L with | some i=>L.eraseIdx i | none=>L
def bq(k:Ky)(L:List De):Bool:=(idx k L).isSome
theorem KR(k:Ky)(L:List De):(Vx k L).length≤L.length:=by
 unfold Vx;split
 ·rw[List.length_eraseIdx]; split<;>omega
 ·exact Nat.le_refl _
theorem QF{db:Nat}{v:Value}{L:List De}{H:List Chunk}(hL:Za 191 v L H)(hlen:L.length<2 ^ 40)(k:Ky):
 Tri Tryz.prog 123 #[.pointer (some ⟨db,0,none⟩),.agg (Wi k)] [[(db,.cells #[v] 186)],H] (fun r S=>r= .bool (bq k L)∧∃v' H',Za 191 v' (Vx k L) H'∧S=[[(db,.cells #[v'] 186)],H']):=by
 refine Tri.forget (zm Tryz.Gh (Nat.le_of_ble_eq_true rfl) ?_);unfold Tryz.CV;refine ze (z8 ?_);refine zh (Zt rfl fun p3=>?_);refine yp pC (zf (za (ze (z8 (yp (pP rfl) ?_)))));refine zh (Zx rfl rfl ?_);refine zh (zk (om db 186 (0,0) v L H hL hlen k) rfl rfl fun r S' h=>?_);obtain⟨rfl,rfl⟩:=h;cases h:idx k L with
 | none=>
  have h1:bq k L=false:=by simp[bq,h]
  have h2:Vx k L=L:=by simp[Vx,h]
  rw[h1,h2];simp only[iy];refine yp (pI rfl) (zf (za (ze (ze (z8 (yp (pI rfl) (yp (ZO rfl rfl) (zf (za (zH rfl (ze (z8 (yp pC (zf (za (zJ (zU ?_)))))))))))))))));exact zI (rB rfl) ⟨_,.of,rfl,_,_,hL,rfl⟩
 | some i=>
  have h1:bq k L=true:=by simp[bq,h]
  have h2:Vx k L=L.eraseIdx i:=by simp[Vx,h]
  have hi:=iC h;rw[h1,h2];simp only[iy];refine yp (pI rfl) (zf (za (ze (ze (z8 (yp (pI rfl) (yp (ZO rfl rfl) (zf (za (zA rfl (zw (za (ze (z8 (yp (pP rfl) (yp (pP rfl) (yp (zK rfl) (yp (zo rfl) ?_))))))))))))))))));refine zh (zx rfl rfl ?_);refine yp (pI rfl) (yp (pI rfl) (yp (Zg rfl rfl (by omega)) ?_));obtain⟨a,c,rfl⟩:=hL.isSlice
  skip
  refine zh (zk (Em hL hlen hi rfl) rfl rfl fun r S' h=>?_);obtain⟨H',hL',rfl⟩:=h;obtain⟨a',c',rfl⟩:=hL'.isSlice;refine yp (zK rfl) (yp (zo rfl) ?_);refine zh (Zn rfl rfl (Yx rfl) ?_);refine zf (za (ze (z8 (yp pC (zf (za (zJ ?_)))))));exact zI (rB rfl) ⟨_,.of,rfl,_,_,hL',rfl⟩
theorem AX:Tri Tryz.prog 74 #[] [] (fun r S=>∃db,r= .pointer (some ⟨db,0,none⟩)∧S=[[(db,.cells #[.slice none 0 0] 186)]]):=by
 refine Tri.forget (zm Tryz.LW (Nat.le_of_ble_eq_true rfl) ?_);unfold Tryz.Nh;refine ze (z8 (yp pC (zf (za (ze (z8 (yp Uf ?_)))))));refine zh (Zt rfl fun p2=>?_);refine yp (pP rfl) (zf (za (zJ ?_)));exact zI (rP rfl) ⟨_,.of,_,rfl,rfl⟩
theorem AV{db:Nat}{v:Value}{L:List De}{H:List Chunk}(hL:Za 191 v L H)(hlen:L.length<2 ^ 40-1)(k:Ky)(t:Int):
 Tri Tryz.prog 81 #[.pointer (some ⟨db,0,none⟩),.agg (Wi k),.int .i64 t] [[(db,.cells #[v] 186)],H] (fun r S=>r= .tuple #[]∧∃v' H',Za 191 v' (Vx k L++[(⟨k,t⟩:De)]) H'∧S=[[(db,.cells #[v'] 186)],H']):=by
 refine Tri.forget (zm Tryz.LJ (Nat.le_of_ble_eq_true rfl) ?_);unfold Tryz.N9;refine ze (z8 ?_);refine zh (Zt rfl fun p4=>?_);refine zf (za (ze (ze (z8 (yp (pP rfl) (yp (ZW rfl rfl) (zf (za (zA rfl (zw (za (ze (z8 (yp (pP rfl) ?_))))))))))))));refine zh (Zx rfl rfl ?_);refine zh (zk (QF hL (by omega) k) rfl rfl fun r S' h=>?_);obtain⟨rfl,v1,H1,hL1,rfl⟩:=h;refine zf (za (zX (zi (pP rfl) (zi (pP rfl) (zi (zK rfl) (zi (zo rfl) (zV rfl rfl (WA rfl rfl (zi (pI rfl) ?_)))))))));obtain⟨a,c,rfl⟩:=hL1.isSlice
 skip
 refine zi (v:= .agg #[.string ⟨k.n.toArray⟩,.int .i64 k.t,.int .i64 t]) rfl ?_;refine Zb (wL (⟨k,t⟩:De) rfl rfl (by decide) (by decide) rfl fun p19=>⟨by simp,?_⟩) zN;have hdl:=KR k L;refine zO (Vr (Y:=[(⟨k,t⟩:De)]) rfl rfl hL1 (.lit (by repeat (first | exact List.mem_cons_self | apply List.mem_cons_of_mem)) rfl) rfl (⟨⟨[],0⟩,0⟩:De) rfl (by simp; omega) (by simp; omega) fun v2 H2 hL2=>?_) zN;obtain⟨a2,c2,rfl⟩:=hL2.isSlice;refine zi (zK rfl) (zi (zo rfl) ?_);refine zO (Zn rfl rfl (Yx rfl) ?_) zN;refine zL ?_;exact ZQ ZX ⟨_,.of,rfl,_,_,hL2,rfl⟩
theorem oq{v:Value}{L:List De}{H:List Chunk}(hL:Za 191 v L H)(hlen:L.length<2 ^ 40):
 Tri Tryz.prog 129 #[v] [H] (fun r S=>∃H',Za 191 r L H'∧S=[H',H]):=by
 refine Tri.forget (zm Tryz.Ga (Nat.le_of_ble_eq_true rfl) ?_);unfold Tryz.CO;rcases hL.inv with⟨rfl,rfl,rfl⟩ | ⟨b,sp,fz,hz,rfl,rfl⟩
 ·refine ze (z8 (yp pC (zf (za (ze (ze (z8 (yp (pS rfl) (yp (Qx rfl rfl) (zf (za (zH rfl (ze (z8 (yp pC (zf (za (zJ (zU ?_)))))))))))))))))));exact zI (rS rfl) ⟨_,.of,_,.nil,rfl⟩
 ·refine ze (z8 (yp pC (zf (za (ze (ze (z8 (yp (pS rfl) (yp (Qx rfl rfl) (zf (za (zA rfl (zw (za (ze (z8 ?_))))))))))))))));refine zh (rz fun p5=>?_);refine yp (pS rfl) ?_;refine zh (Vr rfl rfl Za.empty (hL.src (by repeat (first | exact List.mem_cons_self | apply List.mem_cons_of_mem))) rfl (⟨⟨[],0⟩,0⟩:De) rfl (by simp; omega) (by simp; omega) fun v2 H2 hL2=>?_);obtain⟨a2,c2,rfl⟩:=hL2.isSlice;refine yp (pS rfl) (zf (za (zJ ?_)));exact zI (rS rfl) ⟨_,.of,_,hL2,rfl⟩
def Ur(e:De):Int:=e.at_
theorem AQ{v:Value}{L:List De}{H:List Chunk}(hL:Za 191 v L H)(hlen:L.length<2 ^ 38){n:Nat}(hn:n=L.length):
 Tri Tryz.prog 152 #[v,.int .i64 (n:Int),.func (.func 131) #[] #[]] [H] (fun r S=>r= .tuple #[]∧∃L' H',SS Ur L L'∧L'.length=L.length∧Za 191 v L' H'∧S=[H']):=
 jE Tryz.FI Tryz.Fb Tryz.Fa Tryz.EJ Tryz.EC rfl Ur (fun a b=>(Eo a b).mono fun _ _ ⟨h1,h2⟩=>⟨⟨_,h1,QZ _ _⟩,h2⟩) hL hlen hn
theorem AU{v:Value}{L:List De}{H:List Chunk}(hL:Za 191 v L H)(hlen:L.length<2 ^ 38):
 Tri Tryz.prog 130 #[v,.func (.func 131) #[] #[]] [H] (fun r S=>r= .tuple #[]∧∃L' H',SS Ur L L'∧L'.length=L.length∧Za 191 v L' H'∧S=[H']):=by
 refine Tri.forget (zm Tryz.G9 (Nat.le_of_ble_eq_true rfl) ?_);unfold Tryz.CK;obtain⟨a0,c0,rfl⟩:=hL.isSlice;refine z8 (yp (pS rfl) (yp (pS rfl) (yp (ZB rfl) (yp (pF rfl) ?_))));refine zh (zk (AQ hL hlen rfl) rfl rfl fun v S' h=>?_);obtain⟨rfl,L2,H2,hS2,hl2,hL2,rfl⟩:=h;refine zf ?_;exact ZQ ZX ⟨_,.of,rfl,_,_,hS2,hl2,hL2,rfl⟩
/-- those whose time has come, in their order -/
def upto(at_:Int)(L:List De):List De:=(QJ Ur L).filter fun e=>decide (Ur e≤at_)
def bU(e:De):Array Value:= #[.agg (Wi e.k),.int .i64 e.at_]
theorem ig{p:Option Addr}{at_:Int}:Tri Tryz.prog 87 #[.pointer p,.int .i64 at_] [] (fun r S=>∃bd ba,r= .func (.func 128) #[] #[.pointer (some ⟨bd,0,none⟩),.pointer (some ⟨ba,0,none⟩)]∧S=[[(bd,.cells #[.pointer p] 130)],[(ba,.cells #[.int .i64 at_] 3)]]):=by
 refine Tri.forget (zm Tryz.LC (Nat.le_of_ble_eq_true rfl) ?_);unfold Tryz.MX;refine ze (z8 ?_);refine zh (bS (jf rfl) fun p2=>?_);refine zh (bS (um rfl) fun p3=>?_);refine yp pC (zf (za (ze (z8 (yp (DU (jf rfl) (jf rfl)) (yp (pF rfl) (zf (za (zJ ?_)))))))));exact zI (rF rfl) ⟨_,.of,_,_,rfl,rfl⟩
/-- all of it as one piece of memory -/
abbrev qz(db:Nat)(v:Value):List Chunk:=[(db,.cells #[v] 186)]
def Du(db:Nat)(L:List De)(T:List Chunk):Prop:=∃v H,Za 191 v L H∧T=qz db v++H
theorem Du.mk{db:Nat}{v:Value}{L:List De}{H:List Chunk}(h:Za 191 v L H):Du db L (qz db v++H):=⟨v,H,h,rfl⟩
theorem zD.j2{S:zu}{a b:List Chunk}{G:zu}[h:Sub S [a,b] G]:zD S [a++b]:=zD.trans (zD.of (h:=h)) ⟨[],by simp⟩
theorem Tri.s2{P:Program}{f:FuncId}{args:Array Value}{a b:List Chunk}{S0:zu}{R:Value→zu→Prop}(h:Tri P f args (a::b::S0) R):Tri P f args ((a++b)::S0) R:=h.perm (by simp)
theorem Ei:Tri Tryz.prog 74 #[] [] (fun r S=>∃db T,r= .pointer (some ⟨db,0,none⟩)∧Du db [] T∧S=[T]):=
 AX.mono fun r S ⟨db,h1,h2⟩=>⟨db,_,h1,Du.mk .nil,by rw[h2]; rfl⟩
theorem AY{db:Nat}{L:List De}{T:List Chunk}(hT:Du db L T)(hlen:L.length<2 ^ 40)(k:Ky):
 Tri Tryz.prog 123 #[.pointer (some ⟨db,0,none⟩),.agg (Wi k)] [T] (fun r S=>r= .bool (bq k L)∧∃T',Du db (Vx k L) T'∧S=[T']):=by
 obtain⟨v,H,hL,rfl⟩:=hT;refine Tri.forget (Tri.s2 ((QF hL hlen k).mono fun r S ⟨h1,v',H',h2,h3⟩=>⟨[qz db v'++H'],?_,h1,_,Du.mk h2,rfl⟩));subst h3;exact zD.j2
theorem Eh{db:Nat}{L:List De}{T:List Chunk}(hT:Du db L T)(hlen:L.length<2 ^ 40-1)(k:Ky)(t:Int):
 Tri Tryz.prog 81 #[.pointer (some ⟨db,0,none⟩),.agg (Wi k),.int .i64 t] [T] (fun r S=>r= .tuple #[]∧∃T',Du db (Vx k L++[(⟨k,t⟩:De)]) T'∧S=[T']):=by
 obtain⟨v,H,hL,rfl⟩:=hT;refine Tri.forget (Tri.s2 ((AV hL hlen k t).mono fun r S ⟨h1,v',H',h2,h3⟩=>⟨[qz db v'++H'],?_,h1,_,Du.mk h2,rfl⟩));subst h3;exact zD.j2
theorem jZ{db bd ba:Nat}{L:List De}{T0:List Chunk}{S0:zu}(hT:Du db L T0)(hlen:L.length<2 ^ 38)(at_:Int):
 Yt Tryz.prog 128 #[] #[.pointer (some ⟨bd,0,none⟩),.pointer (some ⟨ba,0,none⟩)] [[(bd,.cells #[.pointer (some ⟨db,0,none⟩)] 130)],[(ba,.cells #[.int .i64 at_] 3)]] (T0::S0)
  (fun pre x=>pre++[x]<+:(upto at_ L).map bU) (fun xs=>xs=(upto at_ L).map bU):=by
 obtain⟨v,H,hL,rfl⟩:=hT;intro l c J Jx hJ0 hround;have e0:(#[]++ #[.func (.yield l) #[] #[]]++ #[.pointer (some ⟨bd,0,none⟩),.pointer (some ⟨ba,0,none⟩)]:Array Value)= #[.func (.yield l) #[] #[],.pointer (some ⟨bd,0,none⟩),.pointer (some ⟨ba,0,none⟩)]:=rfl;rw[e0];refine Tri.forget (zm Tryz.Gb (Nat.le_of_ble_eq_true rfl) ?_);unfold Tryz.CP;refine zn (zD.pm (S2:=[c]::[(bd,.cells #[.pointer (some ⟨db,0,none⟩)] 130)]::[(ba,.cells #[.int .i64 at_] 3)]::qz db v::H::S0) (by simp)) ?_;obtain⟨a0,c0,rfl⟩:=hL.isSlice;refine ze (ze (z8 ?_));refine zh (zx rfl rfl ?_);refine yp (ZW rfl rfl) (zf (za (zA rfl (zw (za (ze (z8 ?_)))))));refine zh (zx rfl rfl ?_);refine yp (zK rfl) (yp (zo rfl) ?_);refine zh (zx rfl rfl ?_);refine zh (zk (oq hL (by omega)) rfl rfl fun v S' h=>?_);obtain⟨H1,hL1,rfl⟩:=h;obtain⟨a1,c1,rfl⟩:=hL1.isSlice;refine yp (pS rfl) (zf (za (ze (z8 (yp (pS rfl) ?_)))));refine zh (zk (AU hL1 hlen) rfl rfl fun v S' h=>?_);obtain⟨rfl,R,H2,hS,hl,hL2,rfl⟩:=h;have hR:=hS.eq;have hU:upto at_ L=R.filter fun e=>decide (Ur e≤at_):=by rw[upto, ←hR]
 rw[hU];rw[hU] at hround;clear hU hR;have hso:=hS.1;refine zf (za (ze (z8 (yp (pS rfl) (yp (ZB rfl) (yp pC (zf (za (zq ?_)))))))));refine Z6 (σ:=Nat) (fun i E S=>Has E [(0,.func (.yield l) #[] #[]),(2,.pointer (some ⟨ba,0,none⟩)),(16,.slice a1 L.length c1),(17,.int .i64 L.length),(18,.int .i64 i)]∧i≤R.length∧(∀e∈R.take i,Ur e≤at_)∧∃T,J ((R.take i).map bU) T∧zD S ([(ba,.cells #[.int .i64 at_] 3)]::H2::T)) (fun i=>L.length-i) 0 ⟨⟨rfl,rfl,rfl,rfl,rfl,trivial⟩,Nat.zero_le _,by simp,[c]::(qz db (.slice a0 L.length c0)++H)::S0,hJ0,(zD.re (S1:=[(ba,.cells #[.int .i64 at_] 3)]::H2::[c]::qz db (.slice a0 L.length c0)::H::S0) (by simp))⟩ fun i E S ⟨hE,hi,hle,T,hJ,hK⟩=>?_
 obtain⟨E0,e0⟩:=zy hE; subst e0; clear hE;refine zn hK (ze (z8 (yp (ZO rfl rfl) (zf (za (ze ?_))))));refine zQ rfl (fun h=>?_) (fun h=>?_)
 ·have hlt:i<R.length:=by omega
  obtain⟨bb,sp,fz,hz,rfl,hm,hc,rfl⟩:=hL2.at' (by intro h; simp[h] at hlt);have htk:R.take (i+1)=R.take i++[R[i]]:=by rw[List.take_add_one,List.getElem?_eq_getElem hlt]; rfl
  have hdr:R.drop i=R[i]::R.drop (i+1):=List.drop_eq_getElem_cons hlt;refine zw (za (ze (zq (ze (z8 (yp (zT rfl rfl (by omega)) ?_))))));refine zh (wB (l:=enc R[i]) rfl (wU hlt rfl) rfl ?_);refine zh (Z9 fun p6=>?_);refine zh (vR rfl rfl rfl rfl rfl ?_);refine zf (za (ze (z8 (yp (zo rfl) ?_))));refine zh (zx rfl rfl ?_);refine zh (zx rfl rfl ?_);refine yp (uq rfl rfl) (yp (pB rfl) ?_);by_cases hat:at_<R[i].at_
  ·rw[decide_eq_true hat];refine Z4 rfl (Z4 rfl (Z4 rfl (Z4 rfl (Z4 rfl (Z4 rfl (Z4 rfl (yp (zP rfl rfl) (zf (za (zH rfl (zJ (bret (zU (zU (bret ?_)))))))))))))));refine zI ZX ⟨T,.of,.inl ⟨_,?_,hJ⟩⟩;have h1:R.filter (fun e=>decide (Ur e≤at_))=R.take i:=by
    conv=>lhs; rw[←List.take_append_drop i R]
    rw[List.filter_append,List.filter_eq_self.2 (by intro e he; simpa using hle e he)];have:(R.drop i).filter (fun e=>decide (Ur e≤at_))=[]:=by
     rw[List.filter_eq_nil_iff];intro e he;have hp:=(List.pairwise_append.1 (by rw[List.take_append_drop]; exact hso:(R.take i++R.drop i).Pairwise _)).2.1;rw[hdr] at hp he;rcases List.mem_cons.1 he with rfl | he
     ·have h9:Ur R[i]=R[i].at_:=rfl;simp; omega
     ·have:=(List.pairwise_cons.1 hp).1 e he;have h9:Ur R[i]=R[i].at_:=rfl;simp; omega
    rw[this,List.append_nil]
   rw[h1]
  ·rw[decide_eq_false hat];refine Z5 rfl (Zd (pF rfl) (Z5 rfl (Zd (zo rfl) (Z5 rfl ?_))));have hle':∀e∈R.take (i+1),Ur e≤at_:=by
    intro e he;rw[htk] at he;rcases List.mem_append.1 he with he | he
    ·exact hle e he
    ·rw[List.mem_singleton.1 he]; show R[i].at_≤at_; omega
   have hV:(R.take i).map bU++[bU R[i]]<+:(R.filter fun e=>decide (Ur e≤at_)).map bU:=by
    have e1:(R.take i).map bU++[bU R[i]]=(R.take (i+1)).map bU:=by rw[htk,List.map_append]; rfl
    rw[e1];refine List.IsPrefix.map bU ?_
    conv=>rhs; rw[←List.take_append_drop (i+1) R]
    rw[List.filter_append,List.filter_eq_self.2 (by intro e he; simpa using hle' e he)];exact List.prefix_append _ _
   refine wB (l:=[.string ⟨R[i].k.n.toArray⟩,.int .i64 R[i].k.t]) rfl rfl rfl (Z5 rfl (Zd (zo rfl) (Z5 rfl ?_)));refine(zx rfl rfl ?_);refine Z5 rfl ?_;refine UM (hround _ _ T hV hJ) rfl rfl fun b T' h=>?_
   rcases h with⟨rfl,hJ'⟩ | ⟨rfl,hJx⟩
   ·refine Z5 rfl (Zd (Zi rfl) (yp (zR rfl rfl) (zf (za (zA rfl (zw (zS (za (z8 (yp (Zg rfl rfl (by omega)) (yp (pI rfl) (zf (za ?_)))))))))))));refine⟨i+1,⟨⟨rfl,rfl,rfl,rfl,rfl,trivial⟩,by omega,hle',T',?_,.of⟩,by omega⟩;rw[htk,List.map_append]; exact hJ'
   ·refine Z5 rfl (Zd (Zi rfl) (yp (zR rfl rfl) (zf (za (zH rfl (zJ (bret (zU (zU (bret ?_))))))))));exact zI ZX ⟨T',.of,.inr ⟨_,hJx⟩⟩
 ·refine zW (zF (zF (zZ ?_)));refine ZQ ZX ⟨T,.of,.inl ⟨_,?_,hJ⟩⟩;rw[List.take_of_length_le (by omega)] at hle ⊢;rw[List.filter_eq_self.2 (by intro e he; simpa using hle e he)]
end Go.Proofs.YtejmbmenbailmaaGreat
