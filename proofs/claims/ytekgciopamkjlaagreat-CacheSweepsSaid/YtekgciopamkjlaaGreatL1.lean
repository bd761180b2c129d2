/- Keys by their use (lists.LRU, for a store): contracts. Keys by their use: Order. Keys by their times (lists.Due, for a store): contracts. -/
import Derived.Test.YtekgciopamkjlaaGreatY1
import Derived.Test.YtekgciopamkjlaaGreatL0
import Derived.Test.YtekgciopamkjlaaGreatN1
import Derived.Test.YtekgciopamkjlaaGreatA1
import Derived.Test.YtekgciopamkjlaaGreatFLists
namespace Go.Proofs.YtekgciopamkjlaaGreat
open Go.Xs
open Enc (enc)
def rX(o:Option Nat):Value:= .int .i64 (match o with | some i=>(i:Int) | none=> -1)
def kpos(k:Ky):List Ky→Option Nat
 | []=>none
 | e::l=>if k=e then some 0 else(kpos k l).map (· +1)
theorem fU{k:Ky}:∀{l:List Ky} {i:Nat},kpos k l=some i→i<l.length
 | e::l,i,h=>by
  unfold kpos at h;split at h
  ·simp at h; subst h; simp
  ·cases h':kpos k l with
   | none=>simp[h'] at h
   | some j=>simp[h'] at h; have:=fU h'; subst h; simp; omega
theorem yC{k:Ky}:∀{l:List Ky},kpos k l=none→k ∉ l
 | [],_=>by simp
 | e::l,h=>by
  unfold kpos at h;split at h
  ·simp at h
  ·next hk=>
   rw[Option.map_eq_none_iff] at h;have:=yC h;simp[hk,this]
theorem xJ{k:Ky}:∀{l:List Ky} {i:Nat},kpos k l=some i→k∈l∧l.eraseIdx i=l.erase k
 | e::l,i,h=>by
  unfold kpos at h;split at h
  ·next hk=>simp at h; subst h; subst hk; simp
  ·next hk=>
   cases h':kpos k l with
   | none=>simp[h'] at h
   | some j=>
    simp[h'] at h; subst h;obtain⟨h1,h2⟩:=xJ h';refine⟨List.mem_cons_of_mem _ h1,?_⟩;rw[List.eraseIdx_cons_succ,h2,List.erase_cons_tail (by simpa using fun h=>hk h.symm)]
/-- where a key stands -/
theorem DF{v:Value}{L:List Ky}{H:List Chunk}(hL:Zg 43 v L H)(hlen:L.length<2 ^ 40)(k:Ky):
 Tri Tryz.prog 172 #[v,.agg (vC k)] [H] (fun r S=>r=rX (kpos k L)∧S=[H]):=by
 refine Tri.forget (zq Tryz.Nq (Nat.le_of_ble_eq_true rfl) ?_);unfold Tryz.I7;obtain⟨a,c,rfl⟩:=hL.isSlice;refine ze (z8 ?_);refine zh (ZC rfl fun p3=>?_);refine yp pC (zf (za (ze (ze (z8 (yp (pS rfl) (yp (Zp rfl) (yp pC (zf (za (zu ?_)))))))))));refine Z7 (σ:=Nat) (fun i E S=>Has E [(0,.slice a L.length c),(3,.pointer (some ⟨p3,0,none⟩)),(7,.int .i64 L.length),(8,.int .i64 i)]∧i≤L.length∧(kpos k L=(kpos k (L.drop i)).map (· +i))∧zG S [[(p3,.cells (vC k) 43)],H]) (fun i=>L.length-i) 0 ⟨⟨rfl,rfl,rfl,rfl,trivial⟩,Nat.zero_le _,by simp,.of⟩ fun i E S ⟨hE,hi,hx,hS⟩=>?_
 obtain⟨E0,e0⟩:=zm hE; subst e0; clear hE;refine zn hS (ze (z8 (yp (ZE rfl rfl) (zf (za (ze ?_))))));refine zR rfl (fun h=>?_) (fun h=>?_)
 ·have hlt:i<L.length:=by omega
  have hd:L.drop i=L[i]::L.drop (i+1):=List.drop_eq_getElem_cons hlt;obtain⟨b,sp,fz2,hz,rfl,_,rfl,rfl⟩:=hL.at' (by intro h; simp[h] at hlt);refine zl (za (ze (zu (ze (z8 (yp (pI rfl) (yp (pI rfl) (zf (za (ze (Z6 (vO rfl rfl (zi (pS rfl) (zi (pI rfl) (zi (zT rfl rfl (by omega)) (Vm (l:=enc L[i]) rfl (wY hlt rfl) rfl ?_))))))))))))))));by_cases h2:k=L[i]
  ·refine zi (FZ (a:=k) (b:=L[i]) rfl rfl) ?_;rw[decide_eq_true h2];refine zH (za (zC rfl (ze (z8 (yp (pI rfl) (yp (pI rfl) (zf (za (zJ (bret (zV (zV (bret (zV ?_))))))))))))));exact zI (rI rfl) ⟨_,.of,by rw[hx,hd,kpos,if_pos h2]; simp[rX],rfl⟩
  ·refine zi (FZ (a:=k) (b:=L[i]) rfl rfl) ?_;rw[decide_eq_false h2];refine zH (za (zo rfl (zl (zW (za (z8 (yp (Z8 rfl rfl (by omega)) (yp (pI rfl) (zf (za ?_))))))))));refine⟨i+1,⟨⟨rfl,rfl,rfl,rfl,trivial⟩,by omega,?_,.of⟩,by omega⟩;rw[hx,hd,kpos,if_neg h2,Option.map_map];congr 1;funext x;simp; omega
 ·refine zZ (zA (zA (Z0 (za (ze (z8 (yp pC (zf (za (zJ ?_))))))))));have:L.drop i=[]:=List.drop_eq_nil_of_le (by omega);exact zI (rI rfl) ⟨_,.of,by rw[hx,this]; rfl,rfl⟩
theorem DI{v:Value}{L:List Ky}{H:List Chunk}(hL:Zg 43 v L H)(hlen:L.length<2 ^ 40)(k:Ky):
 Tri Tryz.prog 154 #[v,.agg (vC k)] [H] (fun r S=>r= .bool (decide (k∈L))∧S=[H]):=by
 refine Tri.forget (zq Tryz.NJ (Nat.le_of_ble_eq_true rfl) ?_);unfold Tryz.Ig;obtain⟨a,c,rfl⟩:=hL.isSlice;refine ze (z8 ?_);refine zh (ZC rfl fun p3=>?_);refine yp pC (zf (za (ze (z8 (yp (pS rfl) ?_)))));refine zh (ZP rfl rfl ?_);refine zh (zk (DF hL hlen k) rfl rfl fun r S' h=>?_);obtain⟨rfl,rfl⟩:=h;cases h:kpos k L with
 | none=>
  rw[decide_eq_false (yC h)];simp only[rX];refine yp (Ux rfl rfl) (yp (pB rfl) (zf (za (zJ ?_))));exact zI (rB rfl) ⟨_,.of,rfl,rfl⟩
 | some i=>
  rw[decide_eq_true (xJ h).1];simp only[rX];refine yp (Ux rfl rfl) (yp (pB rfl) (zf (za (zJ ?_))));exact zI (rB rfl) ⟨_,.of,by simp,rfl⟩
theorem DJ{v:Value}{L:List Ky}{H:List Chunk}(hL:Zg 43 v L H)(hlen:L.length<2 ^ 40){i j:Nat}(hi:i<L.length)(hj:j=i+1):
 Tri Tryz.prog 162 #[v,.int .i64 (i:Int),.int .i64 (j:Int)] [H] (fun r S=>∃H',Zg 43 r (L.eraseIdx i) H'∧S=[H']):=
 K6 Tryz.NA rfl (⟨[],0⟩:Ky) rfl hL hlen hi hj
theorem DK{v:Value}{L:List Ky}{H:List Chunk}(hL:Zg 43 v L H)(hlen:L.length<2 ^ 40)(k:Ky):
 Tri Tryz.prog 167 #[v,.agg (vC k)] [H] (fun r S=>∃v' H',r= .tuple #[v',.bool (decide (k∈L))]∧Zg 43 v' (L.erase k) H'∧S=[H']):=by
 refine Tri.forget (zq Tryz.Nv (Nat.le_of_ble_eq_true rfl) ?_);unfold Tryz.x167;obtain⟨a,c,rfl⟩:=hL.isSlice;refine ze (z8 ?_);refine zh (ZC rfl fun p3=>?_);refine yp pC (yp pC (zf (za (ze (z8 (yp (pS rfl) ?_))))));refine zh (ZP rfl rfl ?_);refine zh (zk (DF hL hlen k) rfl rfl fun r S' h=>?_);obtain⟨rfl,rfl⟩:=h;cases h:kpos k L with
 | none=>
  have h1:=yC h;rw[decide_eq_false h1,List.erase_of_not_mem h1];simp only[rX];refine yp (pI rfl) (zf (za (ze (ze (z8 (yp (pI rfl) (yp (ZE rfl rfl) (zf (za (zC rfl (ze (z8 (yp (pS rfl) (yp (pS rfl) (yp pC (zf (za (zJ (zV ?_)))))))))))))))))));exact zI (KG rfl rfl) ⟨_,.of,_,_,rfl,hL,rfl⟩
 | some i=>
  have hi:=fU h;rw[decide_eq_true (xJ h).1, ←(xJ h).2];simp only[rX];refine yp (pI rfl) (zf (za (ze (ze (z8 (yp (pI rfl) (yp (ZE rfl rfl) (zf (za (zo rfl (zl (za (ze (z8 (yp (pS rfl) (yp (pI rfl) (yp (pI rfl) (yp (Z8 rfl rfl (by omega)) ?_))))))))))))))))));refine zh (zk (DJ hL hlen hi rfl) rfl rfl fun r S' h=>?_);obtain⟨H',hL',rfl⟩:=h;obtain⟨a',c',rfl⟩:=hL'.isSlice;refine yp (pS rfl) (yp pC (zf (za (zJ ?_))));exact zI (KG rfl rfl) ⟨_,.of,_,_,rfl,hL',rfl⟩
/-- its room, and its two lists -/
abbrev Y9(lb:Nat)(most:Int)(u v:Value):List Chunk:=[(lb,.cells #[.int .i64 most,u,v] 208)]
def Lr(lb:Nat)(most:Int)(A B:List Ky)(T:List Chunk):Prop:=∃u v H G,Zg 43 u A H∧Zg 43 v B G∧T=Y9 lb most u v++H++G
theorem Lr.mk{lb:Nat}{most:Int}{u v:Value}{A B:List Ky}{H G:List Chunk}(hA:Zg 43 u A H)(hB:Zg 43 v B G):Lr lb most A B (Y9 lb most u v++H++G):=⟨u,v,H,G,hA,hB,rfl⟩
theorem Ma(most:Int):Tri Tryz.prog 122 #[.int .i64 most] [] (fun r S=>∃lb T,r= .pointer (some ⟨lb,0,none⟩)∧Lr lb (max most 0) [] [] T∧S=[T]):=by
 refine Tri.forget (zq Tryz.Ol (Nat.le_of_ble_eq_true rfl) ?_);unfold Tryz.IQ;refine ze (z8 (yp pC (zf (za (ze (z8 (yp (pI rfl) (yp (eZ rfl rfl) (yp (v:= .agg #[.int .i64 (max most 0),.slice none 0 0,.slice none 0 0]) rfl ?_)))))))));refine zh (ZC rfl fun p6=>?_);refine yp (pP rfl) (zf (za (zJ ?_)));exact zI (rP rfl) ⟨_,zG.re (S1:=[Y9 p6 (max most 0) (.slice none 0 0) (.slice none 0 0)]) (by simp),_,_,rfl,Lr.mk .nil .nil,rfl⟩
theorem fJ{lb:Nat}{most:Int}{u v:Value}{A B:List Ky}{H G:List Chunk}(hA:Zg 43 u A H)(hB:Zg 43 v B G)(ha:A.length<2 ^ 40)(hb:B.length<2 ^ 40)(k:Ky):
 Tri Tryz.prog 151 #[.pointer (some ⟨lb,0,none⟩),.agg (vC k)] [Y9 lb most u v,H,G] (fun r S=>r= .bool (decide (k∈A) || decide (k∈B))∧∃u' H' v' G',Zg 43 u' (A.erase k) H'∧Zg 43 v' (B.erase k) G'∧S=[Y9 lb most u' v',H',G']):=by
 refine Tri.forget (zq Tryz.NP (Nat.le_of_ble_eq_true rfl) ?_);unfold Tryz.x151;obtain⟨a,c,rfl⟩:=hA.isSlice;obtain⟨a',c',rfl⟩:=hB.isSlice;refine ze (z8 ?_);refine zh (ZC rfl fun p3=>?_);refine yp pC (zf (za (ze (ze (z8 (yp (pP rfl) (yp (wh rfl rfl) (zf (za (zo rfl (zl (za (ze (z8 (yp pC (yp pC (zf (za (ze (Z6 (zi (pP rfl) (zi (pP rfl) (zi (zX rfl) (zi (zx rfl) (Zb rfl rfl (vO rfl rfl ?_))))))))))))))))))))))))));refine zO (zk (DK hA ha k) rfl rfl fun r S' h=>?_) zN;obtain⟨u1,H1,rfl,hA1,rfl⟩:=h;obtain⟨a1,c1,rfl⟩:=hA1.isSlice;refine zi (pU rfl) (zi (pExt rfl rfl) (zi (pExt rfl rfl) (zi (zX rfl) (zi (zx rfl) ?_))));refine zO (aH rfl rfl (YZ rfl) ?_) zN;refine zi (pB rfl) (zH (za (ze (Z6 (zi (pP rfl) (zi (pP rfl) (zi (zX rfl) (zi (zx rfl) (Zb rfl rfl (vO rfl rfl ?_))))))))));refine zO (zk (DK hB hb k) rfl rfl fun r S' h=>?_) zN;obtain⟨v1,G1,rfl,hB1,rfl⟩:=h;obtain⟨a2,c2,rfl⟩:=hB1.isSlice;refine zi (pU rfl) (zi (pExt rfl rfl) (zi (pExt rfl rfl) (zi (zX rfl) (zi (zx rfl) ?_))));refine zO (aG rfl rfl (YZ rfl) ?_) zN;refine zi (pB rfl) (zH (za (ze (z8 (yp (pB rfl) (yp (pB rfl) ?_))))));by_cases h1:k∈A
 ·rw[decide_eq_true h1];refine zP rfl (yp (zw rfl rfl) (yp (pB rfl) (zf (za (zJ ?_)))));exact zI (rB rfl) ⟨_,.of,by simp,_,_,_,_,hA1,hB1,rfl⟩
 ·rw[decide_eq_false h1];refine zK rfl (zQ (pB rfl) (yp (zD rfl rfl) (yp (pB rfl) (zf (za (zJ ?_))))));exact zI (rB rfl) ⟨_,.of,by simp,_,_,_,_,hA1,hB1,rfl⟩
theorem Gf{lb:Nat}{most:Int}{A B:List Ky}{T:List Chunk}(hT:Lr lb most A B T)(ha:A.length<2 ^ 40)(hb:B.length<2 ^ 40)(k:Ky):
 Tri Tryz.prog 151 #[.pointer (some ⟨lb,0,none⟩),.agg (vC k)] [T] (fun r S=>r= .bool (decide (k∈A) || decide (k∈B))∧∃T',Lr lb most (A.erase k) (B.erase k) T'∧S=[T']):=by
 obtain⟨u,v,H,G,hA,hB,rfl⟩:=hT;refine Tri.forget (Tri.Vy ((fJ hA hB ha hb k).mono fun r S ⟨h1,u',H',v',G',h2,h3,h4⟩=>⟨[Y9 lb most u' v'++H'++G'],?_,h1,_,Lr.mk h2 h3,rfl⟩));subst h4;exact zG.Vq
/-- what Add makes of the probation -/
def AA(k:Ky)(A B:List Ky):List Ky:=if k∈A∨k∈B then A else A++[k]
theorem Mc{lb:Nat}{most:Int}{A B:List Ky}{T:List Chunk}(hT:Lr lb most A B T)(ha:A.length<2 ^ 40-1)(hb:B.length<2 ^ 40)(k:Ky):
 Tri Tryz.prog 130 #[.pointer (some ⟨lb,0,none⟩),.agg (vC k)] [T] (fun r S=>r= .tuple #[]∧∃T',Lr lb most (AA k A B) B T'∧S=[T']):=by
 obtain⟨u,v,H,G,hA,hB,rfl⟩:=hT;refine Tri.Vy (Tri.forget (zq Tryz.Ob (Nat.le_of_ble_eq_true rfl) ?_));unfold Tryz.IB;obtain⟨a,c,rfl⟩:=hA.isSlice;obtain⟨a',c',rfl⟩:=hB.isSlice;refine ze (z8 ?_);refine zh (ZC rfl fun p3=>?_);refine zf (za (ze (Z6 (zi (pP rfl) (zi (kD rfl rfl) (zi (pB rfl) (zU rfl (zi (pP rfl) (zU rfl (zi (zX rfl) (zU rfl (zi (zx rfl) (zU rfl (Zb rfl rfl (zU rfl (vO rfl rfl ?_))))))))))))))));refine Zw rfl ?_ zN;refine Zd (zk (DI hA (by omega) k) rfl rfl fun r S' h=>?_) zN;obtain⟨rfl,rfl⟩:=h;refine⟨by simp,?_⟩;refine zU rfl (zi (Za rfl) (zi (zw rfl rfl) (zi (pB rfl) ?_)));by_cases h1:k∈A
 ·rw[decide_eq_true h1];refine zY rfl (zY rfl (zY rfl (zY rfl (zY rfl ?_))));refine wQ rfl ?_ zN;refine zY rfl (zi (zD rfl rfl) (zH (za (zo rfl (zl ?_)))));exact ZO ZQ ⟨_,zG.Vq,rfl,_,by rw[AA,if_pos (.inl h1)]; exact Lr.mk hA hB,rfl⟩
 rw[decide_eq_false h1];refine zU rfl (zi (pP rfl) (zU rfl (zi (zX rfl) (zU rfl (zi (zx rfl) (zU rfl (Zb rfl rfl (zU rfl (vO rfl rfl ?_)))))))));refine Zw rfl ?_ zN;refine zO (zk (DI hB (by omega) k) rfl rfl fun r S' h=>?_) zN;obtain⟨rfl,rfl⟩:=h;refine zU rfl (zi (Za rfl) (zi (zw rfl rfl) (zH (za ?_))));by_cases h2:k∈B
 ·rw[decide_eq_true h2];refine zo rfl (zl ?_);exact ZO ZQ ⟨_,zG.Vq,rfl,_,by rw[AA,if_pos (.inr h2)]; exact Lr.mk hA hB,rfl⟩
 rw[decide_eq_false h2];refine zC rfl (Z6 (zi (pP rfl) (zi (pP rfl) (zi (zX rfl) (zi (zx rfl) (Zb rfl rfl (vO rfl rfl ?_)))))));refine Zd (wJ k rfl rfl (by decide) (by decide) rfl fun p30=>⟨by simp,?_⟩) zN;refine zO (V6 (Y:=[k]) rfl rfl hA (.lit (by repeat (first | exact List.mem_cons_self | apply List.mem_cons_of_mem)) rfl) rfl (⟨[],0⟩:Ky) rfl (by simp; omega) (by simp; omega) fun v2 H2 hL2=>?_) zN;obtain⟨a2,c2,rfl⟩:=hL2.isSlice;refine zi (zX rfl) (zi (zx rfl) ?_);refine zO (aH rfl rfl (YZ rfl) ?_) zN;refine zH ?_;exact ZO ZQ ⟨_,zG.Vq,rfl,_,by rw[AA,if_neg (by simp[h1,h2])]; exact Lr.mk hL2 hB,rfl⟩
/-- what Touch makes of both -/
def Xr(most:Int)(k:Ky)(A B:List Ky):List Ky:=if k∈A∨k∈B then(if most<((B.erase k++[k]).length:Int) then A.erase k++(B.erase k++[k]).take 1 else A.erase k) else A
def Xq(most:Int)(k:Ky)(A B:List Ky):List Ky:=if k∈A∨k∈B then(if most<((B.erase k++[k]).length:Int) then(B.erase k++[k]).eraseIdx 0 else B.erase k++[k]) else B
theorem rO{lb:Nat}{most:Int}{u v:Value}{A B:List Ky}{H G:List Chunk}(hA:Zg 43 u A H)(hB:Zg 43 v B G)(ha:A.length<2 ^ 40-1)(hb:B.length<2 ^ 40-1)(k:Ky):
 Tri Tryz.prog 140 #[.pointer (some ⟨lb,0,none⟩),.agg (vC k)] [Y9 lb most u v,H,G] (fun r S=>r= .bool (decide (k∈A∨k∈B))∧∃u' H' v' G',Zg 43 u' (Xr most k A B) H'∧Zg 43 v' (Xq most k A B) G'∧S=[Y9 lb most u' v',H',G']):=by
 refine Tri.forget (zq Tryz.O4 (Nat.le_of_ble_eq_true rfl) ?_);unfold Tryz.Ip;refine ze (z8 ?_);refine zh (ZC rfl fun p3=>?_);refine yp pC (zf (za (ze (ze (z8 (yp (pP rfl) ?_))))));refine zh (ZP rfl rfl ?_);refine zh (zk (fJ (lb:=lb) (most:=most) hA hB (by omega) (by omega) k) rfl rfl fun r S' h=>?_);obtain⟨rfl,u1,H1,v1,G1,hA1,hB1,rfl⟩:=h;unfold Xr Xq;by_cases hk:k∈A∨k∈B
 ·rw[show(decide (k∈A) || decide (k∈B))=true from by rw[←Bool.decide_or]; exact decide_eq_true hk,decide_eq_true hk];rw[if_pos hk,if_pos hk];have hle:(B.erase k).length≤B.length:=List.length_erase_le;have hla:(A.erase k).length≤A.length:=List.length_erase_le;obtain⟨a,c,rfl⟩:=hB1.isSlice;refine yp (Za rfl) (zf (za (zo rfl (zl (za (ze (Z6 (zi (pP rfl) (zi (pP rfl) (zi (zX rfl) (zi (zx rfl) (Zb rfl rfl (vO rfl rfl ?_)))))))))))));refine Zd (wJ k rfl rfl (by decide) (by decide) rfl fun p15=>⟨by simp,?_⟩) zN;refine zO (V6 (Y:=[k]) rfl rfl hB1 (.lit (by repeat (first | exact List.mem_cons_self | apply List.mem_cons_of_mem)) rfl) rfl (⟨[],0⟩:Ky) rfl (by simp; omega) (by simp; omega) fun v2 G2 hB2=>?_) zN;generalize hBB:B.erase k++[k]=BB at hB2;have hlen:BB.length=(B.erase k).length+1:=by rw[←hBB]; simp
  obtain⟨a2,c2,rfl⟩:=hB2.isSlice;obtain⟨a1,c1,rfl⟩:=hA1.isSlice;refine zi (zX rfl) (zi (zx rfl) ?_);refine zO (aG rfl rfl (YZ rfl) ?_) zN;refine zH (za (ze (ze (Z6 (zi (pP rfl) (zi (zX rfl) (zi (zx rfl) (Zb rfl rfl (zi (Zp rfl) (zi (pP rfl) (zi (zX rfl) (zi (zx rfl) (Zb rfl rfl (zi (WS rfl rfl) (zH (za ?_))))))))))))))));by_cases hm:most<(BB.length:Int)
  ·rw[decide_eq_true hm,if_pos hm,if_pos hm];have h0:0<BB.length:=by omega
   obtain⟨b2,sp2,fz2,hz2,rfl,_,rfl,rfl⟩:=hB2.at' (by intro h; simp[h] at h0);refine zC rfl (ze (Z6 (zi (pP rfl) (zi (pP rfl) (zi (zX rfl) (zi (zx rfl) (Zb rfl rfl (zi (pP rfl) (zi (zX rfl) (zi (zx rfl) (Zb rfl rfl (zi (zT rfl rfl (by omega)) (Vm (l:=enc BB[0]) rfl (wY (i:=0) h0 rfl) rfl ?_)))))))))))));refine Zd (wJ BB[0] rfl rfl (by decide) (by decide) rfl fun p40=>⟨by simp,?_⟩) zN;refine zO (V6 (Y:=[BB[0]]) rfl rfl hA1 (.lit (by repeat (first | exact List.mem_cons_self | apply List.mem_cons_of_mem)) rfl) rfl (⟨[],0⟩:Ky) rfl (by simp; omega) (by simp; omega) fun v3 H3 hA3=>?_) zN;obtain⟨a3,c3,rfl⟩:=hA3.isSlice;refine zi (zX rfl) (zi (zx rfl) ?_);refine zO (aH rfl rfl (YZ rfl) ?_) zN;refine zH (za (z8 (yp (pP rfl) (yp (pP rfl) (yp (zX rfl) (yp (zx rfl) ?_))))));refine zh (zy rfl rfl ?_);have hc:Tri Tryz.prog 162 #[.slice (some ⟨b2,0,none⟩) BB.length (BB.length+sp2.length),.int .i64 0,.int .i64 1] _ _:=DJ hB2 (by omega) (i:=0) (j:=1) h0 rfl;refine zh (zk hc rfl rfl fun r S' h=>?_);obtain⟨G4,hB4,rfl⟩:=h;obtain⟨a4,c4,rfl⟩:=hB4.isSlice;refine yp (zX rfl) (yp (zx rfl) ?_);refine zh (aG rfl rfl (YZ rfl) ?_);refine zf (za (ze (z8 (yp pC (zf (za (zJ ?_)))))));have e1:BB.take 1=[BB[0]]:=by
    cases BB with
    | nil=>simp at h0
    | cons x l=>rfl
   rw[e1];exact zI (rB rfl) ⟨_,.of,rfl,_,_,_,_,hA3,hB4,rfl⟩
  ·rw[decide_eq_false hm,if_neg hm,if_neg hm];refine zo rfl (zl (za (ze (z8 (yp pC (zf (za (zJ ?_))))))));exact zI (rB rfl) ⟨_,.of,rfl,_,_,_,_,hA1,hB2,rfl⟩
 ·rw[show(decide (k∈A) || decide (k∈B))=false from by rw[←Bool.decide_or]; exact decide_eq_false hk,decide_eq_false hk];rw[if_neg hk,if_neg hk];rw[List.erase_of_not_mem (fun h=>hk (.inl h))] at hA1;rw[List.erase_of_not_mem (fun h=>hk (.inr h))] at hB1;refine yp (Za rfl) (zf (za (zC rfl (ze (z8 (yp pC (zf (za (zJ (zV ?_))))))))));exact zI (rB rfl) ⟨_,.of,rfl,_,_,_,_,hA1,hB1,rfl⟩
theorem Ce{lb:Nat}{most:Int}{A B:List Ky}{T:List Chunk}(hT:Lr lb most A B T)(ha:A.length<2 ^ 40-1)(hb:B.length<2 ^ 40-1)(k:Ky):
 Tri Tryz.prog 140 #[.pointer (some ⟨lb,0,none⟩),.agg (vC k)] [T] (fun r S=>r= .bool (decide (k∈A∨k∈B))∧∃T',Lr lb most (Xr most k A B) (Xq most k A B) T'∧S=[T']):=by
 obtain⟨u,v,H,G,hA,hB,rfl⟩:=hT;refine Tri.forget (Tri.Vy ((rO hA hB ha hb k).mono fun r S ⟨h1,u',H',v',G',h2,h3,h4⟩=>⟨[Y9 lb most u' v'++H'++G'],?_,h1,_,Lr.mk h2 h3,rfl⟩));subst h4;exact zG.Vq
theorem Lh:Tryz.prog.underlying 92=some (.slice 43):=by kernel_rfl
theorem Rq:Tryz.prog.underlying 3=some (.int .i64):=by kernel_rfl
theorem Ls:sizeOf? Tryz.prog 43=some 2:=by kernel_rfl
theorem H9:zero? Tryz.prog 43=some [.string ⟨#[]⟩,.int .i64 0]:=by kernel_rfl
theorem OW:bytes? Tryz.prog 43=some 24:=by kernel_rfl
theorem Gd{n:Nat}(hn:n≤1099511627776):Tri Tryz.prog 195 #[.slice none 0 0,.int .i64 (n:Int)] [] (fun r S=>∃H,Zg 43 r ([]:List Ky) H∧S=[H]):=by
 refine Tri.forget (zq Tryz.MU (Nat.le_of_ble_eq_true rfl) ?_);unfold Tryz.HY;refine ze (z8 (yp pC (zf (za (ze (ze (z8 (yp (pI rfl) (yp (ZE rfl rfl) (zf (za (zo rfl (zl (za (ze (ze (z8 (yp (pI rfl) (yp (pS rfl) (yp (M0 rfl) (yp (pS rfl) (yp (Zp rfl) (yp (Zy rfl rfl (by omega)) (yp (Zy rfl rfl (by omega)) (yp (pI rfl) (zf (za (ze (z8 (yp (pI rfl) (yp (WS rfl rfl) (zf (za ?_)))))))))))))))))))))))))))))))));rcases Nat.eq_zero_or_pos n with rfl | hp
 ·refine zo rfl (zl (za (ze (z8 (yp (pS rfl) (yp (pS rfl) (zf (za (zJ ?_)))))))));exact zI (rS rfl) ⟨_,.of,_,.nil,rfl⟩
 rw[show((n:Int)-(((0:Nat):Int)-((0:Nat):Int)))=(n:Int) from by omega];rw[decide_eq_true (show(0:Int)<n from by omega)];refine zC rfl (z8 (yp (pS rfl) (yp (pS rfl) (yp (M0 rfl) (yp (v:= .slice none 0 0) rfl (yp (pI rfl) ?_))))));refine zh (Hf Lh Rq Ls H9 OW rfl rfl hp (by decide) (by omega) hn fun b M hM=>?_);refine yp (pS rfl) (yp (Zp rfl) (yp (eT (j:=0) rfl rfl (Nat.zero_le _)) (yp (pS rfl) (zf (za (ze (z8 (yp (pS rfl) (yp (pS rfl) (zf (za (zJ ?_))))))))))));refine zI (rS rfl) ⟨_,.of,[(b,.cells ((List.replicate M [.string ⟨#[]⟩,.int .i64 0]).flatten).toArray 43)],?_,rfl⟩;have h:=Zg.of (ty:=43) (b:=b) (L:=([]:List Ky)) (sp:=List.replicate M (⟨[],0⟩:Ky));rw[VA (z:=[.string ⟨#[]⟩,.int .i64 0]) M (⟨[],0⟩:Ky) rfl];simpa using h
def Bd(A B:List Ky):Nat→Int
 | 0=>0
 | 1=>A.length
 | _=>A.length+B.length
theorem rQ{u v:Value}{A B:List Ky}{S:zL}{b:Nat}(hA:Src S u A)(hB:Src S v B)(ha:A.length<2 ^ 36)(hb:B.length<2 ^ 36)(hm:[(b,.cells #[u,v] 92)]∈S):
 Tri Tryz.prog 171 #[.slice (some ⟨b,0,none⟩) 2 2] S (fun r S'=>∃H,Zg 43 r (A++B) H∧S'=H::S):=by
 refine Tri.forget (zq Tryz.Nr (Nat.le_of_ble_eq_true rfl) ?_);unfold Tryz.I8;obtain⟨a1,c1,rfl⟩:=hA.isSlice;obtain⟨a2,c2,rfl⟩:=hB.isSlice;obtain⟨f,hAt⟩:=At.Jy hm;refine ze (z8 (yp pC (zf (za (ze (z8 (yp pC (zf (za (ze (ze (z8 (yp (pS rfl) (yp (Zp rfl) (yp pC (zf (za (zu ?_))))))))))))))))));refine Z7 (σ:=Nat) (fun i E S'=>Has E [(0,.slice (some ⟨b,0,none⟩) 2 2),(3,.int .i64 (Bd A B i)),(9,.slice (some ⟨b,0,none⟩) 2 2),(10,.int .i64 2),(11,.int .i64 i)]∧i≤2∧S'=S) (fun i=>2-i) 0 ⟨⟨rfl,rfl,rfl,rfl,rfl,trivial⟩,Nat.zero_le _,rfl⟩ fun i E S' ⟨hE,hi,hS⟩=>?_
 subst hS;obtain⟨E0,e0⟩:=zm hE; subst e0; clear hE;refine ze (z8 (yp (ZE rfl rfl) (zf (za (ze ?_)))));refine zR rfl (fun h=>?_) (fun h=>?_)
 ·have h01:i=0∨i=1:=by omega
  rcases h01 with rfl | rfl
  ·rw[show Bd A B 0=0 from rfl];refine zl (za (ze (zu (ze (z8 (yp (zT rfl rfl (by omega)) ?_))))));refine zh (zy rfl rfl ?_);refine yp (pS rfl) (zf (za (ze (z8 (yp (pI rfl) (yp (pS rfl) (yp (Zp rfl) (yp (vJ rfl rfl (by omega)) (yp (pI rfl) (zf (za (ze (z8 (yp (pI rfl) (yp (ZE rfl rfl) (zf (za (zo rfl (zl (zW (za (z8 (yp (Z8 rfl rfl (by omega)) (yp (pI rfl) (zf (za ?_))))))))))))))))))))))))));refine⟨1,⟨⟨rfl,?_,rfl,rfl,rfl,trivial⟩,by omega,rfl⟩,by omega⟩;show Value.int .i64 (0+(A.length:Int))= .int .i64 (A.length:Int);rw[Int.zero_add]
  ·rw[show Bd A B 1=A.length from rfl];refine zl (za (ze (zu (ze (z8 (yp (zT rfl rfl (by omega)) ?_))))));refine zh (zy rfl rfl ?_);refine yp (pS rfl) (zf (za (ze (z8 (yp (pI rfl) (yp (pS rfl) (yp (Zp rfl) (yp (Zj rfl rfl (by omega)) (yp (pI rfl) (zf (za (ze (z8 (yp (pI rfl) (yp (ZE rfl rfl) (zf (za (zo rfl (zl (zW (za (z8 (yp (Z8 rfl rfl (by omega)) (yp (pI rfl) (zf (za ?_))))))))))))))))))))))))));exact⟨2,⟨⟨rfl,rfl,rfl,rfl,rfl,trivial⟩,by omega,rfl⟩,by omega⟩
 obtain rfl:i=2:=by omega
 rw[show Bd A B 2=((A.length+B.length:Nat):Int) from by show(A.length:Int)+B.length=_; omega];refine zZ (zA (zA (Z0 (za (ze (z8 (yp (pI rfl) ?_)))))));refine zh (zk (Gd (n:=A.length+B.length) (by omega)) rfl rfl fun r S' h=>?_);obtain⟨H,hL,rfl⟩:=h;obtain⟨a3,c3,rfl⟩:=hL.isSlice;refine yp (pS rfl) (zf (za (ze (ze (z8 (yp (pS rfl) (yp (Zp rfl) (yp pC (zf (za (zu ?_)))))))))));refine Z7 (σ:=Nat) (fun i E S''=>Has E [(25,.slice (some ⟨b,0,none⟩) 2 2),(26,.int .i64 2),(27,.int .i64 i)]∧i≤2∧∃v H,Zg 43 v (([A,B].take i).flatten) H∧E 6=v∧S''=H::S') (fun i=>2-i) 0 ⟨⟨rfl,rfl,rfl,trivial⟩,Nat.zero_le _,_,_,hL,rfl,rfl⟩ fun i E S'' ⟨hE,hi,v1,H1,hL1,hE6,hS⟩=>?_
 subst hS;obtain⟨a4,c4,rfl⟩:=hL1.isSlice;have hE2:Has E [(6,.slice a4 ([A,B].take i).flatten.length c4),(25,.slice (some ⟨b,0,none⟩) 2 2),(26,.int .i64 2),(27,.int .i64 i)]:=⟨hE6,hE⟩
 obtain⟨E0,e0⟩:=zm hE2; subst e0; clear hE2;refine ze (z8 (yp (ZE rfl rfl) (zf (za (ze ?_)))));refine zR rfl (fun h=>?_) (fun h=>?_)
 ·have h01:i=0∨i=1:=by omega
  rcases h01 with rfl | rfl
  ·refine zl (za (ze (zu (ze (z8 (yp (zT rfl rfl (by omega)) ?_))))));refine zh (zy rfl rfl ?_);refine yp (pS rfl) (zf (za (z8 (yp (pS rfl) (yp (pS rfl) ?_)))));refine zh (V6 (Y:=A) rfl rfl hL1 (Src.mono hA fun s hs=>?_) rfl (⟨[],0⟩:Ky) rfl (by simp; omega) (by simp; omega) fun v2 H2 hL2=>?_)
   ·exact List.mem_cons_of_mem _ hs
   obtain⟨a2,c2,rfl⟩:=hL2.isSlice;refine yp (pS rfl) (zf (zW (za (z8 (yp (Z8 rfl rfl (by omega)) (yp (pI rfl) (zf (za ?_))))))));exact⟨1,⟨⟨rfl,rfl,rfl,trivial⟩,by omega,.slice a2 (([A,B].take 0).flatten++A).length c2,H2,by simpa using hL2,rfl,rfl⟩,by omega⟩
  ·refine zl (za (ze (zu (ze (z8 (yp (zT rfl rfl (by omega)) ?_))))));refine zh (zy rfl rfl ?_);refine yp (pS rfl) (zf (za (z8 (yp (pS rfl) (yp (pS rfl) ?_)))));refine zh (V6 (Y:=B) rfl rfl hL1 (Src.mono hB fun s hs=>?_) rfl (⟨[],0⟩:Ky) rfl (by simp; omega) (by simp; omega) fun v2 H2 hL2=>?_)
   ·exact List.mem_cons_of_mem _ hs
   obtain⟨a2,c2,rfl⟩:=hL2.isSlice;refine yp (pS rfl) (zf (zW (za (z8 (yp (Z8 rfl rfl (by omega)) (yp (pI rfl) (zf (za ?_))))))));exact⟨2,⟨⟨rfl,rfl,rfl,trivial⟩,by omega,.slice a2 (([A,B].take 1).flatten++B).length c2,H2,by simpa using hL2,rfl,rfl⟩,by omega⟩
 obtain rfl:i=2:=by omega
 refine zZ (zA (zA (Z0 (za (ze (z8 (yp (pS rfl) (yp (pS rfl) (zf (za (zJ ?_)))))))))));exact zI (rS rfl) ⟨_,.self,_,by simpa using hL1,rfl⟩
theorem Cg{p:Option Addr}:Tri Tryz.prog 153 #[.pointer p] [] (fun r S=>∃bl,r= .func (.func 170) #[] #[.pointer (some ⟨bl,0,none⟩)]∧S=[[(bl,.cells #[.pointer p] 145)]]):=by
 refine Tri.forget (zq Tryz.NK (Nat.le_of_ble_eq_true rfl) ?_);unfold Tryz.x153;refine ze (z8 ?_);refine zh (mI (qE rfl) fun p1=>?_);refine yp pC (zf (za (ze (z8 (yp (pV (qE rfl)) (yp (pF rfl) (zf (za (zJ ?_)))))))));exact zI (rF rfl) ⟨_,.of,_,rfl,rfl⟩
def AL(k:Ky):Array Value:= #[.agg (vC k)]
theorem iU{bl lb:Nat}{most:Int}{A B:List Ky}{T0:List Chunk}{S0:zL}(hT:Lr lb most A B T0)(ha:A.length<2 ^ 36)(hb:B.length<2 ^ 36):
 Ku Tryz.prog 170 #[] #[.pointer (some ⟨bl,0,none⟩)] [[(bl,.cells #[.pointer (some ⟨lb,0,none⟩)] 145)]] (T0::S0)
  (fun pre x=>pre++[x]<+:(A++B).map AL) (fun xs=>xs=(A++B).map AL):=by
 obtain⟨u,v,H,G,hA,hB,rfl⟩:=hT;intro l c J Jx hJ0 hround;have e0:(#[]++ #[.func (.yield l) #[] #[]]++ #[.pointer (some ⟨bl,0,none⟩)]:Array Value)= #[.func (.yield l) #[] #[],.pointer (some ⟨bl,0,none⟩)]:=rfl;rw[e0];refine Tri.forget (zq Tryz.Ns (Nat.le_of_ble_eq_true rfl) ?_);unfold Tryz.I9;refine zn (zG.pm (S2:=[c]::[(bl,.cells #[.pointer (some ⟨lb,0,none⟩)] 145)]::Y9 lb most u v::H::G::S0) (by simp)) ?_;obtain⟨a0,c0,rfl⟩:=hA.isSlice;obtain⟨a1,c1,rfl⟩:=hB.isSlice;refine ze (ze (z8 ?_));refine zh (zy rfl rfl ?_);refine yp (wh rfl rfl) (zf (za (zo rfl (zl (za (ze (Z6 (Zb rfl rfl (zi (zX rfl) (zi (zx rfl) (Zb rfl rfl (Zb rfl rfl (zi (zX rfl) (zi (zx rfl) (Zb rfl rfl (zi pC ?_))))))))))))))));refine zO (mJ (l:=[.slice a0 A.length c0,.slice a1 B.length c1]) rfl (by decide) (by decide) (by decide) rfl fun p15=>?_) zN;refine zO (zk (rQ (S:=[[(p15,.cells #[.slice a0 A.length c0,.slice a1 B.length c1] 92)],H,G]) (b:=p15) (hA.src (by simp)) (hB.src (by simp)) ha hb (by simp)) rfl rfl fun r S' h=>?_) zN;obtain⟨H1,hL1,rfl⟩:=h;obtain⟨a2,c2,rfl⟩:=hL1.isSlice;generalize hR:A++B=R at hL1 hround ⊢;have hRl:R.length<2 ^ 39:=by rw[←hR,List.length_append]; omega
 refine zi (Zp rfl) (zH (za (zu ?_)));refine Z7 (σ:=Nat) (fun i E S=>Has E [(0,.func (.yield l) #[] #[]),(16,.slice a2 R.length c2),(17,.int .i64 R.length),(18,.int .i64 i)]∧i≤R.length∧∃T,J ((R.take i).map AL) T∧zG S (H1::T)) (fun i=>R.length-i) 0 ⟨⟨rfl,rfl,rfl,rfl,trivial⟩,Nat.zero_le _,[c]::(Y9 lb most (.slice a0 A.length c0) (.slice a1 B.length c1)++H++G)::S0,hJ0,(zG.re (S1:=H1::[c]::Y9 lb most (.slice a0 A.length c0) (.slice a1 B.length c1)::H::G::S0) (by simp))⟩ fun i E S ⟨hE,hi,T,hJ,hK⟩=>?_
 obtain⟨E0,e0⟩:=zm hE; subst e0; clear hE;refine zn hK (ze (z8 (yp (ZE rfl rfl) (zf (za (ze ?_))))));refine zR rfl (fun h=>?_) (fun h=>?_)
 ·have hlt:i<R.length:=by omega
  obtain⟨bb,sp,fz,hz,rfl,hm,hc,rfl⟩:=hL1.at' (by intro h; simp[h] at hlt);have htk:R.take (i+1)=R.take i++[R[i]]:=by rw[List.take_add_one,List.getElem?_eq_getElem hlt]; rfl
  refine zl (za (ze (zu (ze (z8 (yp (zT rfl rfl (by omega)) ?_))))));refine zh (wH (l:=enc R[i]) rfl (wY hlt rfl) rfl ?_);refine zh (Z5 fun p4=>?_);refine zh (Zv rfl rfl rfl rfl rfl ?_);refine zf (za (ze (z8 (yp (pF rfl) ?_))));refine zh (ZP rfl rfl ?_);have hV:(R.take i).map AL++[AL R[i]]<+:R.map AL:=by
   have e1:(R.take i).map AL++[AL R[i]]=(R.take (i+1)).map AL:=by rw[htk,List.map_append]; rfl
   rw[e1];exact List.IsPrefix.map AL (List.take_prefix _ _)
  refine zh (Ye (hround _ _ T hV hJ) rfl rfl fun b T' h=>?_);rcases h with⟨rfl,hJ'⟩ | ⟨rfl,hJx⟩
  ·refine yp (Za rfl) (zf (za (zo rfl (zl (zW (za (z8 (yp (Z8 rfl rfl (by omega)) (yp (pI rfl) (zf (za ?_)))))))))));refine⟨i+1,⟨⟨rfl,rfl,rfl,rfl,trivial⟩,by omega,T',?_,.of⟩,by omega⟩;rw[htk,List.map_append]; exact hJ'
  ·refine yp (Za rfl) (zf (za (zC rfl (zJ (bret (zV (zV (bret ?_))))))));exact zI ZQ ⟨T',.of,.inr ⟨_,hJx⟩⟩
 ·refine zZ (zA (zA (Z0 ?_)));refine ZO ZQ ⟨T,.of,.inl ⟨_,?_,hJ⟩⟩;rw[List.take_of_length_le (by omega)]
structure De where
 k:Ky
 at_:Int
abbrev Tt(e:De):Array Value:= #[.string ⟨e.k.n.toArray⟩,.int .i64 e.k.t,.int .i64 e.at_]
instance:Enc De:=⟨fun e=>[.string ⟨e.k.n.toArray⟩,.int .i64 e.k.t,.int .i64 e.at_],3,fun _=>rfl,fun _=>rfl⟩
/-- by their times -/
theorem Mi(a b:De):Tri Tryz.prog 161 #[.agg (Tt a),.agg (Tt b)] [] (fun r S=>r= .int .i64 (bZ a.at_ b.at_)∧S=[]):=by
 refine Tri.forget (zq Tryz.NC (Nat.le_of_ble_eq_true rfl) ?_);unfold Tryz.Ib;refine ze (z8 ?_);refine zh (ZC rfl fun p2=>?_);refine zh (ZC rfl fun p3=>?_);refine yp pC (zf (za (ze (z8 (yp (zx rfl) ?_)))));refine zh (zy rfl rfl ?_);refine yp (zx rfl) ?_;refine zh (zy rfl rfl ?_);refine zh (zk (tJ a.at_ b.at_) rfl rfl fun v S' h=>?_);obtain⟨rfl,rfl⟩:=h;refine yp (pI rfl) (zf (za (zJ ?_)));exact zI (rI rfl) ⟨_,.of,rfl,rfl⟩
/-- is it this key? -/
theorem Ry(e:De)(b:Nat)(k:Ky)(t:TypeId)(fz:Nat × Nat):Tri Tryz.prog 194 #[.agg (Tt e),.pointer (some ⟨b,0,none⟩)] [[(b,.cells (vC k) t fz)]] (fun r S=>r= .bool (decide (e.k=k))∧S=[[(b,.cells (vC k) t fz)]]):=by
 refine Tri.forget (zq Tryz.MV (Nat.le_of_ble_eq_true rfl) ?_);unfold Tryz.HZ;refine ze (z8 ?_);refine zh (ZC rfl fun p2=>?_);refine yp pC (zf (za (ze (z8 (yp (zx rfl) ?_)))));refine zh (wH (l:=[.string ⟨e.k.n.toArray⟩,.int .i64 e.k.t]) rfl rfl rfl ?_);refine zh (ZP rfl rfl ?_);refine yp (FZ (a:=e.k) (b:=k) rfl rfl) (yp (pB rfl) (zf (za (zJ ?_))));exact zI (rB rfl) ⟨_,.of,rfl,rfl⟩
def idx(k:Ky):List De→Option Nat
 | []=>none
 | e::l=>if e.k=k then some 0 else(idx k l).map (· +1)
theorem rY{k:Ky}:∀{l:List De} {i:Nat},idx k l=some i→i<l.length
 | e::l,i,h=>by
  unfold idx at h;split at h
  ·simp at h; subst h; simp
  ·cases h':idx k l with
   | none=>simp[h'] at h
   | some j=>simp[h'] at h; have:=rY h'; subst h; simp; omega
/-- where a key stands -/
theorem Mg(v:Value)(L:List De)(H:List Chunk)(hL:Zg 216 v L H)(hlen:L.length<2 ^ 40)(kb:Nat)(k:Ky)(t:TypeId)(fz:Nat × Nat):
 Tri Tryz.prog 193 #[v,.func (.func 194) #[] #[.pointer (some ⟨kb,0,none⟩)]] [H,[(kb,.cells (vC k) t fz)]] (fun r S=>r=rX (idx k L)∧S=[H,[(kb,.cells (vC k) t fz)]]):=by
 refine Tri.forget (zq Tryz.MW (Nat.le_of_ble_eq_true rfl) ?_);unfold Tryz.I4;obtain⟨a,c,rfl⟩:=hL.isSlice;refine ze (z8 (yp pC (zf (za (ze (ze (z8 (yp (pS rfl) (yp (Zp rfl) (yp pC (zf (za (zu ?_)))))))))))));refine Z7 (σ:=Nat) (fun i E S=>Has E [(0,.slice a L.length c),(1,.func (.func 194) #[] #[.pointer (some ⟨kb,0,none⟩)]),(7,.int .i64 L.length),(8,.int .i64 i)]∧i≤L.length∧(idx k L=(idx k (L.drop i)).map (· +i))∧zG S [H,[(kb,.cells (vC k) t fz)]]) (fun i=>L.length-i) 0 ⟨⟨rfl,rfl,rfl,rfl,trivial⟩,Nat.zero_le _,by simp,.self⟩ fun i E S ⟨hE,hi,hx,hS⟩=>?_
 obtain⟨E0,e0⟩:=zm hE; subst e0; clear hE;refine zn hS (ze (z8 (yp (ZE rfl rfl) (zf (za (ze ?_))))));refine zR rfl (fun h=>?_) (fun h=>?_)
 ·have hlt:i<L.length:=by omega
  have hd:L.drop i=L[i]::L.drop (i+1):=List.drop_eq_getElem_cons hlt;refine zl (za (ze (zu (ze (z8 (yp (pI rfl) (yp (pI rfl) (zf (za (ze (z8 (yp (pF rfl) (yp (pS rfl) (yp (pI rfl) ?_))))))))))))));obtain⟨b,sp,fz2,hz,rfl,_,rfl,rfl⟩:=hL.at' (by intro h; simp[h] at hlt);refine yp (zT rfl rfl (by omega)) ?_;refine zh (wH (l:=enc L[i]) rfl (wY hlt rfl) rfl ?_);refine zh (zk (Ry L[i] kb k t fz) rfl rfl fun v S' h=>?_);obtain⟨rfl,rfl⟩:=h;refine zf (za ?_);refine zR rfl (fun h2=>?_) (fun h2=>?_)
  ·refine ze (z8 (yp (pI rfl) (yp (pI rfl) (zf (za (zJ (bret (zV (zV (bret (zV ?_)))))))))));exact zI (rI rfl) ⟨_,.of,by rw[hx,hd,idx,if_pos h2]; simp[rX],rfl⟩
  ·refine zl (zW (za (z8 (yp (Z8 rfl rfl (by omega)) (yp (pI rfl) (zf (za ?_)))))));refine⟨i+1,⟨⟨rfl,rfl,rfl,rfl,trivial⟩,by omega,?_,.of⟩,by omega⟩;rw[hx,hd,idx,if_neg h2,Option.map_map];congr 1;funext x;simp; omega
 ·refine zZ (zA (zA (Z0 (za (ze (z8 (yp pC (zf (za (zJ ?_))))))))));have:L.drop i=[]:=List.drop_eq_nil_of_le (by omega);exact zI (rI rfl) ⟨_,.of,by rw[hx,this]; rfl,rfl⟩
theorem Ch(db:Nat)(dt:TypeId)(dfz:Nat × Nat)(v:Value)(L:List De)(H:List Chunk)(hL:Zg 216 v L H)(hlen:L.length<2 ^ 40)(k:Ky):
 Tri Tryz.prog 168 #[.pointer (some ⟨db,0,none⟩),.agg (vC k)] [[(db,.cells #[v] dt dfz)],H] (fun r S=>r=rX (idx k L)∧S=[[(db,.cells #[v] dt dfz)],H]):=by
 refine Tri.forget (zq Tryz.Nu (Nat.le_of_ble_eq_true rfl) ?_);unfold Tryz.x168;obtain⟨a,c,rfl⟩:=hL.isSlice;refine ze (z8 ?_);refine zh (ZC rfl fun p3=>?_);refine yp pC (zf (za (ze (ze (z8 (yp (pP rfl) (yp (wh rfl rfl) (zf (za (zo rfl (zl (za (ze (z8 (yp (pP rfl) (yp (zX rfl) (yp (zx rfl) ?_)))))))))))))))));refine zh (zy rfl rfl ?_);refine yp (pV (qE rfl)) ?_;refine zh (zk (Mg _ L H hL hlen p3 k 43 (0,0)) rfl rfl fun v S' h=>?_);obtain⟨rfl,rfl⟩:=h;refine yp (pI rfl) (zf (za (zJ ?_)));exact zI (rI rfl) ⟨_,.of,rfl,rfl⟩
theorem Mh{v:Value}{L:List De}{H:List Chunk}(hL:Zg 216 v L H)(hlen:L.length<2 ^ 40){i j:Nat}(hi:i<L.length)(hj:j=i+1):
 Tri Tryz.prog 169 #[v,.int .i64 (i:Int),.int .i64 (j:Int)] [H] (fun r S=>∃H',Zg 216 r (L.eraseIdx i) H'∧S=[H']):=
 K6 Tryz.Nt rfl (⟨⟨[],0⟩,0⟩:De) rfl hL hlen hi hj
def uH(k:Ky)(L:List De):List De:=match idx k L with | some i=>L.eraseIdx i | none=>L
def iZ(k:Ky)(L:List De):Bool:=(idx k L).isSome
theorem q8(k:Ky)(L:List De):(uH k L).length≤L.length:=by
 unfold uH;split
 ·rw[List.length_eraseIdx]; split<;>omega
 ·exact Nat.le_refl _
theorem fT{db:Nat}{v:Value}{L:List De}{H:List Chunk}(hL:Zg 216 v L H)(hlen:L.length<2 ^ 40)(k:Ky):
 Tri Tryz.prog 152 #[.pointer (some ⟨db,0,none⟩),.agg (vC k)] [[(db,.cells #[v] 211)],H] (fun r S=>r= .bool (iZ k L)∧∃v' H',Zg 216 v' (uH k L) H'∧S=[[(db,.cells #[v'] 211)],H']):=by
 refine Tri.forget (zq Tryz.NM (Nat.le_of_ble_eq_true rfl) ?_);unfold Tryz.x152;refine ze (z8 ?_);refine zh (ZC rfl fun p3=>?_);refine yp pC (zf (za (ze (z8 (yp (pP rfl) ?_)))));refine zh (ZP rfl rfl ?_);refine zh (zk (Ch db 211 (0,0) v L H hL hlen k) rfl rfl fun r S' h=>?_);obtain⟨rfl,rfl⟩:=h;cases h:idx k L with
 | none=>
  have h1:iZ k L=false:=by simp[iZ,h]
  have h2:uH k L=L:=by simp[uH,h]
  rw[h1,h2];simp only[rX];refine yp (pI rfl) (zf (za (ze (ze (z8 (yp (pI rfl) (yp (ZE rfl rfl) (zf (za (zC rfl (ze (z8 (yp pC (zf (za (zJ (zV ?_)))))))))))))))));exact zI (rB rfl) ⟨_,.of,rfl,_,_,hL,rfl⟩
 | some i=>
  have h1:iZ k L=true:=by simp[iZ,h]
  have h2:uH k L=L.eraseIdx i:=by simp[uH,h]
  have hi:=rY h;rw[h1,h2];simp only[rX];refine yp (pI rfl) (zf (za (ze (ze (z8 (yp (pI rfl) (yp (ZE rfl rfl) (zf (za (zo rfl (zl (za (ze (z8 (yp (pP rfl) (yp (pP rfl) (yp (zX rfl) (yp (zx rfl) ?_))))))))))))))))));refine zh (zy rfl rfl ?_);refine yp (pI rfl) (yp (pI rfl) (yp (Z8 rfl rfl (by omega)) ?_));obtain⟨a,c,rfl⟩:=hL.isSlice
  skip
  refine zh (zk (Mh hL hlen hi rfl) rfl rfl fun r S' h=>?_);obtain⟨H',hL',rfl⟩:=h;obtain⟨a',c',rfl⟩:=hL'.isSlice;refine yp (zX rfl) (yp (zx rfl) ?_);refine zh (ZU rfl rfl (YZ rfl) ?_);refine zf (za (ze (z8 (yp pC (zf (za (zJ ?_)))))));exact zI (rB rfl) ⟨_,.of,rfl,_,_,hL',rfl⟩
theorem Gj:Tri Tryz.prog 123 #[] [] (fun r S=>∃db,r= .pointer (some ⟨db,0,none⟩)∧S=[[(db,.cells #[.slice none 0 0] 211)]]):=by
 refine Tri.forget (zq Tryz.Oj (Nat.le_of_ble_eq_true rfl) ?_);unfold Tryz.IL;refine ze (z8 (yp pC (zf (za (ze (z8 (yp Ww ?_)))))));refine zh (ZC rfl fun p2=>?_);refine yp (pP rfl) (zf (za (zJ ?_)));exact zI (rP rfl) ⟨_,.of,_,rfl,rfl⟩
theorem Gi{db:Nat}{v:Value}{L:List De}{H:List Chunk}(hL:Zg 216 v L H)(hlen:L.length<2 ^ 40-1)(k:Ky)(t:Int):
 Tri Tryz.prog 131 #[.pointer (some ⟨db,0,none⟩),.agg (vC k),.int .i64 t] [[(db,.cells #[v] 211)],H] (fun r S=>r= .tuple #[]∧∃v' H',Zg 216 v' (uH k L++[(⟨k,t⟩:De)]) H'∧S=[[(db,.cells #[v'] 211)],H']):=by
 refine Tri.forget (zq Tryz.Oa (Nat.le_of_ble_eq_true rfl) ?_);unfold Tryz.Iz;refine ze (z8 ?_);refine zh (ZC rfl fun p4=>?_);refine zf (za (ze (ze (z8 (yp (pP rfl) (yp (wh rfl rfl) (zf (za (zo rfl (zl (za (ze (z8 (yp (pP rfl) ?_))))))))))))));refine zh (ZP rfl rfl ?_);refine zh (zk (fT hL (by omega) k) rfl rfl fun r S' h=>?_);obtain⟨rfl,v1,H1,hL1,rfl⟩:=h;refine zf (za (Z6 (zi (pP rfl) (zi (pP rfl) (zi (zX rfl) (zi (zx rfl) (Zb rfl rfl (vO rfl rfl (zi (pI rfl) ?_)))))))));obtain⟨a,c,rfl⟩:=hL1.isSlice
 skip
 refine zi (v:= .agg #[.string ⟨k.n.toArray⟩,.int .i64 k.t,.int .i64 t]) rfl ?_;refine Zd (wJ (⟨k,t⟩:De) rfl rfl (by decide) (by decide) rfl fun p19=>⟨by simp,?_⟩) zN;have hdl:=q8 k L;refine zO (V6 (Y:=[(⟨k,t⟩:De)]) rfl rfl hL1 (.lit (by repeat (first | exact List.mem_cons_self | apply List.mem_cons_of_mem)) rfl) rfl (⟨⟨[],0⟩,0⟩:De) rfl (by simp; omega) (by simp; omega) fun v2 H2 hL2=>?_) zN;obtain⟨a2,c2,rfl⟩:=hL2.isSlice;refine zi (zX rfl) (zi (zx rfl) ?_);refine zO (ZU rfl rfl (YZ rfl) ?_) zN;refine zH ?_;exact ZO ZQ ⟨_,.of,rfl,_,_,hL2,rfl⟩
theorem Ci{v:Value}{L:List De}{H:List Chunk}(hL:Zg 216 v L H)(hlen:L.length<2 ^ 40):
 Tri Tryz.prog 159 #[v] [H] (fun r S=>∃H',Zg 216 r L H'∧S=[H',H]):=by
 refine Tri.forget (zq Tryz.NG (Nat.le_of_ble_eq_true rfl) ?_);unfold Tryz.x159;rcases hL.inv with⟨rfl,rfl,rfl⟩ | ⟨b,sp,fz,hz,rfl,rfl⟩
 ·refine ze (z8 (yp pC (zf (za (ze (ze (z8 (yp (pS rfl) (yp (eY rfl rfl) (zf (za (zC rfl (ze (z8 (yp pC (zf (za (zJ (zV ?_)))))))))))))))))));exact zI (rS rfl) ⟨_,.of,_,.nil,rfl⟩
 ·refine ze (z8 (yp pC (zf (za (ze (ze (z8 (yp (pS rfl) (yp (eY rfl rfl) (zf (za (zo rfl (zl (za (ze (z8 ?_))))))))))))))));refine zh (Db fun p5=>?_);refine yp (pS rfl) ?_;refine zh (V6 rfl rfl Zg.empty (hL.src (by repeat (first | exact List.mem_cons_self | apply List.mem_cons_of_mem))) rfl (⟨⟨[],0⟩,0⟩:De) rfl (by simp; omega) (by simp; omega) fun v2 H2 hL2=>?_);obtain⟨a2,c2,rfl⟩:=hL2.isSlice;refine yp (pS rfl) (zf (za (zJ ?_)));exact zI (rS rfl) ⟨_,.of,_,hL2,rfl⟩
def xQ(e:De):Int:=e.at_
theorem Gg{v:Value}{L:List De}{H:List Chunk}(hL:Zg 216 v L H)(hlen:L.length<2 ^ 38){n:Nat}(hn:n=L.length):
 Tri Tryz.prog 184 #[v,.int .i64 (n:Int),.func (.func 161) #[] #[]] [H] (fun r S=>r= .tuple #[]∧∃L' H',SS xQ L L'∧L'.length=L.length∧Zg 216 v L' H'∧S=[H']):=
 Q7 Tryz.Nf Tryz.MP Tryz.MO Tryz.MI Tryz.MG rfl xQ (fun a b=>(Mi a b).mono fun _ _ ⟨h1,h2⟩=>⟨⟨_,h1,gL _ _⟩,h2⟩) hL hlen hn
theorem Gh{v:Value}{L:List De}{H:List Chunk}(hL:Zg 216 v L H)(hlen:L.length<2 ^ 38):
 Tri Tryz.prog 160 #[v,.func (.func 161) #[] #[]] [H] (fun r S=>r= .tuple #[]∧∃L' H',SS xQ L L'∧L'.length=L.length∧Zg 216 v L' H'∧S=[H']):=by
 refine Tri.forget (zq Tryz.ND (Nat.le_of_ble_eq_true rfl) ?_);unfold Tryz.x160;obtain⟨a0,c0,rfl⟩:=hL.isSlice;refine z8 (yp (pS rfl) (yp (pS rfl) (yp (Zp rfl) (yp (pF rfl) ?_))));refine zh (zk (Gg hL hlen rfl) rfl rfl fun v S' h=>?_);obtain⟨rfl,L2,H2,hS2,hl2,hL2,rfl⟩:=h;refine zf ?_;exact ZO ZQ ⟨_,.of,rfl,_,_,hS2,hl2,hL2,rfl⟩
/-- those whose time has come, in their order -/
def upto(at_:Int)(L:List De):List De:=(kP xQ L).filter fun e=>decide (xQ e≤at_)
def mo(e:De):Array Value:= #[.agg (vC e.k),.int .i64 e.at_]
theorem rV{p:Option Addr}{at_:Int}:Tri Tryz.prog 138 #[.pointer p,.int .i64 at_] [] (fun r S=>∃bd ba,r= .func (.func 158) #[] #[.pointer (some ⟨bd,0,none⟩),.pointer (some ⟨ba,0,none⟩)]∧S=[[(bd,.cells #[.pointer p] 146)],[(ba,.cells #[.int .i64 at_] 3)]]):=by
 refine Tri.forget (zq Tryz.O6 (Nat.le_of_ble_eq_true rfl) ?_);unfold Tryz.Ir;refine ze (z8 ?_);refine zh (mI (qE rfl) fun p2=>?_);refine zh (mI (vH rfl) fun p3=>?_);refine yp pC (zf (za (ze (z8 (yp (LX (qE rfl) (qE rfl)) (yp (pF rfl) (zf (za (zJ ?_)))))))));exact zI (rF rfl) ⟨_,.of,_,_,rfl,rfl⟩
/-- all of it as one piece of memory -/
abbrev bT(db:Nat)(v:Value):List Chunk:=[(db,.cells #[v] 211)]
def Du(db:Nat)(L:List De)(T:List Chunk):Prop:=∃v H,Zg 216 v L H∧T=bT db v++H
theorem Du.mk{db:Nat}{v:Value}{L:List De}{H:List Chunk}(h:Zg 216 v L H):Du db L (bT db v++H):=⟨v,H,h,rfl⟩
theorem zG.j2{S:zL}{a b:List Chunk}{G:zL}[h:Sub S [a,b] G]:zG S [a++b]:=zG.trans (zG.of (h:=h)) ⟨[],by simp⟩
theorem Tri.s2{P:Program}{f:FuncId}{args:Array Value}{a b:List Chunk}{S0:zL}{R:Value→zL→Prop}(h:Tri P f args (a::b::S0) R):Tri P f args ((a++b)::S0) R:=h.perm (by simp)
theorem Me:Tri Tryz.prog 123 #[] [] (fun r S=>∃db T,r= .pointer (some ⟨db,0,none⟩)∧Du db [] T∧S=[T]):=
 Gj.mono fun r S ⟨db,h1,h2⟩=>⟨db,_,h1,Du.mk .nil,by rw[h2]; rfl⟩
theorem Gm{db:Nat}{L:List De}{T:List Chunk}(hT:Du db L T)(hlen:L.length<2 ^ 40)(k:Ky):
 Tri Tryz.prog 152 #[.pointer (some ⟨db,0,none⟩),.agg (vC k)] [T] (fun r S=>r= .bool (iZ k L)∧∃T',Du db (uH k L) T'∧S=[T']):=by
 obtain⟨v,H,hL,rfl⟩:=hT;refine Tri.forget (Tri.s2 ((fT hL hlen k).mono fun r S ⟨h1,v',H',h2,h3⟩=>⟨[bT db v'++H'],?_,h1,_,Du.mk h2,rfl⟩));subst h3;exact zG.j2
theorem Md{db:Nat}{L:List De}{T:List Chunk}(hT:Du db L T)(hlen:L.length<2 ^ 40-1)(k:Ky)(t:Int):
 Tri Tryz.prog 131 #[.pointer (some ⟨db,0,none⟩),.agg (vC k),.int .i64 t] [T] (fun r S=>r= .tuple #[]∧∃T',Du db (uH k L++[(⟨k,t⟩:De)]) T'∧S=[T']):=by
 obtain⟨v,H,hL,rfl⟩:=hT;refine Tri.forget (Tri.s2 ((Gi hL hlen k t).mono fun r S ⟨h1,v',H',h2,h3⟩=>⟨[bT db v'++H'],?_,h1,_,Du.mk h2,rfl⟩));subst h3;exact zG.j2
theorem Qq{db bd ba:Nat}{L:List De}{T0:List Chunk}{S0:zL}(hT:Du db L T0)(hlen:L.length<2 ^ 38)(at_:Int):
 Ku Tryz.prog 158 #[] #[.pointer (some ⟨bd,0,none⟩),.pointer (some ⟨ba,0,none⟩)] [[(bd,.cells #[.pointer (some ⟨db,0,none⟩)] 146)],[(ba,.cells #[.int .i64 at_] 3)]] (T0::S0)
  (fun pre x=>pre++[x]<+:(upto at_ L).map mo) (fun xs=>xs=(upto at_ L).map mo):=by
 obtain⟨v,H,hL,rfl⟩:=hT;intro l c J Jx hJ0 hround;have e0:(#[]++ #[.func (.yield l) #[] #[]]++ #[.pointer (some ⟨bd,0,none⟩),.pointer (some ⟨ba,0,none⟩)]:Array Value)= #[.func (.yield l) #[] #[],.pointer (some ⟨bd,0,none⟩),.pointer (some ⟨ba,0,none⟩)]:=rfl;rw[e0];refine Tri.forget (zq Tryz.NH (Nat.le_of_ble_eq_true rfl) ?_);unfold Tryz.x158;refine zn (zG.pm (S2:=[c]::[(bd,.cells #[.pointer (some ⟨db,0,none⟩)] 146)]::[(ba,.cells #[.int .i64 at_] 3)]::bT db v::H::S0) (by simp)) ?_;obtain⟨a0,c0,rfl⟩:=hL.isSlice;refine ze (ze (z8 ?_));refine zh (zy rfl rfl ?_);refine yp (wh rfl rfl) (zf (za (zo rfl (zl (za (ze (z8 ?_)))))));refine zh (zy rfl rfl ?_);refine yp (zX rfl) (yp (zx rfl) ?_);refine zh (zy rfl rfl ?_);refine zh (zk (Ci hL (by omega)) rfl rfl fun v S' h=>?_);obtain⟨H1,hL1,rfl⟩:=h;obtain⟨a1,c1,rfl⟩:=hL1.isSlice;refine yp (pS rfl) (zf (za (ze (z8 (yp (pS rfl) ?_)))));refine zh (zk (Gh hL1 hlen) rfl rfl fun v S' h=>?_);obtain⟨rfl,R,H2,hS,hl,hL2,rfl⟩:=h;have hR:=hS.eq;have hU:upto at_ L=R.filter fun e=>decide (xQ e≤at_):=by rw[upto, ←hR]
 rw[hU];rw[hU] at hround;clear hU hR;have hso:=hS.1;refine zf (za (ze (z8 (yp (pS rfl) (yp (Zp rfl) (yp pC (zf (za (zu ?_)))))))));refine Z7 (σ:=Nat) (fun i E S=>Has E [(0,.func (.yield l) #[] #[]),(2,.pointer (some ⟨ba,0,none⟩)),(16,.slice a1 L.length c1),(17,.int .i64 L.length),(18,.int .i64 i)]∧i≤R.length∧(∀e∈R.take i,xQ e≤at_)∧∃T,J ((R.take i).map mo) T∧zG S ([(ba,.cells #[.int .i64 at_] 3)]::H2::T)) (fun i=>L.length-i) 0 ⟨⟨rfl,rfl,rfl,rfl,rfl,trivial⟩,Nat.zero_le _,by simp,[c]::(bT db (.slice a0 L.length c0)++H)::S0,hJ0,(zG.re (S1:=[(ba,.cells #[.int .i64 at_] 3)]::H2::[c]::bT db (.slice a0 L.length c0)::H::S0) (by simp))⟩ fun i E S ⟨hE,hi,hle,T,hJ,hK⟩=>?_
 obtain⟨E0,e0⟩:=zm hE; subst e0; clear hE;refine zn hK (ze (z8 (yp (ZE rfl rfl) (zf (za (ze ?_))))));refine zR rfl (fun h=>?_) (fun h=>?_)
 ·have hlt:i<R.length:=by omega
  obtain⟨bb,sp,fz,hz,rfl,hm,hc,rfl⟩:=hL2.at' (by intro h; simp[h] at hlt);have htk:R.take (i+1)=R.take i++[R[i]]:=by rw[List.take_add_one,List.getElem?_eq_getElem hlt]; rfl
  have hdr:R.drop i=R[i]::R.drop (i+1):=List.drop_eq_getElem_cons hlt;refine zl (za (ze (zu (ze (z8 (yp (zT rfl rfl (by omega)) ?_))))));refine zh (wH (l:=enc R[i]) rfl (wY hlt rfl) rfl ?_);refine zh (Z5 fun p6=>?_);refine zh (Zv rfl rfl rfl rfl rfl ?_);refine zf (za (ze (z8 (yp (zx rfl) ?_))));refine zh (zy rfl rfl ?_);refine zh (zy rfl rfl ?_);refine yp (WS rfl rfl) (yp (pB rfl) ?_);by_cases hat:at_<R[i].at_
  ·rw[decide_eq_true hat];refine zP rfl (zP rfl (zP rfl (zP rfl (zP rfl (zP rfl (zP rfl (yp (zw rfl rfl) (zf (za (zC rfl (zJ (bret (zV (zV (bret ?_)))))))))))))));refine zI ZQ ⟨T,.of,.inl ⟨_,?_,hJ⟩⟩;have h1:R.filter (fun e=>decide (xQ e≤at_))=R.take i:=by
    conv=>lhs; rw[←List.take_append_drop i R]
    rw[List.filter_append,List.filter_eq_self.2 (by intro e he; simpa using hle e he)];have:(R.drop i).filter (fun e=>decide (xQ e≤at_))=[]:=by
     rw[List.filter_eq_nil_iff];intro e he;have hp:=(List.pairwise_append.1 (by rw[List.take_append_drop]; exact hso:(R.take i++R.drop i).Pairwise _)).2.1;rw[hdr] at hp he;rcases List.mem_cons.1 he with rfl | he
     ·have h9:xQ R[i]=R[i].at_:=rfl;simp; omega
     ·have:=(List.pairwise_cons.1 hp).1 e he;have h9:xQ R[i]=R[i].at_:=rfl;simp; omega
    rw[this,List.append_nil]
   rw[h1]
  ·rw[decide_eq_false hat];refine zK rfl (zQ (pF rfl) (zK rfl (zQ (zx rfl) (zK rfl ?_))));have hle':∀e∈R.take (i+1),xQ e≤at_:=by
    intro e he;rw[htk] at he;rcases List.mem_append.1 he with he | he
    ·exact hle e he
    ·rw[List.mem_singleton.1 he]; show R[i].at_≤at_; omega
   have hV:(R.take i).map mo++[mo R[i]]<+:(R.filter fun e=>decide (xQ e≤at_)).map mo:=by
    have e1:(R.take i).map mo++[mo R[i]]=(R.take (i+1)).map mo:=by rw[htk,List.map_append]; rfl
    rw[e1];refine List.IsPrefix.map mo ?_
    conv=>rhs; rw[←List.take_append_drop (i+1) R]
    rw[List.filter_append,List.filter_eq_self.2 (by intro e he; simpa using hle' e he)];exact List.prefix_append _ _
   refine wH (l:=[.string ⟨R[i].k.n.toArray⟩,.int .i64 R[i].k.t]) rfl rfl rfl (zK rfl (zQ (zx rfl) (zK rfl ?_)));refine(zy rfl rfl ?_);refine zK rfl ?_;refine Ye (hround _ _ T hV hJ) rfl rfl fun b T' h=>?_
   rcases h with⟨rfl,hJ'⟩ | ⟨rfl,hJx⟩
   ·refine zK rfl (zQ (Za rfl) (yp (zD rfl rfl) (zf (za (zo rfl (zl (zW (za (z8 (yp (Z8 rfl rfl (by omega)) (yp (pI rfl) (zf (za ?_)))))))))))));refine⟨i+1,⟨⟨rfl,rfl,rfl,rfl,rfl,trivial⟩,by omega,hle',T',?_,.of⟩,by omega⟩;rw[htk,List.map_append]; exact hJ'
   ·refine zK rfl (zQ (Za rfl) (yp (zD rfl rfl) (zf (za (zC rfl (zJ (bret (zV (zV (bret ?_))))))))));exact zI ZQ ⟨T',.of,.inr ⟨_,hJx⟩⟩
 ·refine zZ (zA (zA (Z0 ?_)));refine ZO ZQ ⟨T,.of,.inl ⟨_,?_,hJ⟩⟩;rw[List.take_of_length_le (by omega)] at hle ⊢;rw[List.filter_eq_self.2 (by intro e he; simpa using hle e he)]
end Go.Proofs.YtekgciopamkjlaaGreat
