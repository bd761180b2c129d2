/- Keys by their use (lists.LRU, for a store): contracts. Keys by their use: Order. Keys by their times (lists.Due, for a store): contracts. -/
import Derived.Test.YtekgciopamkjlaaGreatY1
import Derived.Test.YtekgciopamkjlaaGreatL0
import Derived.Test.YtekgciopamkjlaaGreatN1
import Derived.Test.YtekgciopamkjlaaGreatA1
import Derived.Test.YtekgciopamkjlaaGreatFLists
namespace Go.Proofs.YtekgciopamkjlaaGreat
open Go.Xs
open Enc (enc)
def iA(o:Option Nat):Value:= .int .i64 (match o with | some i=>(i:Int) | none=> -1)
def kpos(k:Ky):List Ky→Option Nat
 | []=>none
 | e::l=>if k=e then some 0 else(kpos k l).map (· +1)
theorem QY{k:Ky}:∀{l:List Ky} {i:Nat},kpos k l=some i→i<l.length
 | e::l,i,h=>by
  unfold kpos at h;split at h
  ·simp at h; subst h; simp
  ·cases h':kpos k l with
   | none=>simp[h'] at h
   | some j=>simp[h'] at h; have:=QY h'; subst h; simp; omega
theorem X7{k:Ky}:∀{l:List Ky},kpos k l=none→k ∉ l
 | [],_=>by simp
 | e::l,h=>by
  unfold kpos at h;split at h
  ·simp at h
  ·next hk=>
   rw[Option.map_eq_none_iff] at h;have:=X7 h;simp[hk,this]
theorem Uf{k:Ky}:∀{l:List Ky} {i:Nat},kpos k l=some i→k∈l∧l.eraseIdx i=l.erase k
 | e::l,i,h=>by
  unfold kpos at h;split at h
  ·next hk=>simp at h; subst h; subst hk; simp
  ·next hk=>
   cases h':kpos k l with
   | none=>simp[h'] at h
   | some j=>
    simp[h'] at h; subst h;obtain⟨h1,h2⟩:=Uf h';refine⟨List.mem_cons_of_mem _ h1,?_⟩;rw[List.eraseIdx_cons_succ,h2,List.erase_cons_tail (by simpa using fun h=>hk h.symm)]
/-- where a key stands -/
theorem rT{v:Value}{L:List Ky}{H:List Chunk}(hL:Zc 43 v L H)(hlen:L.length<2 ^ 40)(k:Ky):
 zP Tryz.prog 172 #[v,.agg (WB k)] [H] (fun r S=>r=iA (kpos k L)∧S=[H]):=by
 refine zP.forget (zl Tryz.Fz (Nat.le_of_ble_eq_true rfl) ?_);unfold Tryz.Co;obtain⟨a,c,rfl⟩:=hL.isSlice;refine ze (z8 ?_);refine zh (Zp rfl fun p3=>?_);refine yp pC (zf (za (ze (ze (z8 (yp (pS rfl) (yp (ZM rfl) (yp pC (zf (za (zy ?_)))))))))));refine Zb (σ:=Nat) (fun i E S=>Has E [(0,.slice a L.length c),(3,.pointer (some ⟨p3,0,none⟩)),(7,.int .i64 L.length),(8,.int .i64 i)]∧i≤L.length∧(kpos k L=(kpos k (L.drop i)).map (· +i))∧zD S [[(p3,.cells (WB k) 43)],H]) (fun i=>L.length-i) 0 ⟨⟨rfl,rfl,rfl,rfl,trivial⟩,Nat.zero_le _,by simp,.of⟩ fun i E S ⟨hE,hi,hx,hS⟩=>?_
 obtain⟨E0,e0⟩:=zu hE; subst e0; clear hE;refine zo hS (ze (z8 (yp (ZP rfl rfl) (zf (za (ze ?_))))));refine zR rfl (fun h=>?_) (fun h=>?_)
 ·have hlt:i<L.length:=by omega
  have hd:L.drop i=L[i]::L.drop (i+1):=List.drop_eq_getElem_cons hlt;obtain⟨b,sp,fz2,hz,rfl,_,rfl,rfl⟩:=hL.at' (by intro h; simp[h] at hlt);refine zq (za (ze (zy (ze (z8 (yp (pI rfl) (yp (pI rfl) (zf (za (ze (Z4 (Wz rfl rfl (zi (pS rfl) (zi (pI rfl) (zi (zV rfl rfl (by omega)) (VA (l:=enc L[i]) rfl (vH hlt rfl) rfl ?_))))))))))))))));by_cases h2:k=L[i]
  ·refine zi (AA (a:=k) (b:=L[i]) rfl rfl) ?_;rw[decide_eq_true h2];refine zJ (za (zF rfl (ze (z8 (yp (pI rfl) (yp (pI rfl) (zf (za (zH (bret (zX (zX (bret (zX ?_))))))))))))));exact zG (rI rfl) ⟨_,.of,by rw[hx,hd,kpos,if_pos h2]; simp[iA],rfl⟩
  ·refine zi (AA (a:=k) (b:=L[i]) rfl rfl) ?_;rw[decide_eq_false h2];refine zJ (za (zx rfl (zq (zT (za (z8 (yp (Zj rfl rfl (by omega)) (yp (pI rfl) (zf (za ?_))))))))));refine⟨i+1,⟨⟨rfl,rfl,rfl,rfl,trivial⟩,by omega,?_,.of⟩,by omega⟩;rw[hx,hd,kpos,if_neg h2,Option.map_map];congr 1;funext x;simp; omega
 ·refine Z0 (zI (zI (Z5 (za (ze (z8 (yp pC (zf (za (zH ?_))))))))));have:L.drop i=[]:=List.drop_eq_nil_of_le (by omega);exact zG (rI rfl) ⟨_,.of,by rw[hx,this]; rfl,rfl⟩
theorem rV{v:Value}{L:List Ky}{H:List Chunk}(hL:Zc 43 v L H)(hlen:L.length<2 ^ 40)(k:Ky):
 zP Tryz.prog 154 #[v,.agg (WB k)] [H] (fun r S=>r= .bool (decide (k∈L))∧S=[H]):=by
 refine zP.forget (zl Tryz.FV (Nat.le_of_ble_eq_true rfl) ?_);unfold Tryz.Cz;obtain⟨a,c,rfl⟩:=hL.isSlice;refine ze (z8 ?_);refine zh (Zp rfl fun p3=>?_);refine yp pC (zf (za (ze (z8 (yp (pS rfl) ?_)))));refine zh (ZK rfl rfl ?_);refine zh (zk (rT hL hlen k) rfl rfl fun r S' h=>?_);obtain⟨rfl,rfl⟩:=h;cases h:kpos k L with
 | none=>
  rw[decide_eq_false (X7 h)];simp only[iA];refine yp (Yg rfl rfl) (yp (pB rfl) (zf (za (zH ?_))));exact zG (rB rfl) ⟨_,.of,rfl,rfl⟩
 | some i=>
  rw[decide_eq_true (Uf h).1];simp only[iA];refine yp (Yg rfl rfl) (yp (pB rfl) (zf (za (zH ?_))));exact zG (rB rfl) ⟨_,.of,by simp,rfl⟩
theorem Et{v:Value}{L:List Ky}{H:List Chunk}(hL:Zc 43 v L H)(hlen:L.length<2 ^ 40){i j:Nat}(hi:i<L.length)(hj:j=i+1):
 zP Tryz.prog 162 #[v,.int .i64 (i:Int),.int .i64 (j:Int)] [H] (fun r S=>∃H',Zc 43 r (L.eraseIdx i) H'∧S=[H']):=
 yS Tryz.FM rfl (⟨[],0⟩:Ky) rfl hL hlen hi hj
theorem rW{v:Value}{L:List Ky}{H:List Chunk}(hL:Zc 43 v L H)(hlen:L.length<2 ^ 40)(k:Ky):
 zP Tryz.prog 167 #[v,.agg (WB k)] [H] (fun r S=>∃v' H',r= .tuple #[v',.bool (decide (k∈L))]∧Zc 43 v' (L.erase k) H'∧S=[H']):=by
 refine zP.forget (zl Tryz.FH (Nat.le_of_ble_eq_true rfl) ?_);unfold Tryz.x167;obtain⟨a,c,rfl⟩:=hL.isSlice;refine ze (z8 ?_);refine zh (Zp rfl fun p3=>?_);refine yp pC (yp pC (zf (za (ze (z8 (yp (pS rfl) ?_))))));refine zh (ZK rfl rfl ?_);refine zh (zk (rT hL hlen k) rfl rfl fun r S' h=>?_);obtain⟨rfl,rfl⟩:=h;cases h:kpos k L with
 | none=>
  have h1:=X7 h;rw[decide_eq_false h1,List.erase_of_not_mem h1];simp only[iA];refine yp (pI rfl) (zf (za (ze (ze (z8 (yp (pI rfl) (yp (ZP rfl rfl) (zf (za (zF rfl (ze (z8 (yp (pS rfl) (yp (pS rfl) (yp pC (zf (za (zH (zX ?_)))))))))))))))))));exact zG (Ab rfl rfl) ⟨_,.of,_,_,rfl,hL,rfl⟩
 | some i=>
  have hi:=QY h;rw[decide_eq_true (Uf h).1, ←(Uf h).2];simp only[iA];refine yp (pI rfl) (zf (za (ze (ze (z8 (yp (pI rfl) (yp (ZP rfl rfl) (zf (za (zx rfl (zq (za (ze (z8 (yp (pS rfl) (yp (pI rfl) (yp (pI rfl) (yp (Zj rfl rfl (by omega)) ?_))))))))))))))))));refine zh (zk (Et hL hlen hi rfl) rfl rfl fun r S' h=>?_);obtain⟨H',hL',rfl⟩:=h;obtain⟨a',c',rfl⟩:=hL'.isSlice;refine yp (pS rfl) (yp pC (zf (za (zH ?_))));exact zG (Ab rfl rfl) ⟨_,.of,_,_,rfl,hL',rfl⟩
/-- its room, and its two lists -/
abbrev KC(lb:Nat)(most:Int)(u v:Value):List Chunk:=[(lb,.cells #[.int .i64 most,u,v] 208)]
def Lr(lb:Nat)(most:Int)(A B:List Ky)(T:List Chunk):Prop:=∃u v H G,Zc 43 u A H∧Zc 43 v B G∧T=KC lb most u v++H++G
theorem Lr.mk{lb:Nat}{most:Int}{u v:Value}{A B:List Ky}{H G:List Chunk}(hA:Zc 43 u A H)(hB:Zc 43 v B G):Lr lb most A B (KC lb most u v++H++G):=⟨u,v,H,G,hA,hB,rfl⟩
theorem Er(most:Int):zP Tryz.prog 122 #[.int .i64 most] [] (fun r S=>∃lb T,r= .pointer (some ⟨lb,0,none⟩)∧Lr lb (max most 0) [] [] T∧S=[T]):=by
 refine zP.forget (zl Tryz.Gw (Nat.le_of_ble_eq_true rfl) ?_);unfold Tryz.Dc;refine ze (z8 (yp pC (zf (za (ze (z8 (yp (pI rfl) (yp (QK rfl rfl) (yp (v:= .agg #[.int .i64 (max most 0),.slice none 0 0,.slice none 0 0]) rfl ?_)))))))));refine zh (Zp rfl fun p6=>?_);refine yp (pP rfl) (zf (za (zH ?_)));exact zG (rP rfl) ⟨_,zD.re (S1:=[KC p6 (max most 0) (.slice none 0 0) (.slice none 0 0)]) (by simp),_,_,rfl,Lr.mk .nil .nil,rfl⟩
theorem nY{lb:Nat}{most:Int}{u v:Value}{A B:List Ky}{H G:List Chunk}(hA:Zc 43 u A H)(hB:Zc 43 v B G)(ha:A.length<2 ^ 40)(hb:B.length<2 ^ 40)(k:Ky):
 zP Tryz.prog 151 #[.pointer (some ⟨lb,0,none⟩),.agg (WB k)] [KC lb most u v,H,G] (fun r S=>r= .bool (decide (k∈A) || decide (k∈B))∧∃u' H' v' G',Zc 43 u' (A.erase k) H'∧Zc 43 v' (B.erase k) G'∧S=[KC lb most u' v',H',G']):=by
 refine zP.forget (zl Tryz.FY (Nat.le_of_ble_eq_true rfl) ?_);unfold Tryz.x151;obtain⟨a,c,rfl⟩:=hA.isSlice;obtain⟨a',c',rfl⟩:=hB.isSlice;refine ze (z8 ?_);refine zh (Zp rfl fun p3=>?_);refine yp pC (zf (za (ze (ze (z8 (yp (pP rfl) (yp (wz rfl rfl) (zf (za (zx rfl (zq (za (ze (z8 (yp pC (yp pC (zf (za (ze (Z4 (zi (pP rfl) (zi (pP rfl) (zi (zM rfl) (zi (zn rfl) (Z9 rfl rfl (Wz rfl rfl ?_))))))))))))))))))))))))));refine zN (zk (rW hA ha k) rfl rfl fun r S' h=>?_) zO;obtain⟨u1,H1,rfl,hA1,rfl⟩:=h;obtain⟨a1,c1,rfl⟩:=hA1.isSlice;refine zi (pU rfl) (zi (pExt rfl rfl) (zi (pExt rfl rfl) (zi (zM rfl) (zi (zn rfl) ?_))));refine zN (dI rfl rfl (jE rfl) ?_) zO;refine zi (pB rfl) (zJ (za (ze (Z4 (zi (pP rfl) (zi (pP rfl) (zi (zM rfl) (zi (zn rfl) (Z9 rfl rfl (Wz rfl rfl ?_))))))))));refine zN (zk (rW hB hb k) rfl rfl fun r S' h=>?_) zO;obtain⟨v1,G1,rfl,hB1,rfl⟩:=h;obtain⟨a2,c2,rfl⟩:=hB1.isSlice;refine zi (pU rfl) (zi (pExt rfl rfl) (zi (pExt rfl rfl) (zi (zM rfl) (zi (zn rfl) ?_))));refine zN (sV rfl rfl (jE rfl) ?_) zO;refine zi (pB rfl) (zJ (za (ze (z8 (yp (pB rfl) (yp (pB rfl) ?_))))));by_cases h1:k∈A
 ·rw[decide_eq_true h1];refine zW rfl (yp (zK rfl rfl) (yp (pB rfl) (zf (za (zH ?_)))));exact zG (rB rfl) ⟨_,.of,by simp,_,_,_,_,hA1,hB1,rfl⟩
 ·rw[decide_eq_false h1];refine zY rfl (Z7 (pB rfl) (yp (zQ rfl rfl) (yp (pB rfl) (zf (za (zH ?_))))));exact zG (rB rfl) ⟨_,.of,by simp,_,_,_,_,hA1,hB1,rfl⟩
theorem AZ{lb:Nat}{most:Int}{A B:List Ky}{T:List Chunk}(hT:Lr lb most A B T)(ha:A.length<2 ^ 40)(hb:B.length<2 ^ 40)(k:Ky):
 zP Tryz.prog 151 #[.pointer (some ⟨lb,0,none⟩),.agg (WB k)] [T] (fun r S=>r= .bool (decide (k∈A) || decide (k∈B))∧∃T',Lr lb most (A.erase k) (B.erase k) T'∧S=[T']):=by
 obtain⟨u,v,H,G,hA,hB,rfl⟩:=hT;refine zP.forget (zP.Vh ((nY hA hB ha hb k).mono fun r S ⟨h1,u',H',v',G',h2,h3,h4⟩=>⟨[KC lb most u' v'++H'++G'],?_,h1,_,Lr.mk h2 h3,rfl⟩));subst h4;exact zD.vV
/-- what Add makes of the probation -/
def mh(k:Ky)(A B:List Ky):List Ky:=if k∈A∨k∈B then A else A++[k]
theorem Eu{lb:Nat}{most:Int}{A B:List Ky}{T:List Chunk}(hT:Lr lb most A B T)(ha:A.length<2 ^ 40-1)(hb:B.length<2 ^ 40)(k:Ky):
 zP Tryz.prog 130 #[.pointer (some ⟨lb,0,none⟩),.agg (WB k)] [T] (fun r S=>r= .tuple #[]∧∃T',Lr lb most (mh k A B) B T'∧S=[T']):=by
 obtain⟨u,v,H,G,hA,hB,rfl⟩:=hT;refine zP.Vh (zP.forget (zl Tryz.Gn (Nat.le_of_ble_eq_true rfl) ?_));unfold Tryz.CZ;obtain⟨a,c,rfl⟩:=hA.isSlice;obtain⟨a',c',rfl⟩:=hB.isSlice;refine ze (z8 ?_);refine zh (Zp rfl fun p3=>?_);refine zf (za (ze (Z4 (zi (pP rfl) (zi (yu rfl rfl) (zi (pB rfl) (zS rfl (zi (pP rfl) (zS rfl (zi (zM rfl) (zS rfl (zi (zn rfl) (zS rfl (Z9 rfl rfl (zS rfl (Wz rfl rfl ?_))))))))))))))));refine wm rfl ?_ zO;refine Zf (zk (rV hA (by omega) k) rfl rfl fun r S' h=>?_) zO;obtain⟨rfl,rfl⟩:=h;refine⟨by simp,?_⟩;refine zS rfl (zi (Zd rfl) (zi (zK rfl rfl) (zi (pB rfl) ?_)));by_cases h1:k∈A
 ·rw[decide_eq_true h1];refine zZ rfl (zZ rfl (zZ rfl (zZ rfl (zZ rfl ?_))));refine vP rfl ?_ zO;refine zZ rfl (zi (zQ rfl rfl) (zJ (za (zx rfl (zq ?_)))));exact ZW w9 ⟨_,zD.vV,rfl,_,by rw[mh,if_pos (.inl h1)]; exact Lr.mk hA hB,rfl⟩
 rw[decide_eq_false h1];refine zS rfl (zi (pP rfl) (zS rfl (zi (zM rfl) (zS rfl (zi (zn rfl) (zS rfl (Z9 rfl rfl (zS rfl (Wz rfl rfl ?_)))))))));refine wm rfl ?_ zO;refine zN (zk (rV hB (by omega) k) rfl rfl fun r S' h=>?_) zO;obtain⟨rfl,rfl⟩:=h;refine zS rfl (zi (Zd rfl) (zi (zK rfl rfl) (zJ (za ?_))));by_cases h2:k∈B
 ·rw[decide_eq_true h2];refine zx rfl (zq ?_);exact ZW w9 ⟨_,zD.vV,rfl,_,by rw[mh,if_pos (.inr h2)]; exact Lr.mk hA hB,rfl⟩
 rw[decide_eq_false h2];refine zF rfl (Z4 (zi (pP rfl) (zi (pP rfl) (zi (zM rfl) (zi (zn rfl) (Z9 rfl rfl (Wz rfl rfl ?_)))))));refine Zf (Vf k rfl rfl (by decide) (by decide) rfl fun p30=>⟨by simp,?_⟩) zO;refine zN (uQ (Y:=[k]) rfl rfl hA (.lit (by repeat (first | exact List.mem_cons_self | apply List.mem_cons_of_mem)) rfl) rfl (⟨[],0⟩:Ky) rfl (by simp; omega) (by simp; omega) fun v2 H2 hL2=>?_) zO;obtain⟨a2,c2,rfl⟩:=hL2.isSlice;refine zi (zM rfl) (zi (zn rfl) ?_);refine zN (dI rfl rfl (jE rfl) ?_) zO;refine zJ ?_;exact ZW w9 ⟨_,zD.vV,rfl,_,by rw[mh,if_neg (by simp[h1,h2])]; exact Lr.mk hL2 hB,rfl⟩
theorem Dx:Tryz.prog.underlying 92=some (.slice 43):=by kernel_rfl
theorem L8:Tryz.prog.underlying 3=some (.int .i64):=by kernel_rfl
theorem DL:sizeOf? Tryz.prog 43=some 2:=by kernel_rfl
theorem BQ:zero? Tryz.prog 43=some [.string ⟨#[]⟩,.int .i64 0]:=by kernel_rfl
theorem Hr:bytes? Tryz.prog 43=some 24:=by kernel_rfl
theorem AY{n:Nat}(hn:n≤1099511627776):zP Tryz.prog 195 #[.slice none 0 0,.int .i64 (n:Int)] [] (fun r S=>∃H,Zc 43 r ([]:List Ky) H∧S=[H]):=by
 refine zP.forget (zl Tryz.Fa (Nat.le_of_ble_eq_true rfl) ?_);unfold Tryz.Ci;refine ze (z8 (yp pC (zf (za (ze (ze (z8 (yp (pI rfl) (yp (ZP rfl rfl) (zf (za (zx rfl (zq (za (ze (ze (z8 (yp (pI rfl) (yp (pS rfl) (yp (El rfl) (yp (pS rfl) (yp (ZM rfl) (yp (ZG rfl rfl (by omega)) (yp (ZG rfl rfl (by omega)) (yp (pI rfl) (zf (za (ze (z8 (yp (pI rfl) (yp (uf rfl rfl) (zf (za ?_)))))))))))))))))))))))))))))))));rcases Nat.eq_zero_or_pos n with rfl | hp
 ·refine zx rfl (zq (za (ze (z8 (yp (pS rfl) (yp (pS rfl) (zf (za (zH ?_)))))))));exact zG (rS rfl) ⟨_,.of,_,.nil,rfl⟩
 rw[show((n:Int)-(((0:Nat):Int)-((0:Nat):Int)))=(n:Int) from by omega];rw[decide_eq_true (show(0:Int)<n from by omega)];refine zF rfl (z8 (yp (pS rfl) (yp (pS rfl) (yp (El rfl) (yp (v:= .slice none 0 0) rfl (yp (pI rfl) ?_))))));refine zh (BU Dx L8 DL BQ Hr rfl rfl hp (by decide) (by omega) hn fun b M hM=>?_);refine yp (pS rfl) (yp (ZM rfl) (yp (gy (j:=0) rfl rfl (Nat.zero_le _)) (yp (pS rfl) (zf (za (ze (z8 (yp (pS rfl) (yp (pS rfl) (zf (za (zH ?_))))))))))));refine zG (rS rfl) ⟨_,.of,[(b,.cells ((List.replicate M [.string ⟨#[]⟩,.int .i64 0]).flatten).toArray 43)],?_,rfl⟩;have h:=Zc.of (ty:=43) (b:=b) (L:=([]:List Ky)) (sp:=List.replicate M (⟨[],0⟩:Ky));rw[uN (z:=[.string ⟨#[]⟩,.int .i64 0]) M (⟨[],0⟩:Ky) rfl];simpa using h
def mU(A B:List Ky):Nat→Int
 | 0=>0
 | 1=>A.length
 | _=>A.length+B.length
theorem gZ{u v:Value}{A B:List Ky}{S:zw}{b:Nat}(hA:Src S u A)(hB:Src S v B)(ha:A.length<2 ^ 36)(hb:B.length<2 ^ 36)(hm:[(b,.cells #[u,v] 92)]∈S):
 zP Tryz.prog 171 #[.slice (some ⟨b,0,none⟩) 2 2] S (fun r S'=>∃H,Zc 43 r (A++B) H∧S'=H::S):=by
 refine zP.forget (zl Tryz.FB (Nat.le_of_ble_eq_true rfl) ?_);unfold Tryz.Cq;obtain⟨a1,c1,rfl⟩:=hA.isSlice;obtain⟨a2,c2,rfl⟩:=hB.isSlice;obtain⟨f,hAt⟩:=At.Kv hm;refine ze (z8 (yp pC (zf (za (ze (z8 (yp pC (zf (za (ze (ze (z8 (yp (pS rfl) (yp (ZM rfl) (yp pC (zf (za (zy ?_))))))))))))))))));refine Zb (σ:=Nat) (fun i E S'=>Has E [(0,.slice (some ⟨b,0,none⟩) 2 2),(3,.int .i64 (mU A B i)),(9,.slice (some ⟨b,0,none⟩) 2 2),(10,.int .i64 2),(11,.int .i64 i)]∧i≤2∧S'=S) (fun i=>2-i) 0 ⟨⟨rfl,rfl,rfl,rfl,rfl,trivial⟩,Nat.zero_le _,rfl⟩ fun i E S' ⟨hE,hi,hS⟩=>?_
 subst hS;obtain⟨E0,e0⟩:=zu hE; subst e0; clear hE;refine ze (z8 (yp (ZP rfl rfl) (zf (za (ze ?_)))));refine zR rfl (fun h=>?_) (fun h=>?_)
 ·have h01:i=0∨i=1:=by omega
  rcases h01 with rfl | rfl
  ·rw[show mU A B 0=0 from rfl];refine zq (za (ze (zy (ze (z8 (yp (zV rfl rfl (by omega)) ?_))))));refine zh (zB rfl rfl ?_);refine yp (pS rfl) (zf (za (ze (z8 (yp (pI rfl) (yp (pS rfl) (yp (ZM rfl) (yp (Vq rfl rfl (by omega)) (yp (pI rfl) (zf (za (ze (z8 (yp (pI rfl) (yp (ZP rfl rfl) (zf (za (zx rfl (zq (zT (za (z8 (yp (Zj rfl rfl (by omega)) (yp (pI rfl) (zf (za ?_))))))))))))))))))))))))));refine⟨1,⟨⟨rfl,?_,rfl,rfl,rfl,trivial⟩,by omega,rfl⟩,by omega⟩;show Value.int .i64 (0+(A.length:Int))= .int .i64 (A.length:Int);rw[Int.zero_add]
  ·rw[show mU A B 1=A.length from rfl];refine zq (za (ze (zy (ze (z8 (yp (zV rfl rfl (by omega)) ?_))))));refine zh (zB rfl rfl ?_);refine yp (pS rfl) (zf (za (ze (z8 (yp (pI rfl) (yp (pS rfl) (yp (ZM rfl) (yp (Zt rfl rfl (by omega)) (yp (pI rfl) (zf (za (ze (z8 (yp (pI rfl) (yp (ZP rfl rfl) (zf (za (zx rfl (zq (zT (za (z8 (yp (Zj rfl rfl (by omega)) (yp (pI rfl) (zf (za ?_))))))))))))))))))))))))));exact⟨2,⟨⟨rfl,rfl,rfl,rfl,rfl,trivial⟩,by omega,rfl⟩,by omega⟩
 obtain rfl:i=2:=by omega
 rw[show mU A B 2=((A.length+B.length:Nat):Int) from by show(A.length:Int)+B.length=_; omega];refine Z0 (zI (zI (Z5 (za (ze (z8 (yp (pI rfl) ?_)))))));refine zh (zk (AY (n:=A.length+B.length) (by omega)) rfl rfl fun r S' h=>?_);obtain⟨H,hL,rfl⟩:=h;obtain⟨a3,c3,rfl⟩:=hL.isSlice;refine yp (pS rfl) (zf (za (ze (ze (z8 (yp (pS rfl) (yp (ZM rfl) (yp pC (zf (za (zy ?_)))))))))));refine Zb (σ:=Nat) (fun i E S''=>Has E [(25,.slice (some ⟨b,0,none⟩) 2 2),(26,.int .i64 2),(27,.int .i64 i)]∧i≤2∧∃v H,Zc 43 v (([A,B].take i).flatten) H∧E 6=v∧S''=H::S') (fun i=>2-i) 0 ⟨⟨rfl,rfl,rfl,trivial⟩,Nat.zero_le _,_,_,hL,rfl,rfl⟩ fun i E S'' ⟨hE,hi,v1,H1,hL1,hE6,hS⟩=>?_
 subst hS;obtain⟨a4,c4,rfl⟩:=hL1.isSlice;have hE2:Has E [(6,.slice a4 ([A,B].take i).flatten.length c4),(25,.slice (some ⟨b,0,none⟩) 2 2),(26,.int .i64 2),(27,.int .i64 i)]:=⟨hE6,hE⟩
 obtain⟨E0,e0⟩:=zu hE2; subst e0; clear hE2;refine ze (z8 (yp (ZP rfl rfl) (zf (za (ze ?_)))));refine zR rfl (fun h=>?_) (fun h=>?_)
 ·have h01:i=0∨i=1:=by omega
  rcases h01 with rfl | rfl
  ·refine zq (za (ze (zy (ze (z8 (yp (zV rfl rfl (by omega)) ?_))))));refine zh (zB rfl rfl ?_);refine yp (pS rfl) (zf (za (z8 (yp (pS rfl) (yp (pS rfl) ?_)))));refine zh (uQ (Y:=A) rfl rfl hL1 (Src.mono hA fun s hs=>?_) rfl (⟨[],0⟩:Ky) rfl (by simp; omega) (by simp; omega) fun v2 H2 hL2=>?_)
   ·exact List.mem_cons_of_mem _ hs
   obtain⟨a2,c2,rfl⟩:=hL2.isSlice;refine yp (pS rfl) (zf (zT (za (z8 (yp (Zj rfl rfl (by omega)) (yp (pI rfl) (zf (za ?_))))))));exact⟨1,⟨⟨rfl,rfl,rfl,trivial⟩,by omega,.slice a2 (([A,B].take 0).flatten++A).length c2,H2,by simpa using hL2,rfl,rfl⟩,by omega⟩
  ·refine zq (za (ze (zy (ze (z8 (yp (zV rfl rfl (by omega)) ?_))))));refine zh (zB rfl rfl ?_);refine yp (pS rfl) (zf (za (z8 (yp (pS rfl) (yp (pS rfl) ?_)))));refine zh (uQ (Y:=B) rfl rfl hL1 (Src.mono hB fun s hs=>?_) rfl (⟨[],0⟩:Ky) rfl (by simp; omega) (by simp; omega) fun v2 H2 hL2=>?_)
   ·exact List.mem_cons_of_mem _ hs
   obtain⟨a2,c2,rfl⟩:=hL2.isSlice;refine yp (pS rfl) (zf (zT (za (z8 (yp (Zj rfl rfl (by omega)) (yp (pI rfl) (zf (za ?_))))))));exact⟨2,⟨⟨rfl,rfl,rfl,trivial⟩,by omega,.slice a2 (([A,B].take 1).flatten++B).length c2,H2,by simpa using hL2,rfl,rfl⟩,by omega⟩
 obtain rfl:i=2:=by omega
 refine Z0 (zI (zI (Z5 (za (ze (z8 (yp (pS rfl) (yp (pS rfl) (zf (za (zH ?_)))))))))));exact zG (rS rfl) ⟨_,.self,_,by simpa using hL1,rfl⟩
theorem nX{p:Option Addr}:zP Tryz.prog 153 #[.pointer p] [] (fun r S=>∃bl,r= .func (.func 170) #[] #[.pointer (some ⟨bl,0,none⟩)]∧S=[[(bl,.cells #[.pointer p] 145)]]):=by
 refine zP.forget (zl Tryz.FW (Nat.le_of_ble_eq_true rfl) ?_);unfold Tryz.x153;refine ze (z8 ?_);refine zh (dM (j5 rfl) fun p1=>?_);refine yp pC (zf (za (ze (z8 (yp (gJ (j5 rfl)) (yp (pF rfl) (zf (za (zH ?_)))))))));exact zG (rF rfl) ⟨_,.of,_,rfl,rfl⟩
def mq(k:Ky):Array Value:= #[.agg (WB k)]
theorem bI{bl lb:Nat}{most:Int}{A B:List Ky}{T0:List Chunk}{S0:zw}(hT:Lr lb most A B T0)(ha:A.length<2 ^ 36)(hb:B.length<2 ^ 36):
 Yc Tryz.prog 170 #[] #[.pointer (some ⟨bl,0,none⟩)] [[(bl,.cells #[.pointer (some ⟨lb,0,none⟩)] 145)]] (T0::S0)
  (fun pre x=>pre++[x]<+:(A++B).map mq) (fun xs=>xs=(A++B).map mq):=by
 obtain⟨u,v,H,G,hA,hB,rfl⟩:=hT;intro l c J Jx hJ0 hround;have e0:(#[]++ #[.func (.yield l) #[] #[]]++ #[.pointer (some ⟨bl,0,none⟩)]:Array Value)= #[.func (.yield l) #[] #[],.pointer (some ⟨bl,0,none⟩)]:=rfl;rw[e0];refine zP.forget (zl Tryz.FC (Nat.le_of_ble_eq_true rfl) ?_);unfold Tryz.Cr;refine zo (zD.pm (S2:=[c]::[(bl,.cells #[.pointer (some ⟨lb,0,none⟩)] 145)]::KC lb most u v::H::G::S0) (by simp)) ?_;obtain⟨a0,c0,rfl⟩:=hA.isSlice;obtain⟨a1,c1,rfl⟩:=hB.isSlice;refine ze (ze (z8 ?_));refine zh (zB rfl rfl ?_);refine yp (wz rfl rfl) (zf (za (zx rfl (zq (za (ze (Z4 (Z9 rfl rfl (zi (zM rfl) (zi (zn rfl) (Z9 rfl rfl (Z9 rfl rfl (zi (zM rfl) (zi (zn rfl) (Z9 rfl rfl (zi pC ?_))))))))))))))));refine zN (mI (l:=[.slice a0 A.length c0,.slice a1 B.length c1]) rfl (by decide) (by decide) (by decide) rfl fun p15=>?_) zO;refine zN (zk (gZ (S:=[[(p15,.cells #[.slice a0 A.length c0,.slice a1 B.length c1] 92)],H,G]) (b:=p15) (hA.src (by simp)) (hB.src (by simp)) ha hb (by simp)) rfl rfl fun r S' h=>?_) zO;obtain⟨H1,hL1,rfl⟩:=h;obtain⟨a2,c2,rfl⟩:=hL1.isSlice;generalize hR:A++B=R at hL1 hround ⊢;have hRl:R.length<2 ^ 39:=by rw[←hR,List.length_append]; omega
 refine zi (ZM rfl) (zJ (za (zy ?_)));refine Zb (σ:=Nat) (fun i E S=>Has E [(0,.func (.yield l) #[] #[]),(16,.slice a2 R.length c2),(17,.int .i64 R.length),(18,.int .i64 i)]∧i≤R.length∧∃T,J ((R.take i).map mq) T∧zD S (H1::T)) (fun i=>R.length-i) 0 ⟨⟨rfl,rfl,rfl,rfl,trivial⟩,Nat.zero_le _,[c]::(KC lb most (.slice a0 A.length c0) (.slice a1 B.length c1)++H++G)::S0,hJ0,(zD.re (S1:=H1::[c]::KC lb most (.slice a0 A.length c0) (.slice a1 B.length c1)::H::G::S0) (by simp))⟩ fun i E S ⟨hE,hi,T,hJ,hK⟩=>?_
 obtain⟨E0,e0⟩:=zu hE; subst e0; clear hE;refine zo hK (ze (z8 (yp (ZP rfl rfl) (zf (za (ze ?_))))));refine zR rfl (fun h=>?_) (fun h=>?_)
 ·have hlt:i<R.length:=by omega
  obtain⟨bb,sp,fz,hz,rfl,hm,hc,rfl⟩:=hL1.at' (by intro h; simp[h] at hlt);have htk:R.take (i+1)=R.take i++[R[i]]:=by rw[List.take_add_one,List.getElem?_eq_getElem hlt]; rfl
  refine zq (za (ze (zy (ze (z8 (yp (zV rfl rfl (by omega)) ?_))))));refine zh (wC (l:=enc R[i]) rfl (vH hlt rfl) rfl ?_);refine zh (Z6 fun p4=>?_);refine zh (ZX rfl rfl rfl rfl rfl ?_);refine zf (za (ze (z8 (yp (pF rfl) ?_))));refine zh (ZK rfl rfl ?_);have hV:(R.take i).map mq++[mq R[i]]<+:R.map mq:=by
   have e1:(R.take i).map mq++[mq R[i]]=(R.take (i+1)).map mq:=by rw[htk,List.map_append]; rfl
   rw[e1];exact List.IsPrefix.map mq (List.take_prefix _ _)
  refine zh (XB (hround _ _ T hV hJ) rfl rfl fun b T' h=>?_);rcases h with⟨rfl,hJ'⟩ | ⟨rfl,hJx⟩
  ·refine yp (Zd rfl) (zf (za (zx rfl (zq (zT (za (z8 (yp (Zj rfl rfl (by omega)) (yp (pI rfl) (zf (za ?_)))))))))));refine⟨i+1,⟨⟨rfl,rfl,rfl,rfl,trivial⟩,by omega,T',?_,.of⟩,by omega⟩;rw[htk,List.map_append]; exact hJ'
  ·refine yp (Zd rfl) (zf (za (zF rfl (zH (bret (zX (zX (bret ?_))))))));exact zG w9 ⟨T',.of,.inr ⟨_,hJx⟩⟩
 ·refine Z0 (zI (zI (Z5 ?_)));refine ZW w9 ⟨T,.of,.inl ⟨_,?_,hJ⟩⟩;rw[List.take_of_length_le (by omega)]
structure De where
 k:Ky
 at_:Int
abbrev Mr(e:De):Array Value:= #[.string ⟨e.k.n.toArray⟩,.int .i64 e.k.t,.int .i64 e.at_]
instance:Enc De:=⟨fun e=>[.string ⟨e.k.n.toArray⟩,.int .i64 e.k.t,.int .i64 e.at_],3,fun _=>rfl,fun _=>rfl⟩
/-- by their times -/
theorem EB(a b:De):zP Tryz.prog 161 #[.agg (Mr a),.agg (Mr b)] [] (fun r S=>r= .int .i64 (qQ a.at_ b.at_)∧S=[]):=by
 refine zP.forget (zl Tryz.FN (Nat.le_of_ble_eq_true rfl) ?_);unfold Tryz.Cv;refine ze (z8 ?_);refine zh (Zp rfl fun p2=>?_);refine zh (Zp rfl fun p3=>?_);refine yp pC (zf (za (ze (z8 (yp (zn rfl) ?_)))));refine zh (zB rfl rfl ?_);refine yp (zn rfl) ?_;refine zh (zB rfl rfl ?_);refine zh (zk (l7 a.at_ b.at_) rfl rfl fun v S' h=>?_);obtain⟨rfl,rfl⟩:=h;refine yp (pI rfl) (zf (za (zH ?_)));exact zG (rI rfl) ⟨_,.of,rfl,rfl⟩
/-- is it this key? -/
theorem Lc(e:De)(b:Nat)(k:Ky)(t:TypeId)(fz:Nat × Nat):zP Tryz.prog 194 #[.agg (Mr e),.pointer (some ⟨b,0,none⟩)] [[(b,.cells (WB k) t fz)]] (fun r S=>r= .bool (decide (e.k=k))∧S=[[(b,.cells (WB k) t fz)]]):=by
 refine zP.forget (zl Tryz.Fb (Nat.le_of_ble_eq_true rfl) ?_);unfold Tryz.Cj;refine ze (z8 ?_);refine zh (Zp rfl fun p2=>?_);refine yp pC (zf (za (ze (z8 (yp (zn rfl) ?_)))));refine zh (wC (l:=[.string ⟨e.k.n.toArray⟩,.int .i64 e.k.t]) rfl rfl rfl ?_);refine zh (ZK rfl rfl ?_);refine yp (AA (a:=e.k) (b:=k) rfl rfl) (yp (pB rfl) (zf (za (zH ?_))));exact zG (rB rfl) ⟨_,.of,rfl,rfl⟩
def idx(k:Ky):List De→Option Nat
 | []=>none
 | e::l=>if e.k=k then some 0 else(idx k l).map (· +1)
theorem iD{k:Ky}:∀{l:List De} {i:Nat},idx k l=some i→i<l.length
 | e::l,i,h=>by
  unfold idx at h;split at h
  ·simp at h; subst h; simp
  ·cases h':idx k l with
   | none=>simp[h'] at h
   | some j=>simp[h'] at h; have:=iD h'; subst h; simp; omega
/-- where a key stands -/
theorem Ez(v:Value)(L:List De)(H:List Chunk)(hL:Zc 216 v L H)(hlen:L.length<2 ^ 40)(kb:Nat)(k:Ky)(t:TypeId)(fz:Nat × Nat):
 zP Tryz.prog 193 #[v,.func (.func 194) #[] #[.pointer (some ⟨kb,0,none⟩)]] [H,[(kb,.cells (WB k) t fz)]] (fun r S=>r=iA (idx k L)∧S=[H,[(kb,.cells (WB k) t fz)]]):=by
 refine zP.forget (zl Tryz.Fe (Nat.le_of_ble_eq_true rfl) ?_);unfold Tryz.Ck;obtain⟨a,c,rfl⟩:=hL.isSlice;refine ze (z8 (yp pC (zf (za (ze (ze (z8 (yp (pS rfl) (yp (ZM rfl) (yp pC (zf (za (zy ?_)))))))))))));refine Zb (σ:=Nat) (fun i E S=>Has E [(0,.slice a L.length c),(1,.func (.func 194) #[] #[.pointer (some ⟨kb,0,none⟩)]),(7,.int .i64 L.length),(8,.int .i64 i)]∧i≤L.length∧(idx k L=(idx k (L.drop i)).map (· +i))∧zD S [H,[(kb,.cells (WB k) t fz)]]) (fun i=>L.length-i) 0 ⟨⟨rfl,rfl,rfl,rfl,trivial⟩,Nat.zero_le _,by simp,.self⟩ fun i E S ⟨hE,hi,hx,hS⟩=>?_
 obtain⟨E0,e0⟩:=zu hE; subst e0; clear hE;refine zo hS (ze (z8 (yp (ZP rfl rfl) (zf (za (ze ?_))))));refine zR rfl (fun h=>?_) (fun h=>?_)
 ·have hlt:i<L.length:=by omega
  have hd:L.drop i=L[i]::L.drop (i+1):=List.drop_eq_getElem_cons hlt;refine zq (za (ze (zy (ze (z8 (yp (pI rfl) (yp (pI rfl) (zf (za (ze (z8 (yp (pF rfl) (yp (pS rfl) (yp (pI rfl) ?_))))))))))))));obtain⟨b,sp,fz2,hz,rfl,_,rfl,rfl⟩:=hL.at' (by intro h; simp[h] at hlt);refine yp (zV rfl rfl (by omega)) ?_;refine zh (wC (l:=enc L[i]) rfl (vH hlt rfl) rfl ?_);refine zh (zk (Lc L[i] kb k t fz) rfl rfl fun v S' h=>?_);obtain⟨rfl,rfl⟩:=h;refine zf (za ?_);refine zR rfl (fun h2=>?_) (fun h2=>?_)
  ·refine ze (z8 (yp (pI rfl) (yp (pI rfl) (zf (za (zH (bret (zX (zX (bret (zX ?_)))))))))));exact zG (rI rfl) ⟨_,.of,by rw[hx,hd,idx,if_pos h2]; simp[iA],rfl⟩
  ·refine zq (zT (za (z8 (yp (Zj rfl rfl (by omega)) (yp (pI rfl) (zf (za ?_)))))));refine⟨i+1,⟨⟨rfl,rfl,rfl,rfl,trivial⟩,by omega,?_,.of⟩,by omega⟩;rw[hx,hd,idx,if_neg h2,Option.map_map];congr 1;funext x;simp; omega
 ·refine Z0 (zI (zI (Z5 (za (ze (z8 (yp pC (zf (za (zH ?_))))))))));have:L.drop i=[]:=List.drop_eq_nil_of_le (by omega);exact zG (rI rfl) ⟨_,.of,by rw[hx,this]; rfl,rfl⟩
theorem nZ(db:Nat)(dt:TypeId)(dfz:Nat × Nat)(v:Value)(L:List De)(H:List Chunk)(hL:Zc 216 v L H)(hlen:L.length<2 ^ 40)(k:Ky):
 zP Tryz.prog 168 #[.pointer (some ⟨db,0,none⟩),.agg (WB k)] [[(db,.cells #[v] dt dfz)],H] (fun r S=>r=iA (idx k L)∧S=[[(db,.cells #[v] dt dfz)],H]):=by
 refine zP.forget (zl Tryz.FE (Nat.le_of_ble_eq_true rfl) ?_);unfold Tryz.x168;obtain⟨a,c,rfl⟩:=hL.isSlice;refine ze (z8 ?_);refine zh (Zp rfl fun p3=>?_);refine yp pC (zf (za (ze (ze (z8 (yp (pP rfl) (yp (wz rfl rfl) (zf (za (zx rfl (zq (za (ze (z8 (yp (pP rfl) (yp (zM rfl) (yp (zn rfl) ?_)))))))))))))))));refine zh (zB rfl rfl ?_);refine yp (gJ (j5 rfl)) ?_;refine zh (zk (Ez _ L H hL hlen p3 k 43 (0,0)) rfl rfl fun v S' h=>?_);obtain⟨rfl,rfl⟩:=h;refine yp (pI rfl) (zf (za (zH ?_)));exact zG (rI rfl) ⟨_,.of,rfl,rfl⟩
theorem EA{v:Value}{L:List De}{H:List Chunk}(hL:Zc 216 v L H)(hlen:L.length<2 ^ 40){i j:Nat}(hi:i<L.length)(hj:j=i+1):
 zP Tryz.prog 169 #[v,.int .i64 (i:Int),.int .i64 (j:Int)] [H] (fun r S=>∃H',Zc 216 r (L.eraseIdx i) H'∧S=[H']):=
 yS Tryz.FD rfl (⟨⟨[],0⟩,0⟩:De) rfl hL hlen hi hj
def Vu(k:Ky)(L:List De):List De:=match idx k L with | some i=>L.eraseIdx i | none=>L
def bN(k:Ky)(L:List De):Bool:=(idx k L).isSome
theorem KO(k:Ky)(L:List De):(Vu k L).length≤L.length:=by
 unfold Vu;split
 ·rw[List.length_eraseIdx]; split<;>omega
 ·exact Nat.le_refl _
theorem QX{db:Nat}{v:Value}{L:List De}{H:List Chunk}(hL:Zc 216 v L H)(hlen:L.length<2 ^ 40)(k:Ky):
 zP Tryz.prog 152 #[.pointer (some ⟨db,0,none⟩),.agg (WB k)] [[(db,.cells #[v] 211)],H] (fun r S=>r= .bool (bN k L)∧∃v' H',Zc 216 v' (Vu k L) H'∧S=[[(db,.cells #[v'] 211)],H']):=by
 refine zP.forget (zl Tryz.FX (Nat.le_of_ble_eq_true rfl) ?_);unfold Tryz.x152;refine ze (z8 ?_);refine zh (Zp rfl fun p3=>?_);refine yp pC (zf (za (ze (z8 (yp (pP rfl) ?_)))));refine zh (ZK rfl rfl ?_);refine zh (zk (nZ db 211 (0,0) v L H hL hlen k) rfl rfl fun r S' h=>?_);obtain⟨rfl,rfl⟩:=h;cases h:idx k L with
 | none=>
  have h1:bN k L=false:=by simp[bN,h]
  have h2:Vu k L=L:=by simp[Vu,h]
  rw[h1,h2];simp only[iA];refine yp (pI rfl) (zf (za (ze (ze (z8 (yp (pI rfl) (yp (ZP rfl rfl) (zf (za (zF rfl (ze (z8 (yp pC (zf (za (zH (zX ?_)))))))))))))))));exact zG (rB rfl) ⟨_,.of,rfl,_,_,hL,rfl⟩
 | some i=>
  have h1:bN k L=true:=by simp[bN,h]
  have h2:Vu k L=L.eraseIdx i:=by simp[Vu,h]
  have hi:=iD h;rw[h1,h2];simp only[iA];refine yp (pI rfl) (zf (za (ze (ze (z8 (yp (pI rfl) (yp (ZP rfl rfl) (zf (za (zx rfl (zq (za (ze (z8 (yp (pP rfl) (yp (pP rfl) (yp (zM rfl) (yp (zn rfl) ?_))))))))))))))))));refine zh (zB rfl rfl ?_);refine yp (pI rfl) (yp (pI rfl) (yp (Zj rfl rfl (by omega)) ?_));obtain⟨a,c,rfl⟩:=hL.isSlice
  skip
  refine zh (zk (EA hL hlen hi rfl) rfl rfl fun r S' h=>?_);obtain⟨H',hL',rfl⟩:=h;obtain⟨a',c',rfl⟩:=hL'.isSlice;refine yp (zM rfl) (yp (zn rfl) ?_);refine zh (ZJ rfl rfl (jE rfl) ?_);refine zf (za (ze (z8 (yp pC (zf (za (zH ?_)))))));exact zG (rB rfl) ⟨_,.of,rfl,_,_,hL',rfl⟩
theorem Bd:zP Tryz.prog 123 #[] [] (fun r S=>∃db,r= .pointer (some ⟨db,0,none⟩)∧S=[[(db,.cells #[.slice none 0 0] 211)]]):=by
 refine zP.forget (zl Tryz.Gv (Nat.le_of_ble_eq_true rfl) ?_);unfold Tryz.Db;refine ze (z8 (yp pC (zf (za (ze (z8 (yp vB ?_)))))));refine zh (Zp rfl fun p2=>?_);refine yp (pP rfl) (zf (za (zH ?_)));exact zG (rP rfl) ⟨_,.of,_,rfl,rfl⟩
theorem Bc{db:Nat}{v:Value}{L:List De}{H:List Chunk}(hL:Zc 216 v L H)(hlen:L.length<2 ^ 40-1)(k:Ky)(t:Int):
 zP Tryz.prog 131 #[.pointer (some ⟨db,0,none⟩),.agg (WB k),.int .i64 t] [[(db,.cells #[v] 211)],H] (fun r S=>r= .tuple #[]∧∃v' H',Zc 216 v' (Vu k L++[(⟨k,t⟩:De)]) H'∧S=[[(db,.cells #[v'] 211)],H']):=by
 refine zP.forget (zl Tryz.Gm (Nat.le_of_ble_eq_true rfl) ?_);unfold Tryz.CY;refine ze (z8 ?_);refine zh (Zp rfl fun p4=>?_);refine zf (za (ze (ze (z8 (yp (pP rfl) (yp (wz rfl rfl) (zf (za (zx rfl (zq (za (ze (z8 (yp (pP rfl) ?_))))))))))))));refine zh (ZK rfl rfl ?_);refine zh (zk (QX hL (by omega) k) rfl rfl fun r S' h=>?_);obtain⟨rfl,v1,H1,hL1,rfl⟩:=h;refine zf (za (Z4 (zi (pP rfl) (zi (pP rfl) (zi (zM rfl) (zi (zn rfl) (Z9 rfl rfl (Wz rfl rfl (zi (pI rfl) ?_)))))))));obtain⟨a,c,rfl⟩:=hL1.isSlice
 skip
 refine zi (v:= .agg #[.string ⟨k.n.toArray⟩,.int .i64 k.t,.int .i64 t]) rfl ?_;refine Zf (Vf (⟨k,t⟩:De) rfl rfl (by decide) (by decide) rfl fun p19=>⟨by simp,?_⟩) zO;have hdl:=KO k L;refine zN (uQ (Y:=[(⟨k,t⟩:De)]) rfl rfl hL1 (.lit (by repeat (first | exact List.mem_cons_self | apply List.mem_cons_of_mem)) rfl) rfl (⟨⟨[],0⟩,0⟩:De) rfl (by simp; omega) (by simp; omega) fun v2 H2 hL2=>?_) zO;obtain⟨a2,c2,rfl⟩:=hL2.isSlice;refine zi (zM rfl) (zi (zn rfl) ?_);refine zN (ZJ rfl rfl (jE rfl) ?_) zO;refine zJ ?_;exact ZW w9 ⟨_,.of,rfl,_,_,hL2,rfl⟩
theorem o8{v:Value}{L:List De}{H:List Chunk}(hL:Zc 216 v L H)(hlen:L.length<2 ^ 40):
 zP Tryz.prog 159 #[v] [H] (fun r S=>∃H',Zc 216 r L H'∧S=[H',H]):=by
 refine zP.forget (zl Tryz.FQ (Nat.le_of_ble_eq_true rfl) ?_);unfold Tryz.x159;rcases hL.inv with⟨rfl,rfl,rfl⟩ | ⟨b,sp,fz,hz,rfl,rfl⟩
 ·refine ze (z8 (yp pC (zf (za (ze (ze (z8 (yp (pS rfl) (yp (QJ rfl rfl) (zf (za (zF rfl (ze (z8 (yp pC (zf (za (zH (zX ?_)))))))))))))))))));exact zG (rS rfl) ⟨_,.of,_,.nil,rfl⟩
 ·refine ze (z8 (yp pC (zf (za (ze (ze (z8 (yp (pS rfl) (yp (QJ rfl rfl) (zf (za (zx rfl (zq (za (ze (z8 ?_))))))))))))))));refine zh (r9 fun p5=>?_);refine yp (pS rfl) ?_;refine zh (uQ rfl rfl Zc.empty (hL.src (by repeat (first | exact List.mem_cons_self | apply List.mem_cons_of_mem))) rfl (⟨⟨[],0⟩,0⟩:De) rfl (by simp; omega) (by simp; omega) fun v2 H2 hL2=>?_);obtain⟨a2,c2,rfl⟩:=hL2.isSlice;refine yp (pS rfl) (zf (za (zH ?_)));exact zG (rS rfl) ⟨_,.of,_,hL2,rfl⟩
def Uk(e:De):Int:=e.at_
theorem Ba{v:Value}{L:List De}{H:List Chunk}(hL:Zc 216 v L H)(hlen:L.length<2 ^ 38){n:Nat}(hn:n=L.length):
 zP Tryz.prog 184 #[v,.int .i64 (n:Int),.func (.func 161) #[] #[]] [H] (fun r S=>r= .tuple #[]∧∃L' H',SS Uk L L'∧L'.length=L.length∧Zc 216 v L' H'∧S=[H']):=
 jw Tryz.Fx Tryz.EX Tryz.EW Tryz.ER Tryz.EO rfl Uk (fun a b=>(EB a b).mono fun _ _ ⟨h1,h2⟩=>⟨⟨_,h1,aF _ _⟩,h2⟩) hL hlen hn
theorem Bb{v:Value}{L:List De}{H:List Chunk}(hL:Zc 216 v L H)(hlen:L.length<2 ^ 38):
 zP Tryz.prog 160 #[v,.func (.func 161) #[] #[]] [H] (fun r S=>r= .tuple #[]∧∃L' H',SS Uk L L'∧L'.length=L.length∧Zc 216 v L' H'∧S=[H']):=by
 refine zP.forget (zl Tryz.FP (Nat.le_of_ble_eq_true rfl) ?_);unfold Tryz.x160;obtain⟨a0,c0,rfl⟩:=hL.isSlice;refine z8 (yp (pS rfl) (yp (pS rfl) (yp (ZM rfl) (yp (pF rfl) ?_))));refine zh (zk (Ba hL hlen rfl) rfl rfl fun v S' h=>?_);obtain⟨rfl,L2,H2,hS2,hl2,hL2,rfl⟩:=h;refine zf ?_;exact ZW w9 ⟨_,.of,rfl,_,_,hS2,hl2,hL2,rfl⟩
/-- those whose time has come, in their order -/
def upto(at_:Int)(L:List De):List De:=(aj Uk L).filter fun e=>decide (Uk e≤at_)
def dB(e:De):Array Value:= #[.agg (WB e.k),.int .i64 e.at_]
theorem iw{p:Option Addr}{at_:Int}:zP Tryz.prog 138 #[.pointer p,.int .i64 at_] [] (fun r S=>∃bd ba,r= .func (.func 158) #[] #[.pointer (some ⟨bd,0,none⟩),.pointer (some ⟨ba,0,none⟩)]∧S=[[(bd,.cells #[.pointer p] 146)],[(ba,.cells #[.int .i64 at_] 3)]]):=by
 refine zP.forget (zl Tryz.Gg (Nat.le_of_ble_eq_true rfl) ?_);unfold Tryz.CS;refine ze (z8 ?_);refine zh (dM (j5 rfl) fun p2=>?_);refine zh (dM (u7 rfl) fun p3=>?_);refine yp pC (zf (za (ze (z8 (yp (Ef (j5 rfl) (j5 rfl)) (yp (pF rfl) (zf (za (zH ?_)))))))));exact zG (rF rfl) ⟨_,.of,_,_,rfl,rfl⟩
/-- all of it as one piece of memory -/
abbrev qH(db:Nat)(v:Value):List Chunk:=[(db,.cells #[v] 211)]
def Du(db:Nat)(L:List De)(T:List Chunk):Prop:=∃v H,Zc 216 v L H∧T=qH db v++H
theorem Du.mk{db:Nat}{v:Value}{L:List De}{H:List Chunk}(h:Zc 216 v L H):Du db L (qH db v++H):=⟨v,H,h,rfl⟩
theorem zD.j2{S:zw}{a b:List Chunk}{G:zw}[h:Sub S [a,b] G]:zD S [a++b]:=zD.trans (zD.of (h:=h)) ⟨[],by simp⟩
theorem zP.s2{P:Program}{f:FuncId}{args:Array Value}{a b:List Chunk}{S0:zw}{R:Value→zw→Prop}(h:zP P f args (a::b::S0) R):zP P f args ((a++b)::S0) R:=h.perm (by simp)
theorem Ew:zP Tryz.prog 123 #[] [] (fun r S=>∃db T,r= .pointer (some ⟨db,0,none⟩)∧Du db [] T∧S=[T]):=
 Bd.mono fun r S ⟨db,h1,h2⟩=>⟨db,_,h1,Du.mk .nil,by rw[h2]; rfl⟩
theorem Bf{db:Nat}{L:List De}{T:List Chunk}(hT:Du db L T)(hlen:L.length<2 ^ 40)(k:Ky):
 zP Tryz.prog 152 #[.pointer (some ⟨db,0,none⟩),.agg (WB k)] [T] (fun r S=>r= .bool (bN k L)∧∃T',Du db (Vu k L) T'∧S=[T']):=by
 obtain⟨v,H,hL,rfl⟩:=hT;refine zP.forget (zP.s2 ((QX hL hlen k).mono fun r S ⟨h1,v',H',h2,h3⟩=>⟨[qH db v'++H'],?_,h1,_,Du.mk h2,rfl⟩));subst h3;exact zD.j2
theorem Ev{db:Nat}{L:List De}{T:List Chunk}(hT:Du db L T)(hlen:L.length<2 ^ 40-1)(k:Ky)(t:Int):
 zP Tryz.prog 131 #[.pointer (some ⟨db,0,none⟩),.agg (WB k),.int .i64 t] [T] (fun r S=>r= .tuple #[]∧∃T',Du db (Vu k L++[(⟨k,t⟩:De)]) T'∧S=[T']):=by
 obtain⟨v,H,hL,rfl⟩:=hT;refine zP.forget (zP.s2 ((Bc hL hlen k t).mono fun r S ⟨h1,v',H',h2,h3⟩=>⟨[qH db v'++H'],?_,h1,_,Du.mk h2,rfl⟩));subst h3;exact zD.j2
theorem jZ{db bd ba:Nat}{L:List De}{T0:List Chunk}{S0:zw}(hT:Du db L T0)(hlen:L.length<2 ^ 38)(at_:Int):
 Yc Tryz.prog 158 #[] #[.pointer (some ⟨bd,0,none⟩),.pointer (some ⟨ba,0,none⟩)] [[(bd,.cells #[.pointer (some ⟨db,0,none⟩)] 146)],[(ba,.cells #[.int .i64 at_] 3)]] (T0::S0)
  (fun pre x=>pre++[x]<+:(upto at_ L).map dB) (fun xs=>xs=(upto at_ L).map dB):=by
 obtain⟨v,H,hL,rfl⟩:=hT;intro l c J Jx hJ0 hround;have e0:(#[]++ #[.func (.yield l) #[] #[]]++ #[.pointer (some ⟨bd,0,none⟩),.pointer (some ⟨ba,0,none⟩)]:Array Value)= #[.func (.yield l) #[] #[],.pointer (some ⟨bd,0,none⟩),.pointer (some ⟨ba,0,none⟩)]:=rfl;rw[e0];refine zP.forget (zl Tryz.FR (Nat.le_of_ble_eq_true rfl) ?_);unfold Tryz.x158;refine zo (zD.pm (S2:=[c]::[(bd,.cells #[.pointer (some ⟨db,0,none⟩)] 146)]::[(ba,.cells #[.int .i64 at_] 3)]::qH db v::H::S0) (by simp)) ?_;obtain⟨a0,c0,rfl⟩:=hL.isSlice;refine ze (ze (z8 ?_));refine zh (zB rfl rfl ?_);refine yp (wz rfl rfl) (zf (za (zx rfl (zq (za (ze (z8 ?_)))))));refine zh (zB rfl rfl ?_);refine yp (zM rfl) (yp (zn rfl) ?_);refine zh (zB rfl rfl ?_);refine zh (zk (o8 hL (by omega)) rfl rfl fun v S' h=>?_);obtain⟨H1,hL1,rfl⟩:=h;obtain⟨a1,c1,rfl⟩:=hL1.isSlice;refine yp (pS rfl) (zf (za (ze (z8 (yp (pS rfl) ?_)))));refine zh (zk (Bb hL1 hlen) rfl rfl fun v S' h=>?_);obtain⟨rfl,R,H2,hS,hl,hL2,rfl⟩:=h;have hR:=hS.eq;have hU:upto at_ L=R.filter fun e=>decide (Uk e≤at_):=by rw[upto, ←hR]
 rw[hU];rw[hU] at hround;clear hU hR;have hso:=hS.1;refine zf (za (ze (z8 (yp (pS rfl) (yp (ZM rfl) (yp pC (zf (za (zy ?_)))))))));refine Zb (σ:=Nat) (fun i E S=>Has E [(0,.func (.yield l) #[] #[]),(2,.pointer (some ⟨ba,0,none⟩)),(16,.slice a1 L.length c1),(17,.int .i64 L.length),(18,.int .i64 i)]∧i≤R.length∧(∀e∈R.take i,Uk e≤at_)∧∃T,J ((R.take i).map dB) T∧zD S ([(ba,.cells #[.int .i64 at_] 3)]::H2::T)) (fun i=>L.length-i) 0 ⟨⟨rfl,rfl,rfl,rfl,rfl,trivial⟩,Nat.zero_le _,by simp,[c]::(qH db (.slice a0 L.length c0)++H)::S0,hJ0,(zD.re (S1:=[(ba,.cells #[.int .i64 at_] 3)]::H2::[c]::qH db (.slice a0 L.length c0)::H::S0) (by simp))⟩ fun i E S ⟨hE,hi,hle,T,hJ,hK⟩=>?_
 obtain⟨E0,e0⟩:=zu hE; subst e0; clear hE;refine zo hK (ze (z8 (yp (ZP rfl rfl) (zf (za (ze ?_))))));refine zR rfl (fun h=>?_) (fun h=>?_)
 ·have hlt:i<R.length:=by omega
  obtain⟨bb,sp,fz,hz,rfl,hm,hc,rfl⟩:=hL2.at' (by intro h; simp[h] at hlt);have htk:R.take (i+1)=R.take i++[R[i]]:=by rw[List.take_add_one,List.getElem?_eq_getElem hlt]; rfl
  have hdr:R.drop i=R[i]::R.drop (i+1):=List.drop_eq_getElem_cons hlt;refine zq (za (ze (zy (ze (z8 (yp (zV rfl rfl (by omega)) ?_))))));refine zh (wC (l:=enc R[i]) rfl (vH hlt rfl) rfl ?_);refine zh (Z6 fun p6=>?_);refine zh (ZX rfl rfl rfl rfl rfl ?_);refine zf (za (ze (z8 (yp (zn rfl) ?_))));refine zh (zB rfl rfl ?_);refine zh (zB rfl rfl ?_);refine yp (uf rfl rfl) (yp (pB rfl) ?_);by_cases hat:at_<R[i].at_
  ·rw[decide_eq_true hat];refine zW rfl (zW rfl (zW rfl (zW rfl (zW rfl (zW rfl (zW rfl (yp (zK rfl rfl) (zf (za (zF rfl (zH (bret (zX (zX (bret ?_)))))))))))))));refine zG w9 ⟨T,.of,.inl ⟨_,?_,hJ⟩⟩;have h1:R.filter (fun e=>decide (Uk e≤at_))=R.take i:=by
    conv=>lhs; rw[←List.take_append_drop i R]
    rw[List.filter_append,List.filter_eq_self.2 (by intro e he; simpa using hle e he)];have:(R.drop i).filter (fun e=>decide (Uk e≤at_))=[]:=by
     rw[List.filter_eq_nil_iff];intro e he;have hp:=(List.pairwise_append.1 (by rw[List.take_append_drop]; exact hso:(R.take i++R.drop i).Pairwise _)).2.1;rw[hdr] at hp he;rcases List.mem_cons.1 he with rfl | he
     ·have h9:Uk R[i]=R[i].at_:=rfl;simp; omega
     ·have:=(List.pairwise_cons.1 hp).1 e he;have h9:Uk R[i]=R[i].at_:=rfl;simp; omega
    rw[this,List.append_nil]
   rw[h1]
  ·rw[decide_eq_false hat];refine zY rfl (Z7 (pF rfl) (zY rfl (Z7 (zn rfl) (zY rfl ?_))));have hle':∀e∈R.take (i+1),Uk e≤at_:=by
    intro e he;rw[htk] at he;rcases List.mem_append.1 he with he | he
    ·exact hle e he
    ·rw[List.mem_singleton.1 he]; show R[i].at_≤at_; omega
   have hV:(R.take i).map dB++[dB R[i]]<+:(R.filter fun e=>decide (Uk e≤at_)).map dB:=by
    have e1:(R.take i).map dB++[dB R[i]]=(R.take (i+1)).map dB:=by rw[htk,List.map_append]; rfl
    rw[e1];refine List.IsPrefix.map dB ?_
    conv=>rhs; rw[←List.take_append_drop (i+1) R]
    rw[List.filter_append,List.filter_eq_self.2 (by intro e he; simpa using hle' e he)];exact List.prefix_append _ _
   refine wC (l:=[.string ⟨R[i].k.n.toArray⟩,.int .i64 R[i].k.t]) rfl rfl rfl (zY rfl (Z7 (zn rfl) (zY rfl ?_)));refine(zB rfl rfl ?_);refine zY rfl ?_;refine XB (hround _ _ T hV hJ) rfl rfl fun b T' h=>?_
   rcases h with⟨rfl,hJ'⟩ | ⟨rfl,hJx⟩
   ·refine zY rfl (Z7 (Zd rfl) (yp (zQ rfl rfl) (zf (za (zx rfl (zq (zT (za (z8 (yp (Zj rfl rfl (by omega)) (yp (pI rfl) (zf (za ?_)))))))))))));refine⟨i+1,⟨⟨rfl,rfl,rfl,rfl,rfl,trivial⟩,by omega,hle',T',?_,.of⟩,by omega⟩;rw[htk,List.map_append]; exact hJ'
   ·refine zY rfl (Z7 (Zd rfl) (yp (zQ rfl rfl) (zf (za (zF rfl (zH (bret (zX (zX (bret ?_))))))))));exact zG w9 ⟨T',.of,.inr ⟨_,hJx⟩⟩
 ·refine Z0 (zI (zI (Z5 ?_)));refine ZW w9 ⟨T,.of,.inl ⟨_,?_,hJ⟩⟩;rw[List.take_of_length_le (by omega)] at hle ⊢;rw[List.filter_eq_self.2 (by intro e he; simpa using hle e he)]
end Go.Proofs.YtekgciopamkjlaaGreat
