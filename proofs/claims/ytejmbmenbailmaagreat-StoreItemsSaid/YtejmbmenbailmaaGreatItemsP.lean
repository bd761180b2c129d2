/- StoreItems, plainly. -/
import Derived.Test.YtejmbmenbailmaaGreatC2
import Derived.Test.YtejmbmenbailmaaGreatNml2
import Derived.Test.YtejmbmenbailmaaGreatStJ
namespace Go.Proofs.YtejmbmenbailmaaGreat
open Go.Xs
open Enc (enc)
def nB:Nat→Bs
 | 0=>[1,97,0]
 | 1=>[1,98,1,97,0]
 | _=>[1,98,0]
def tB(k:Nat):Int:=30+((k%2:Nat):Int)
def wP(k:Nat)(d:UInt8):St:=⟨nB (k/2),tB k,0,[0],[⟨nB (k/2),tB k,1,0,[d]⟩]⟩
def kB(k:Nat):Ky:=⟨nB (k/2),tB k⟩
theorem gT(q:Nat):wR (nB q)=true∧zB (nB q)=nB q∧1≤(nB q).length∧(nB q).length≤16:=by
 rcases q with _ | _ | q
 ·decide+kernel
 ·decide+kernel
 ·show wR [1,98,0]=true∧zB [1,98,0]=[1,98,0]∧1≤3∧3≤16;decide+kernel
theorem Dl(k:Nat):tB k=30∨tB k=31:=by unfold tB; omega
theorem uh(k:Nat)(d:UInt8):wD (wP k d)=0∧Zm (wP k d)=19∧Z8 (wP k d)=[nB (k/2),[0]]∧jg (wP k d)∧Zc (wP k d)=kB k∧Zo (wP k d)=wP k d:=by
 obtain⟨hn,hf,hl1,hl2⟩:=gT (k/2);have ht:=Dl k;have hv0:wR [0]=true:=by decide+kernel
 have hf0:zB [0]=[0]:=by decide+kernel
 have hsh:ZR (tB k)=none:=by
  unfold ZR;rw[if_neg (by omega),if_neg (by omega),if_neg (by omega),if_neg (by omega)]
 have hp:prt (tB k) [d]=[]:=VN hsh;have hdo:ZF (tB k) [d]=true:=by
  unfold ZF xO;rw[if_neg (by show ¬1000<1; omega),if_neg (by omega),if_neg (by omega),if_neg (by omega),hsh];rfl
 have hsz:Zm (wP k d)=19:=by
  unfold Zm wP WR;simp only[List.map_cons,List.map_nil,hp];rfl
 have hm:WW (wP k d)=true:=by
  unfold WW wP X3 yF;rcases ht with ht | ht<;>rw[ht] at hdo ⊢ <;>simp[hn,hv0,hdo]
 refine⟨?_,hsz,?_,⟨by show(nB (k/2)).length<_; omega,by show 1<_; omega,by show 1<_; omega,fun r hr=>?_⟩,?_,?_⟩
 ·unfold wD;rw[if_neg (by rw[hm]; decide),hsz,if_neg (by decide)]
 ·unfold Z8 wP Zv;simp only[List.map_cons,List.map_nil,hp]; rfl
 ·rw[List.mem_singleton.1 hr];exact⟨by show(nB (k/2)).length<_; omega,by show 1<_; omega⟩
 ·show fk ⟨nB (k/2),tB k⟩=kB k;unfold fk kB;rw[hf]
 ·unfold Zo wP WG;simp only[List.map_cons,List.map_nil,hp,hf,hf0];rfl
theorem J5{i j:Nat}(hj:j<6)(h:i<j):oD (kB i) (kB j):=by
 have h1:∀j,j<6→∀i,i<j→cmpL (wF (nB (i/2))) (wF (nB (j/2)))<0∨(cmpL (wF (nB (i/2))) (wF (nB (j/2)))=0∧tB i<tB j):=by decide+kernel
 exact h1 j hj i h
theorem ql{i j:Nat}(hi:i<6)(hj:j<6)(h:kB i=kB j):i=j:=by
 rcases Nat.lt_trichotomy i j with q | q | q
 ·exact absurd (h▸J5 hj q) (Ht.irr _)
 ·exact q
 ·exact absurd (h▸J5 hi q) (Ht.irr _)
/-- the item that was put last, at m - 1 -/
def Xx(k m:Nat):It:=⟨kB k,wP k (vV ((m:Int)-1)),((m:Int)-1).tmod 10,(m:Int)-1,99+(m:Int),0⟩
structure Yq(la:Nat→Nat)(S:Ss):Prop where
 kn:(keys S.I).Nodup
 all:∀i∈S.I,∃k,k<6∧la k≠0∧i=Xx k (la k)
 has:∀k,k<6→la k≠0→Xx k (la k)∈S.I
 v:S.V=[]
theorem Yq.nil:Yq (fun _=>0) nY:=⟨List.nodup_nil,fun i hi=>by simp at hi,fun k _ h=>absurd rfl h,rfl⟩
theorem Yq.ks{la:Nat→Nat}{S:Ss}(h:Yq la S):(keys S.I).Perm (((List.range 6).filter fun k=>decide (la k≠0)).map kB):=by
 refine Vk h.kn ?_ fun k=>?_
 ·have hp:((List.range 6).filter fun k=>decide (la k≠0)).Nodup:=(List.filter_sublist).nodup List.nodup_range;exact List.pairwise_map.2 (hp.imp_of_mem fun {a b} hx hy hne e=>hne (ql (List.mem_range.1 (List.mem_filter.1 hx).1) (List.mem_range.1 (List.mem_filter.1 hy).1) e))
 ·rw[List.mem_map];constructor
  ·intro hm;obtain⟨i,hi,rfl⟩:=List.mem_map.1 hm;obtain⟨k,hk6,h0,rfl⟩:=h.all i hi;exact⟨k,List.mem_filter.2 ⟨List.mem_range.2 hk6,decide_eq_true h0⟩,rfl⟩
  ·rintro⟨x,hx,rfl⟩;obtain⟨h1,h2⟩:=List.mem_filter.1 hx;exact List.mem_map.2 ⟨_,h.has x (List.mem_range.1 h1) (of_decide_eq_true h2),rfl⟩
theorem Yq.len{la:Nat→Nat}{S:Ss}(h:Yq la S):S.I.length=((List.range 6).filter fun k=>decide (la k≠0)).length:=by
 have:=h.ks.length_eq;unfold keys at this;rw[List.length_map,List.length_map] at this;exact this
theorem Yq.Ef{la:Nat→Nat}{S:Ss}(h:Yq la S):S.I.length≤6:=by
 rw[h.len];have:=List.length_filter_le (fun k=>decide (la k≠0)) (List.range 6);rw[List.length_range] at this;exact this
theorem Yq.Xl{la:Nat→Nat}{S:Ss}(h:Yq la S){k:Nat}(hk:k<6):vE S.I (kB k)=if la k=0 then none else some (Xx k (la k)):=by
 split
 ·next h0=>
  rw[Ws];intro hm;obtain⟨i,hi,e⟩:=List.mem_map.1 hm;obtain⟨j,hj,hj0,rfl⟩:=h.all i hi;have:j=k:=ql hj hk e;rw[this] at hj0;exact hj0 h0
 ·next h0=>exact pJ (i:=Xx k (la k)) h.kn (h.has k hk h0)
/-- in their order -/
theorem Yq.sp{la:Nat→Nat}{S:Ss}(h:Yq la S){L:List Ky}(hL:SP S L):L=((List.range 6).filter fun k=>decide (la k≠0)).map kB:=by
 refine List.Perm.eq_of_pairwise (le:=fun a b=>¬oD b a) ?_ hL.s ?_ (hL.p.trans h.ks)
 ·intro a b ha hb h1 h2;obtain⟨x,hx,rfl⟩:=List.mem_map.1 hb;obtain⟨y,hy,rfl⟩:=List.mem_map.1 ((hL.p.trans h.ks).mem_iff.1 ha);have hx6:=List.mem_range.1 (List.mem_filter.1 hx).1;have hy6:=List.mem_range.1 (List.mem_filter.1 hy).1;rcases Nat.lt_trichotomy x y with q | q | q
  ·exact absurd (J5 hy6 q) h1
  ·rw[q]
  ·exact absurd (J5 hx6 q) h2
 ·rw[List.pairwise_map];have hp:((List.range 6).filter fun k=>decide (la k≠0)).Pairwise (· < ·):=List.Pairwise.filter _ List.pairwise_lt_range;refine hp.imp_of_mem fun {a b} ha hb hab=>?_
  exact Ht.asymm _ _ (J5 (List.mem_range.1 (List.mem_filter.1 hb).1) hab)
/-! ### there is always room -/
theorem iW{A:List Bs}{L:List Bs}(hd:L.Nodup)(hs:∀n∈L,n∈A){f:Bs→Nat}{c:Nat}(hc:∀n∈A,f n≤c):(L.map f).sum≤A.length*c:=by
 have hl:=hd.length_le_of_subset (fun x hx=>hs x hx:L ⊆ A);have:∀L:List Bs,(∀n∈L,f n≤c)→(L.map f).sum≤L.length*c:=by
  intro L
  induction L with
  | nil=>intro _; exact Nat.zero_le _
  | cons n L ih=>
   intro h;have h1:=ih fun x hx=>h x (List.mem_cons_of_mem _ hx)
   have h2:=h n (by simp);rw[List.map_cons,List.sum_cons,List.length_cons,Nat.succ_mul];omega
 exact Nat.le_trans (this L fun n hn=>hc n (hs n hn)) (Nat.mul_le_mul_right _ hl)
theorem tJ{I:List It}(hI:∀i∈I,∃k d,i.s=wP k d)(hl:I.length≤6):VL (sets I)≤400:=by
 unfold VL;have h1:((dd (aR (sets I))).map fun n=>zY (8+n.length)).sum≤4*32:=by
  refine iW (A:=[nB 0,nB 1,nB 2,[0]]) (uZ _) (fun n hn=>?_) (fun n hn=>?_)
  ·rw[KT,KD] at hn;obtain⟨s,hs,hn⟩:=hn;obtain⟨i,hi,rfl⟩:=List.mem_map.1 hs;obtain⟨k,d,he⟩:=hI i hi;rw[he,(uh k d).2.2.1,List.map_cons,List.map_cons,List.map_nil,(gT _).2.1,show zB [0]=[0] by decide+kernel] at hn;rcases List.mem_cons.1 hn with rfl | hn
   ·rcases k/2 with _ | _ | q
    ·simp
    ·simp
    ·show [1,98,0]∈_;simp[nB]
   ·rw[List.mem_singleton.1 hn]; simp
  ·have:∀n∈[nB 0,nB 1,nB 2,[0]],1≤n.length∧n.length≤16:=by decide
   have:=this n hn;rw[vM (by omega)];exact Nat.le_refl _
 have h2:((sets I).map fun s=>zY (Zm s).toNat).sum=32*(sets I).length:=vD fun s hs=>by
  obtain⟨i,hi,rfl⟩:=List.mem_map.1 hs;obtain⟨k,d,he⟩:=hI i hi;rw[he,(uh k d).2.1];exact vM (by decide)
 have h3:(sets I).length=I.length:=List.length_map _;omega
theorem Bq(I:List St)(k:Nat)(d:UInt8):vY I (wP k d)≤96:=by
 obtain⟨h1,h2,h3,_⟩:=uh k d;have hn:=gT (k/2);unfold vY;rw[if_pos h1,h2,h3];have hc:cost 19=32:=by decide
 have hj:U2 (aR I) [] [nB (k/2),[0]]≤64:=by
  unfold U2 U2 U2;have c1:zY (8+(nB (k/2)).length)=32:=vM (by omega);have c2:zY (8+([0]:Bs).length)=32:=vM (by decide);rw[c1,c2];split<;>split<;>omega
 omega
theorem A8{I:List It}{P Q V:List Ky}(hI:∀i∈I,∃k d,i.s=wP k d)(hl:I.length≤6)(k:Nat)(d:UInt8):¬uX 16384 ⟨I,P,Q,V⟩<vY (sets (⟨I,P,Q,V⟩:Ss).I) (wP k d):=by
 have h1:=tJ hI hl;have h2:=Bq (sets I) k d;unfold uX;show ¬((16384-VL (sets I):Nat):Int)<vY (sets I) (wP k d);omega
abbrev WC(la:Nat→Nat)(k m:Nat):Nat→Nat:=fun j=>if j=k then m else la j
theorem Yq.sB{la:Nat→Nat}{S:Ss}(h:Yq la S):∀i∈S.I,∃k d,i.s=wP k d:=fun i hi=>by
 obtain⟨k,_,_,rfl⟩:=h.all i hi;exact⟨k,_,rfl⟩
theorem Yq.put{la:Nat→Nat}{S:Ss}(h:Yq la S){k i:Nat}(hk:k<6)(hi:i<1000){R:Ss × Int}(hR:uV 16384 (wP k (vV (i:Int))) ((i:Int).tmod 10) (i:Int) (100+(i:Int)) S=R):
 R.2=0∧Yq (WC la k (i+1)) R.1:=by
 subst hR;obtain⟨h1,h2,h3,h4,h5,_⟩:=uh k (vV (i:Int));have hok:Jy ((i:Int).tmod 10) (i:Int) (100+(i:Int))=true:=(nV _ _ _).2 (by
  rw[show(i:Int).tmod 10=((i%10:Nat):Int) from rfl]; omega)
 have hb:=h.Xl hk;have hit:Xx k (i+1)=⟨kB k,wP k (vV (i:Int)),(i:Int).tmod 10,(i:Int),100+(i:Int),0⟩:=by
  unfold Xx;rw[show(((i+1:Nat):Int)-1)=(i:Int) from by omega,show 99+((i+1:Nat):Int)=100+(i:Int) from by omega]
 -- what is made of a store without the key
 have key:∀S':Ss,Yq (WC la k 0) S'→Ul 16384 (kB k) (wP k (vV (i:Int))) ((i:Int).tmod 10) (i:Int) (100+(i:Int)) S'=(⟨S'.I++[Xx k (i+1)],S'.P++[kB k],S'.Q,S'.V⟩,0)∧Yq (WC la k (i+1)) ⟨S'.I++[Xx k (i+1)],S'.P++[kB k],S'.Q,S'.V⟩:=fun S' h'=>by
  rw[hit];refine⟨JN (A8 (I:=S'.I) (P:=S'.P) (Q:=S'.Q) (V:=S'.V) h'.sB h'.Ef k _),?_,fun x hx=>?_,fun j hj hj0=>?_,h'.v⟩
  ·have hno:=h'.Xl hk;rw[if_pos (if_pos rfl),Ws] at hno;show(keys (S'.I++[_])).Nodup;unfold keys;rw[List.map_append];exact List.nodup_append.2 ⟨h'.kn,by simp,fun a ha b hb q=>by simp at hb; exact hno (by rw[←hb, ←q]; exact ha)⟩
  ·rcases List.mem_append.1 hx with hx | hx
   ·obtain⟨j,hj,hj0,rfl⟩:=h'.all x hx;by_cases hjk:j=k
    ·exact absurd (if_pos hjk) hj0
    ·refine⟨j,hj,?_,?_⟩
     ·rw[show WC la k 0 j=la j from if_neg hjk] at hj0;rw[show WC la k (i+1) j=la j from if_neg hjk]; exact hj0
     ·rw[show WC la k 0 j=la j from if_neg hjk,show WC la k (i+1) j=la j from if_neg hjk]
   ·refine⟨k,hk,?_,?_⟩
    ·rw[show WC la k (i+1) k=i+1 from if_pos rfl]; omega
    ·rw[List.mem_singleton.1 hx,show WC la k (i+1) k=i+1 from if_pos rfl,hit]
  ·by_cases hjk:j=k
   ·subst hjk;rw[show WC la j (i+1) j=i+1 from if_pos rfl,hit];exact List.mem_append.2 (.inr (List.mem_singleton.2 rfl))
   ·rw[show WC la k (i+1) j=la j from if_neg hjk] at hj0 ⊢;have:=h'.has j hj (by rw[show WC la k 0 j=la j from if_neg hjk]; exact hj0);rw[show WC la k 0 j=la j from if_neg hjk] at this;exact List.mem_append.2 (.inl this)
 have hP0:uV 16384 (wP k (vV (i:Int))) ((i:Int).tmod 10) (i:Int) (100+(i:Int)) S=jQ 16384 (wP k (vV (i:Int))) ((i:Int).tmod 10) (i:Int) (100+(i:Int)) S:=by
  unfold uV;rw[if_neg (by rw[h1]; decide),if_neg (by rw[hok]; decide)]
 rw[hP0];by_cases h0:la k=0
 ·rw[if_pos h0] at hb;rw[X5 (by rw[h5]; exact hb),h5];have hla:WC la k 0=la:=by
   funext j;by_cases hj:j=k
   ·show(if j=k then 0 else la j)=la j;rw[if_pos hj,hj,h0]
   ·exact if_neg hj
  obtain⟨k1,k2⟩:=key S (by rw[hla]; exact h);rw[k1];exact⟨rfl,k2⟩
 ·rw[if_neg h0] at hb;rw[X4 (i:=Xx k (la k)) (by rw[h5]; exact hb),h5,if_neg (show ¬0<(Xx k (la k)).pins from by show ¬(0:Int)<0; decide)];have hg:Yq (WC la k 0) (xI (kB k) S):=by
   refine⟨((vH S.I (kB k)).map _).nodup h.kn,fun x hx=>?_,fun j hj hj0=>?_,h.v⟩
   ·obtain⟨hx1,hx2⟩:=List.mem_filter.1 hx;obtain⟨j,hj,hj0,rfl⟩:=h.all x hx1;have hjk:j≠k:=fun e=>by subst e; simp[Xx] at hx2
    exact⟨j,hj,by rw[show WC la k 0 j=la j from if_neg hjk]; exact hj0,by rw[show WC la k 0 j=la j from if_neg hjk]⟩
   ·by_cases hjk:j=k
    ·exact absurd (if_pos hjk) hj0
    ·rw[show WC la k 0 j=la j from if_neg hjk] at hj0 ⊢;refine List.mem_filter.2 ⟨h.has j hj hj0,?_⟩;have:(Xx j (la j)).k≠kB k:=fun e=>hjk (ql hj hk e)
     simpa using this
  obtain⟨k1,k2⟩:=key _ hg;rw[k1];exact⟨rfl,k2⟩
end Go.Proofs.YtejmbmenbailmaaGreat