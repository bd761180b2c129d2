/- Stores (chapter 10), plainly: what is there, who goes next, what each act makes of it. Stores (chapter 10): their memory; New, Used, Left, Count, Evicted. Stores (chapter 10): find, item, gone, evict. Stores (chapter 10): gone, evict, Drop, pin, Peek, Get. Stores (chapter 10): Drop, Pin, Unpin, Peek, Get. Stores (chapter 10): Peek, Get. Stores (chapter 10): who goes next. Stores (chapter 10): Put. Stores (chapter 10): Sweep. -/
import Derived.Test.YtejmbmenbailmaaGreatP4
import Derived.Test.YtejmbmenbailmaaGreatL1
import Derived.Test.YtejmbmenbailmaaGreatI1
import Derived.Test.YtejmbmenbailmaaGreatFStore
namespace Go.Proofs.YtejmbmenbailmaaGreat
open Go.Xs
open Enc (enc)
structure Ptr where
 a:Option Nat
instance:Vv Ptr:=⟨fun p=> .pointer (p.a.map fun b=>⟨b,0,none⟩)⟩
/-- an item -/
structure It where
 k:Ky
 s:St
 rank:Int
 came:Int
 exp:Int
 pins:Int
/-- .. its handle, its names' handles, its place -/
structure En where
 i:It
 h:Int
 ids:List Int
 eb:Nat
def En.z(e:En):LS:=⟨e.h,e.i.s,e.ids⟩
def It.de(i:It):De:=⟨i.k,i.exp⟩
def fk(k:Ky):Ky:=⟨zB k.n,k.t⟩
structure Ss where
 I:List It
 P:List Ky
 Q:List Ky
 V:List Ky
def keys(I:List It):List Ky:=I.map (·.k)
def sets(I:List It):List St:=I.map (·.s)
def vE(I:List It)(k:Ky):Option It:=I.find? fun i=>decide (i.k=k)
def Vj(I:List It)(k:Ky):List It:=I.filter fun i=> !decide (i.k=k)
def free(I:List It)(k:Ky):Bool:=match vE I k with | some i=>decide (i.pins=0) | none=>false
def xI(k:Ky)(S:Ss):Ss:=⟨Vj S.I k,S.P.erase k,S.Q.erase k,S.V⟩
def bX(k:Ky)(S:Ss):Ss:=⟨Vj S.I k,S.P.erase k,S.Q.erase k,S.V++[k]⟩
def due(now:Int)(I:List It):List Ky:=(upto now (I.map It.de)).map (·.k)
def VT(now:Int)(S:Ss):Option Ky:=(due now S.I++(S.P++S.Q)).find? (free S.I)
def uX(N:Nat)(S:Ss):Int:=((N-VL (sets S.I):Nat):Int)
def uU(N:Nat)(now:Int)(s:St):Nat→Ss→Ss × Bool
 | 0,S=>(S,decide (vY (sets S.I) s≤uX N S))
 | f+1,S=>if uX N S<vY (sets S.I) s then(match VT now S with | none=>(S,false) | some k=>uU N now s f (bX k S)) else(S,true)
def Ul(N:Nat)(k:Ky)(s:St)(rank now exp:Int)(S:Ss):Ss × Int:=match uU N now s S.I.length S with
 | (S',true)=>(⟨S'.I++[⟨k,s,rank,now,exp,0⟩],S'.P++[k],S'.Q,S'.V⟩,0)
 | (S',false)=>(S',4)
def Jv(n most:Int):Bool:=decide (0≤n) && decide (n≤most)
def Jy(rank now exp:Int):Bool:=Jv now 1099511627776 && Jv exp 1099511627776 && !decide (exp≤now) && Jv rank 9
def Zc(s:St):Ky:=fk ⟨s.name,s.typ⟩
def jQ(N:Nat)(s:St)(rank now exp:Int)(S:Ss):Ss × Int:=match vE S.I (Zc s) with
 | some i=>if 0<i.pins then(S,6) else Ul N (Zc s) s rank now exp (xI (Zc s) S)
 | none=>Ul N (Zc s) s rank now exp S
theorem X4{N:Nat}{s:St}{rank now exp:Int}{S:Ss}{i:It}(h:vE S.I (Zc s)=some i):jQ N s rank now exp S=if 0<i.pins then(S,6) else Ul N (Zc s) s rank now exp (xI (Zc s) S):=by unfold jQ; rw[h]
theorem X5{N:Nat}{s:St}{rank now exp:Int}{S:Ss}(h:vE S.I (Zc s)=none):jQ N s rank now exp S=Ul N (Zc s) s rank now exp S:=by unfold jQ; rw[h]
def uV(N:Nat)(s:St)(rank now exp:Int)(S:Ss):Ss × Int:=
 if wD s≠0 then(S,wD s) else if Jy rank now exp=false then(S,1) else jQ N s rank now exp S
/-! ### who is there -/
def XF(W:List En)(k:Ky):Option En:=W.find? fun e=>decide (e.i.k=k)
def UL(W:List En)(k:Ky):Option Ptr:=(XF W k).map fun e=>⟨some e.eb⟩
def xw(W:List En)(k:Ky):List En:=W.filter fun e=> !decide (e.i.k=k)
theorem xJ{W:List En}{k:Ky}{e:En}(h:XF W k=some e):e∈W∧e.i.k=k:=⟨List.mem_of_find?_eq_some h,by simpa using List.find?_some h⟩
theorem iM{W:List En}{k:Ky}(h:XF W k=none):k ∉ keys (W.map (·.i)):=fun hk=>by
 obtain⟨i,hi,rfl⟩:=List.mem_map.1 hk;obtain⟨e,he,rfl⟩:=List.mem_map.1 hi;have:=List.find?_eq_none.1 h e he;simp at this
theorem aj(W:List En)(k:Ky):vE (W.map (·.i)) k=(XF W k).map (·.i):=by
 unfold vE XF;rw[List.find?_map];rfl
theorem Jj{I:List It}{k:Ky}{i:It}(h:vE I k=some i):i∈I∧i.k=k:=⟨List.mem_of_find?_eq_some h,by simpa using List.find?_some h⟩
theorem pJ{I:List It}(hn:(keys I).Nodup){i:It}(hi:i∈I):vE I i.k=some i:=by
 induction I with
 | nil=>simp at hi
 | cons j I ih=>
  have hn2:=List.nodup_cons.1 hn;unfold vE;rw[List.find?_cons];rcases List.mem_cons.1 hi with rfl | hi
  ·rw[decide_eq_true rfl]
  ·have:j.k≠i.k:=fun e=>hn2.1 (by rw[show(keys I)=I.map (·.k) from rfl] at*; exact List.mem_map.2 ⟨i,hi,e.symm⟩)
   rw[decide_eq_false this];exact ih hn2.2 hi
theorem Ws{I:List It}{k:Ky}:vE I k=none↔k ∉ keys I:=by
 unfold vE;rw[List.find?_eq_none];constructor
 ·intro h hk;obtain⟨i,hi,rfl⟩:=List.mem_map.1 hk;have:=h i hi;simp at this
 ·intro h i hi;have:i.k≠k:=fun e=>h (List.mem_map.2 ⟨i,hi,e⟩)
  simpa using this
theorem AA(W:List En)(k:Ky):(xw W k).map (·.i)=Vj (W.map (·.i)) k:=by
 unfold xw Vj;rw[List.filter_map];rfl
theorem Ug(I:List It)(k:Ky):keys (Vj I k)=(keys I).filter fun x=> !decide (x=k):=by
 unfold Vj keys;rw[List.filter_map];rfl
theorem iP{W:List En}{k x:Ky}(h:x≠k):XF (xw W k) x=XF W x:=by
 unfold XF xw
 induction W with
 | nil=>rfl
 | cons e W ih=>
  rw[List.filter_cons,List.find?_cons];by_cases hk:e.i.k=k
  ·rw[if_neg (by simp[hk]),ih,decide_eq_false (show ¬e.i.k=x from fun q=>h (q.symm.trans hk))]
  ·rw[if_pos (by simp[hk]),List.find?_cons,ih]
theorem bB(W:List En)(k:Ky):XF (xw W k) k=none:=by
 unfold XF;rw[List.find?_eq_none];intro e he;have:=(List.mem_filter.1 he).2;simpa using this
theorem oQ(W:List En)(k:Ky):UL (xw W k)=wQ (UL W) k none:=by
 funext x;unfold UL wQ;split
 ·next e=>rw[e,bB]; rfl
 ·next e=>rw[iP e]
theorem oW{W:List En}{e:En}(h:XF W e.i.k=none):UL (W++[e])=wQ (UL W) e.i.k (some ⟨some e.eb⟩):=by
 funext x;unfold UL wQ XF;rw[List.find?_append,List.find?_singleton];by_cases q:x=e.i.k
 ·subst q;have h2:W.find? (fun y=>decide (y.i.k=e.i.k))=none:=h;rw[if_pos rfl,if_pos (decide_eq_true rfl),h2];rfl
 ·rw[if_neg q,if_neg (by simpa using fun r=>q r.symm),Option.or_none]
theorem fU{W:List En}{k:Ky}(h:∀e∈W,e.i.k≠k):xw W k=W:=List.filter_eq_self.2 fun e he=>by simpa using h e he
/-- one of them, and the others -/
theorem WU:∀{W:List En} {e:En},(keys (W.map (·.i))).Nodup→e∈W→∃A B,W=A++e::B∧xw W e.i.k=A++B
 | y::W,e,hn,he=>by
  have hn2:=List.nodup_cons.1 hn;rcases List.mem_cons.1 he with rfl | he
  ·refine⟨[],W,rfl,?_⟩;unfold xw;rw[List.filter_cons,if_neg (by simp)];exact fU fun x hx q=>hn2.1 (List.mem_map.2 ⟨x.i,List.mem_map.2 ⟨x,hx,rfl⟩,q⟩)
  ·obtain⟨A,B,h1,h2⟩:=WU hn2.2 he;refine⟨y::A,B,by rw[h1]; rfl,?_⟩;have:y.i.k≠e.i.k:=fun q=>hn2.1 (List.mem_map.2 ⟨e.i,List.mem_map.2 ⟨e,he,rfl⟩,q.symm⟩)
   unfold xw at h2 ⊢;rw[List.filter_cons,if_pos (by simpa using this),h2]; rfl
theorem kS:∀{I:List It} {k:Ky},(keys I).Nodup→Vx k (I.map It.de)=(Vj I k).map It.de
 | [],_,_=>rfl
 | i::I,k,hn=>by
  have hn2:=List.nodup_cons.1 hn;have ih:=kS (k:=k) hn2.2;unfold Vx at ih ⊢;unfold Vj at ih ⊢;rw[List.map_cons,idx];by_cases hk:i.k=k
  ·rw[if_pos (show i.de.k=k from hk),List.filter_cons,if_neg (by simp[hk])];have:I.filter (fun i=> !decide (i.k=k))=I:=List.filter_eq_self.2 fun j hj=>by
    have:j.k≠k:=fun e=>hn2.1 (List.mem_map.2 ⟨j,hj,e.trans hk.symm⟩)
    simpa using this
   rw[this]; rfl
  ·rw[if_neg (show ¬i.de.k=k from hk),List.filter_cons,if_pos (by simp[hk])];cases hx:idx k (I.map It.de) with
   | none=>rw[hx] at ih; simp only[Option.map_none,List.map_cons]; rw[←ih]
   | some j=>rw[hx] at ih; simp only[Option.map_some,List.map_cons,List.eraseIdx_cons_succ]; rw[←ih]
theorem qC{I:List It}{k:Ky}(h:vE I k=none):Vx k (I.map It.de)=I.map It.de:=by
 have:∀J:List It,k ∉ keys J→idx k (J.map It.de)=none:=fun J=>by
  induction J with
  | nil=>intro _; rfl
  | cons i J ih=>
   intro hk;have h1:i.de.k≠k:=fun e=>hk (List.mem_map.2 ⟨i,by simp,e⟩)
   rw[List.map_cons,idx,if_neg h1,ih fun hj=>hk (List.mem_cons_of_mem _ hj)]; rfl
 unfold Vx;rw[this I (Ws.1 h)]
theorem qy{P Q:List Ky}{I:List It}{k:Ky}(hn:(keys I).Nodup)(h:(P++Q).Perm (keys I)):(P.erase k++Q.erase k).Perm (keys (Vj I k)):=by
 have hp:=h.nodup_iff.2 hn;obtain⟨h1,h2,_⟩:=List.nodup_append.1 hp;rw[Ug,h1.erase_eq_filter,h2.erase_eq_filter, ←List.filter_append];have:=h.filter fun x=> !decide (x=k)
 refine .trans (.of_eq ?_) this;congr 1
theorem dP{m:Int}{P Q:List Ky}{k:Ky}(hn:(P++Q).Nodup)(hk:k∈P∨k∈Q):(YC m k P Q++YB m k P Q).Perm (P++Q):=by
 have h0:(P.erase k++(Q.erase k++[k])).Perm (P++Q):=by
  obtain⟨h1,h2,h3⟩:=List.nodup_append.1 hn;rcases hk with hk | hk
  ·have hq:k ∉ Q:=fun q=>h3 k hk k q rfl
   rw[List.erase_of_not_mem hq];refine .trans ?_ ((List.perm_cons_erase hk).symm.append_right Q);rw[←List.append_assoc];exact List.perm_append_singleton _ _
  ·have hp:k ∉ P:=fun p=>h3 k p k hk rfl
   rw[List.erase_of_not_mem hp];refine .append_left P (.trans ?_ (List.perm_cons_erase hk).symm);exact List.perm_append_singleton _ _
 unfold YC YB;rw[if_pos hk,if_pos hk];split
 ·next hm=>
  refine .trans ?_ h0;rw[List.append_assoc];refine .append_left _ ?_;cases hQ:Q.erase k++[k] with
  | nil=>simp at hQ
  | cons x l=>simp
 ·exact h0
/-! ### what is there, by the arena's blocks -/
theorem Pk.O7{D:List (Option Bt)}{L:List Nm}{Z Z':List LS}(h:Pk D L Z)(p:Z.Perm Z'):Pk D L Z':=by
 have pB:(Yp Z).Perm (Yp Z'):=p.map _;refine⟨⟨h.inn.dis,h.inn.blk,fun x hx=>h.inn.oth x (pB.mem_iff.2 hx),fun i b hb=>(h.inn.all i b hb).imp id fun⟨x,hx,h2⟩=>⟨x,pB.mem_iff.1 hx,h2⟩,h.inn.us,h.inn.fold⟩,⟨h.liv.dis,fun e he=>?_,h.liv.pos,fun i hi=>h.liv.ids i ?_⟩,?_,fun z hz=>h.ok z (p.mem_iff.2 hz)⟩
 ·rw[h.liv.us e he];exact((p.map _).flatten).count_eq _
 ·exact((p.map _).flatten).mem_iff.2 hi
 ·exact(pB.map _).nodup_iff.1 h.hs
structure Sq(S:Ss)(W:List En)(D:List (Option Bt))(L:List Nm):Prop where
 its:W.map (·.i)=S.I
 pk:Pk D L (W.map En.z)
 kn:(keys S.I).Nodup
 kz:∀i∈S.I,i.k=Zc i.s
 pq:(S.P++S.Q).Perm (keys S.I)
 pn:∀i∈S.I,0≤i.pins∧i.pins≤1000
theorem Sq.sets{S:Ss}{W:List En}{D:List (Option Bt)}{L:List Nm}(h:Sq S W D L):(W.map En.z).map (·.s)=sets S.I:=by
 unfold Go.Proofs.YtejmbmenbailmaaGreat.sets;rw[←h.its,List.map_map,List.map_map];rfl
theorem Sq.used{S:Ss}{W:List En}{D:List (Option Bt)}{L:List Nm}(h:Sq S W D L):Ze D=VL (Go.Proofs.YtejmbmenbailmaaGreat.sets S.I):=by rw[h.pk.use,h.sets]
theorem Sq.left{N:Nat}{S:Ss}{W:List En}{D:List (Option Bt)}{L:List Nm}(h:Sq S W D L):((N-Ze D:Nat):Int)=uX N S:=by rw[h.used]; rfl
theorem Sq.cost{S:Ss}{W:List En}{D:List (Option Bt)}{L:List Nm}(h:Sq S W D L)(s:St):U0 L s=vY (Go.Proofs.YtejmbmenbailmaaGreat.sets S.I) s:=by rw[h.pk.cst,h.sets]
theorem Sq.few{N:Nat}{S:Ss}{W:List En}{D:List (Option Bt)}{L:List Nm}(h:Sq S W D L)(hN:Ze D≤N):16*W.length≤N:=by
 have h1:=h.pk.inn.used h.pk.hs;have h2:∀B:List (Int × Bs),16*B.length≤(B.map fun x=>zY x.2.length).sum:=fun B=>by
  induction B with
  | nil=>exact Nat.le_refl _
  | cons x B ih=>
   have:=Yc x.2.length;rw[List.map_cons,List.sum_cons,List.length_cons]; omega
 have h3:=h2 (Yp (W.map En.z));have h4:(Yp (W.map En.z)).length=W.length:=by unfold Yp; simp
 omega
theorem BA{L:List Nm}{Z:List LS}(h:∀z∈Z,wD z.s=0∧jg z.s∧Al L z.ids ((Z8 z.s).map zB)):(jh Z).length≤66*Z.length:=by
 induction Z with
 | nil=>exact Nat.le_refl _
 | cons z Z ih=>
  have h1:=ih fun y hy=>h y (List.mem_cons_of_mem _ hy)
  obtain⟨h2,_,h3⟩:=h z (by simp);have h4:=h3.len;have h5:=VQ z.s;have h6:=(VW (Vo h2).1).2.2.2.2.2.2.1;rw[List.length_map] at h4;unfold jh at h1 ⊢;rw[List.map_cons,List.flatten_cons,List.length_append,List.length_cons];omega
theorem Sq.us{N:Nat}{S:Ss}{W:List En}{D:List (Option Bt)}{L:List Nm}(h:Sq S W D L)(hN:Ze D≤N)(hb:N≤1048576):∀e∈L,e.u<2 ^ 50:=fun e he=>by
 have h1:=h.few hN;have h2:=BA (L:=L) h.pk.ok;rw[List.length_map] at h2;have:=h.pk.us h2 e he;omega
theorem Sq.len{S:Ss}{W:List En}{D:List (Option Bt)}{L:List Nm}(h:Sq S W D L):W.length=S.I.length∧S.P.length+S.Q.length=S.I.length:=by
 refine⟨by rw[←h.its,List.length_map],?_⟩;have:=h.pq.length_eq;rw[List.length_append] at this;unfold keys at this;rw[List.length_map] at this;exact this
theorem Sq.AZ{S:Ss}{W:List En}{D:List (Option Bt)}{L:List Nm}(h:Sq S W D L):(keys (W.map (·.i))).Nodup:=by rw[h.its]; exact h.kn
theorem Sq.Hu{S:Ss}{W:List En}{D:List (Option Bt)}{L:List Nm}(h:Sq S W D L){e:En}(he:e∈W):uy (W.map En.z) e.h=(xw W e.i.k).map En.z:=by
 obtain⟨A,B,h1,h2⟩:=WU h.AZ he;rw[h2,h1];have hh:=h.pk.hs;unfold Hs Yp at hh;rw[h1,List.map_map,List.map_map,List.map_append,List.map_cons] at hh;obtain⟨_,h4,h5⟩:=List.nodup_append.1 hh;have h6:=(List.nodup_cons.1 h4).1;unfold uy;rw[List.map_append,List.filter_append,List.map_cons,List.filter_cons,if_neg (by show ¬((En.z e).h !=e.h)=true; simp[En.z]),List.map_append];congr 1
 ·refine List.filter_eq_self.2 fun z hz=>?_
  obtain⟨y,hy,rfl⟩:=List.mem_map.1 hz;have:y.h≠e.h:=h5 y.h (List.mem_map.2 ⟨y,hy,rfl⟩) e.h (by show e.h∈e.h::_; exact List.mem_cons_self);simpa[En.z] using this
 ·refine List.filter_eq_self.2 fun z hz=>?_
  obtain⟨y,hy,rfl⟩:=List.mem_map.1 hz;have:y.h≠e.h:=fun q=>h6 (List.mem_map.2 ⟨y,hy,q⟩)
  simpa[En.z] using this
theorem vH(I:List It)(k:Ky):(Vj I k).Sublist I:=List.filter_sublist
theorem Sq.gone{S:Ss}{W:List En}{D D':List (Option Bt)}{L:List Nm}(h:Sq S W D L){e:En}(he:e∈W)(hI:vg D' (drops L e.ids) (jU (Yp (W.map En.z)) e.h)):Sq (xI e.i.k S) (xw W e.i.k) D' (drops L e.ids):=by
 have hz:e.z∈W.map En.z:=List.mem_map.2 ⟨e,he,rfl⟩;have h1:=h.pk.drop hz hI;have h2:uy (W.map En.z) e.z.h=_:=h.Hu he;rw[h2] at h1;refine⟨?_,h1,?_,fun i hi=>h.kz i ((vH _ _).subset hi),qy h.kn h.pq,fun i hi=>h.pn i ((vH _ _).subset hi)⟩
 ·rw[AA,h.its]; rfl
 ·exact((vH S.I e.i.k).map _).nodup h.kn
theorem Sq.ev{S:Ss}{W:List En}{D:List (Option Bt)}{L:List Nm}{V:List Ky}(h:Sq S W D L):Sq ⟨S.I,S.P,S.Q,V⟩ W D L:=⟨h.its,h.pk,h.kn,h.kz,h.pq,h.pn⟩
theorem Sq.touch{S:Ss}{W:List En}{D:List (Option Bt)}{L:List Nm}{m:Int}{k:Ky}(h:Sq S W D L)(hk:k∈keys S.I):Sq ⟨S.I,YC m k S.P S.Q,YB m k S.P S.Q,S.V⟩ W D L:=
 ⟨h.its,h.pk,h.kn,h.kz,.trans (dP (h.pq.nodup_iff.2 h.kn) (List.mem_append.1 (h.pq.mem_iff.2 hk))) h.pq,h.pn⟩
theorem Sq.nil:Sq ⟨[],[],[],[]⟩ [] [] []:=⟨rfl,Pk.nil,List.nodup_nil,fun i hi=>by simp at hi,.nil,fun i hi=>by simp at hi⟩
theorem Sq.put{N:Nat}{S:Ss}{W:List En}{D D':List (Option Bt)}{L:List Nm}(h:Sq S W D L){s:St}(hE:wD s=0)(hs:jg s)(he:(wJ N D L (Z8 s)).e=0)
 (hI:vg D' (wJ N D L (Z8 s)).L ((((hnd (wJ N D L (Z8 s)).D:Nat):Int),Wu s (wJ N D L (Z8 s)).ids)::Yp (W.map En.z))) (hh:Hs ((((hnd (wJ N D L (Z8 s)).D:Nat):Int),Wu s (wJ N D L (Z8 s)).ids)::Yp (W.map En.z)))
 (hk:vE S.I (Zc s)=none) (rank came exp:Int) (eb:Nat):
 Sq ⟨S.I++[⟨Zc s,s,rank,came,exp,0⟩],S.P++[Zc s],S.Q,S.V⟩ (W++[⟨⟨Zc s,s,rank,came,exp,0⟩,((hnd (wJ N D L (Z8 s)).D:Nat):Int),(wJ N D L (Z8 s)).ids,eb⟩]) D' (wJ N D L (Z8 s)).L:=by
 have h1:=h.pk.put hE hs he hI hh;refine⟨by rw[List.map_append,h.its]; rfl,?_,?_,?_,?_,?_⟩
 ·rw[List.map_append];exact h1.O7 (List.perm_append_singleton _ _).symm
 ·unfold keys;rw[List.map_append];refine List.nodup_append.2 ⟨h.kn,by simp,fun a ha b hb q=>?_⟩;simp at hb;exact Ws.1 hk (by rw[←hb, ←q]; exact ha)
 ·intro i hi;rcases List.mem_append.1 hi with hi | hi
  ·exact h.kz i hi
  ·rw[List.mem_singleton.1 hi]
 ·unfold keys;rw[List.map_append];have:((S.P++[Zc s])++S.Q).Perm ((S.P++S.Q)++[Zc s]):=by
   rw[List.append_assoc,List.append_assoc];exact .append_left _ List.perm_append_comm
  exact this.trans (h.pq.append_right _)
 ·intro i hi;rcases List.mem_append.1 hi with hi | hi
  ·exact h.pn i hi
  ·rw[List.mem_singleton.1 hi];exact⟨Int.le_refl 0,by show(0:Int)≤1000; omega⟩
theorem uO:Tryz.prog.underlying 127=some (.map 43 135):=by kernel_rfl
theorem lV:Key.ok Ky Tryz.prog 43:=show sD Tryz.prog 43=true by kernel_rfl
theorem pX:(Tryz.prog.info? 135).bind (·.zero)=some (.pointer none):=by kernel_rfl
theorem pQ:isAgg? Tryz.prog 43=some true:=by kernel_rfl
abbrev Oa(e:En):Array Value:= #[.int .i64 e.h,.int .i64 e.i.rank,.int .i64 e.i.came,.int .i64 e.i.exp,.int .i64 e.i.pins]
abbrev KP(e:En):List Chunk:=[(e.eb,.cells (Oa e) 137)]
def Es(W:List En):zu:=W.map KP
theorem qW(A B:List En):Es (A++B)=Es A++Es B:=List.map_append
theorem Xo{W:List En}{e:En}(h:e∈W):KP e∈Es W:=List.mem_map.2 ⟨e,h,rfl⟩
abbrev wm(sb ab tb mb lb db:Nat)(ev:Value):List Chunk:=[(sb,.cells #[.pointer (some ⟨ab,0,none⟩),.pointer (some ⟨tb,0,none⟩),.map (some mb),.pointer (some ⟨lb,0,none⟩),.pointer (some ⟨db,0,none⟩),ev] 133)]
def sH(sb ab tb mb lb db:Nat)(ev:Value)(HA HT HM HL HD HV:List Chunk)(W:List En):List Chunk:=wm sb ab tb mb lb db ev++(HA++(HT++(HM++(HL++(HD++(HV++(Es W).flatten))))))
structure Sp(N:Nat)(S:Ss)(W:List En)(D:List (Option Bt))(L:List Nm)(ab tb mb lb db:Nat)(ev:Value)(HA HT HM HL HD HV:List Chunk):Prop where
 q:Sq S W D L
 a:Ar ab N D HA
 t:Tb tb ab L HT
 m:Mp mb (UL W) W.length HM
 l:Lr lb ((N/512:Nat):Int) S.P S.Q HL
 d:Du db (S.I.map It.de) HD
 v:Za 43 ev S.V HV
/-- a store of N bytes, as one piece of memory -/
def Sr(sb N:Nat)(S:Ss)(H:List Chunk):Prop:=∃(W:List En) (D:List (Option Bt)) (L:List Nm) (ab tb mb lb db:Nat) (ev:Value) (HA HT HM HL HD HV:List Chunk),Sp N S W D L ab tb mb lb db ev HA HT HM HL HD HV∧H=sH sb ab tb mb lb db ev HA HT HM HL HD HV W
theorem Sr.mk{sb N:Nat}{S:Ss}{W:List En}{D:List (Option Bt)}{L:List Nm}{ab tb mb lb db:Nat}{ev:Value}{HA HT HM HL HD HV:List Chunk}(h:Sp N S W D L ab tb mb lb db ev HA HT HM HL HD HV):Sr sb N S (sH sb ab tb mb lb db ev HA HT HM HL HD HV W):=⟨W,D,L,ab,tb,mb,lb,db,ev,HA,HT,HM,HL,HD,HV,h,rfl⟩
theorem Sp.nb{N:Nat}{S:Ss}{W:List En}{D:List (Option Bt)}{L:List Nm}{ab tb mb lb db:Nat}{ev:Value}{HA HT HM HL HD HV:List Chunk}(h:Sp N S W D L ab tb mb lb db ev HA HT HM HL HD HV):N≤1048576∧Ze D≤N∧16*S.I.length≤N∧W.length=S.I.length∧S.P.length+S.Q.length=S.I.length:=by
 obtain⟨h1,h2,h3,_⟩:=h.a.Kc;obtain⟨h4,h5⟩:=h.q.len;exact⟨h3,h1,by have:=h.q.few h1; omega,h4,h5⟩
theorem Sr.nb{sb N:Nat}{S:Ss}{H:List Chunk}(h:Sr sb N S H):N≤1048576∧16*S.I.length≤N∧S.P.length+S.Q.length=S.I.length∧VL (sets S.I)≤N:=by
 obtain⟨W,D,L,ab,tb,mb,lb,db,ev,HA,HT,HM,HL,HD,HV,h,rfl⟩:=h;obtain⟨h1,h2,h3,h4,h5⟩:=h.nb;exact⟨h1,h3,h5,by rw[←h.q.used]; exact h2⟩
/-- opened, and closed again -/
theorem Tri.sp{P:Program}{f:FuncId}{args:Array Value}{R:Value→zu→Prop}{S0:zu}{sb ab tb mb lb db:Nat}{ev:Value}{HA HT HM HL HD HV:List Chunk}{W:List En}(h:Tri P f args (wm sb ab tb mb lb db ev::HA::HT::HM::HL::HD::HV::(Es W++S0)) R):Tri P f args (sH sb ab tb mb lb db ev HA HT HM HL HD HV W::S0) R:=h.perm (by simp[sH])
theorem Tri.mX{P:Program}{f:FuncId}{args:Array Value}{R:Value→zu→Prop}{sb ab tb mb lb db:Nat}{ev:Value}{HA HT HM HL HD HV:List Chunk}{W:List En}(h:Tri P f args (wm sb ab tb mb lb db ev::HA::HT::HM::HL::HD::HV::Es W) R):Tri P f args [sH sb ab tb mb lb db ev HA HT HM HL HD HV W] R:=h.perm (by simp[sH])
theorem zD.sp{S G:zu}{sb ab tb mb lb db:Nat}{ev:Value}{HA HT HM HL HD HV:List Chunk}{W:List En}[h:Sub S (wm sb ab tb mb lb db ev::HA::HT::HM::HL::HD::HV::Es W) G]:zD S [sH sb ab tb mb lb db ev HA HT HM HL HD HV W]:=zD.trans (zD.of (h:=h)) ⟨[],by simp[sH]⟩
theorem zD.NV{x:List Chunk}{S G:zu}{sb ab tb mb lb db:Nat}{ev:Value}{HA HT HM HL HD HV:List Chunk}{W:List En}[h:Sub S (x::wm sb ab tb mb lb db ev::HA::HT::HM::HL::HD::HV::Es W) G]:zD S [x,sH sb ab tb mb lb db ev HA HT HM HL HD HV W]:=zD.trans (zD.of (h:=h)) ⟨[],by simp[sH]⟩
theorem zD.op{S S1 G:zu}{sb ab tb mb lb db:Nat}{ev:Value}{HA HT HM HL HD HV:List Chunk}{W:List En}[h:Sub S (sH sb ab tb mb lb db ev HA HT HM HL HD HV W::S1) G]:zD S (wm sb ab tb mb lb db ev::HA::HT::HM::HL::HD::HV::(Es W++S1)):=zD.trans (zD.of (h:=h)) ⟨[],by simp[sH]⟩
theorem kM{W:List En}{k:Ky}{e:En}(h:XF W k=some e):((UL W k).map Vv.vv).getD (.pointer none)= .pointer (some ⟨e.eb,0,none⟩):=by unfold UL; rw[h]; rfl
theorem GI{W:List En}{k:Ky}(h:XF W k=none):((UL W k).map Vv.vv).getD (.pointer none)= .pointer none:=by unfold UL; rw[h]; rfl
set_option maxRecDepth 10000 in
theorem rM{n:Nat}(hn:2048≤n∧n≤1048576){z:Int}(hz:z=n):Tri Tryz.prog 28 #[.int .i64 z] [] (fun r S=>∃sb H,r= .tuple #[.pointer (some ⟨sb,0,none⟩),.int .i64 0]∧Sr sb n ⟨[],[],[],[]⟩ H∧S=[H]):=by
 subst hz;refine Tri.forget (zm Tryz.EA (Nat.le_of_ble_eq_true rfl) ?_);unfold Tryz.x28;refine ze (z8 (yp pC (yp pC (zf (za (ze (ze (z8 (yp (pI rfl) (yp (ZO rfl rfl) (yp (pB rfl) ?_)))))))))));rw[decide_eq_false (show ¬(n:Int)<2048 from by omega)];refine Z5 rfl (Zd (pI rfl) (Z5 rfl (Zd (uq rfl rfl) (yp (zR rfl rfl) (zf (za ?_))))));rw[decide_eq_false (show ¬(1048576:Int)<(n:Int) from by omega)];refine zA rfl (zw (za (ze (z8 (yp (pI rfl) ?_)))));refine zh (zk (Bw (n:=n) (by omega) rfl) rfl rfl fun r S' h=>?_);obtain⟨ab,HA,rfl,hA,rfl⟩:=h;refine yp (pU rfl) (yp (pExt rfl rfl) (yp (pExt rfl rfl) (yp (pP rfl) (yp (pI rfl) (zf (za (ze (z8 (yp (pP rfl) (yp (pP rfl) ?_))))))))));refine zh (zk (Di (ab:=ab)) rfl rfl fun r S' h=>?_);obtain⟨tb,HT,rfl,hT,rfl⟩:=h;refine zh (K7 Ky Ptr fun mb HM hM=>?_);refine yp (pI rfl) (yp (fP rfl rfl (by decide) (by omega)) ?_);rw[show(n:Int).tdiv 512=((n/512:Nat):Int) from rfl];refine zh (zk (Ed ((n/512:Nat):Int)) rfl rfl fun r S' h=>?_);obtain⟨lb,HL,rfl,hL,rfl⟩:=h;refine zh (zk Ei rfl rfl fun r S' h=>?_);obtain⟨db,HD,rfl,hD,rfl⟩:=h;rw[show max ((n/512:Nat):Int) 0=((n/512:Nat):Int) from by omega] at hL;refine yp (v:= .agg #[.pointer (some ⟨ab,0,none⟩),.pointer (some ⟨tb,0,none⟩),.map (some mb),.pointer (some ⟨lb,0,none⟩),.pointer (some ⟨db,0,none⟩),.slice none 0 0]) rfl ?_;refine zh (Zt rfl fun p26=>?_);refine yp (pP rfl) (yp pC (zf (za (zJ ?_))));exact zI (Hl rfl rfl) ⟨_,zD.re (S1:=[wm p26 ab tb mb lb db (.slice none 0 0),HA,HT,HM,HL,HD]) (S2:=[sH p26 ab tb mb lb db (.slice none 0 0) HA HT HM HL HD [] []]) (by simp[sH,Es]),p26,_,rfl,Sr.mk ⟨Sq.nil,hA,hT,hM,hL,hD,.nil⟩,rfl⟩
set_option maxRecDepth 10000 in
theorem tQ{n:Int}(hn:n<2048∨1048576<n):Tri Tryz.prog 28 #[.int .i64 n] [] (fun r S=>r= .tuple #[.pointer none,.int .i64 1]∧S=[]):=by
 refine Tri.forget (zm Tryz.EA (Nat.le_of_ble_eq_true rfl) ?_);unfold Tryz.x28;refine ze (z8 (yp pC (yp pC (zf (za (ze (ze (z8 (yp (pI rfl) (yp (ZO rfl rfl) (yp (pB rfl) ?_)))))))))));by_cases h1:n<2048
 ·rw[decide_eq_true h1];refine Z4 rfl (Z4 rfl (yp (zP rfl rfl) (zf (za (zH rfl (ze (z8 (yp pC (yp pC (zf (za (zJ (zU ?_)))))))))))));exact zI (Hl rfl rfl) ⟨_,.of,rfl,rfl⟩
 ·rw[decide_eq_false h1];refine Z5 rfl (Zd (pI rfl) (Z5 rfl (Zd (uq rfl rfl) (yp (zR rfl rfl) (zf (za ?_))))));rw[decide_eq_true (show 1048576<n from by omega)];refine zH rfl (ze (z8 (yp pC (yp pC (zf (za (zJ (zU ?_))))))));exact zI (Hl rfl rfl) ⟨_,.of,rfl,rfl⟩
theorem tN{sb N:Nat}{S:Ss}{H:List Chunk}(hS:Sr sb N S H):Tri Tryz.prog 36 #[.pointer (some ⟨sb,0,none⟩)] [H] (fun r S'=>r= .int .i64 (VL (sets S.I):Nat)∧S'=[H]):=by
 obtain⟨W,D,L,ab,tb,mb,lb,db,ev,HA,HT,HM,HL,HD,HV,h,rfl⟩:=hS;refine Tri.forget (Tri.mX (zm Tryz.Ms (Nat.le_of_ble_eq_true rfl) ?_));unfold Tryz.NJ;refine ze (z8 (yp pC (zf (za (ze (ze (z8 (yp (pP rfl) (yp (ZW rfl rfl) (zf (za (zA rfl (zw (za (ze (z8 (yp (pP rfl) (yp (zK rfl) (yp (zo rfl) ?_)))))))))))))))))));refine zh (zx rfl rfl ?_);refine zh (zk (aA h.a) rfl rfl fun r S' h=>?_);obtain⟨rfl,rfl⟩:=h;refine yp (pI rfl) (zf (za (zJ ?_)));rw[h.q.used];exact zI (rI rfl) ⟨_,zD.sp,rfl,rfl⟩
theorem mV{sb N:Nat}{S:Ss}{H:List Chunk}(hS:Sr sb N S H):Tri Tryz.prog 33 #[.pointer (some ⟨sb,0,none⟩)] [H] (fun r S'=>r= .int .i64 (S.I.length:Nat)∧S'=[H]):=by
 obtain⟨W,D,L,ab,tb,mb,lb,db,ev,HA,HT,HM,HL,HD,HV,h,rfl⟩:=hS;refine Tri.forget (Tri.mX (zm Tryz.Ez (Nat.le_of_ble_eq_true rfl) ?_));unfold Tryz.I6;refine ze (z8 (yp pC (zf (za (ze (ze (z8 (yp (pP rfl) (yp (ZW rfl rfl) (zf (za (zA rfl (zw (za (ze (z8 (yp (pP rfl) (yp (zK rfl) (yp (zo rfl) ?_)))))))))))))))))));refine zh (zx rfl rfl ?_);refine zh (BL h.m (by repeat (first | exact List.mem_cons_self | apply List.mem_cons_of_mem)) uO rfl ?_);rw[h.q.len.1];refine yp (pI rfl) (zf (za (zJ ?_)));exact zI (rI rfl) ⟨_,zD.sp,rfl,rfl⟩
theorem eB:Tri Tryz.prog 33 #[.pointer none] [] (fun r S=>r= .int .i64 0∧S=[]):=by
 refine Tri.forget (zm Tryz.Ez (Nat.le_of_ble_eq_true rfl) ?_);unfold Tryz.I6;refine ze (z8 (yp pC (zf (za (ze (ze (z8 (yp (pP rfl) (yp (ZW rfl rfl) (zf (za (zH rfl (ze (z8 (yp pC (zf (za (zJ (zU ?_)))))))))))))))))));exact zI (rI rfl) ⟨_,.of,rfl,rfl⟩
theorem xY{sb N:Nat}{S:Ss}{H:List Chunk}(hS:Sr sb N S H):Tri Tryz.prog 32 #[.pointer (some ⟨sb,0,none⟩)] [H] (fun r S'=>∃H' HV,Za 43 r S.V HV∧Sr sb N ⟨S.I,S.P,S.Q,[]⟩ H'∧S'=[HV,H']):=by
 obtain⟨W,D,L,ab,tb,mb,lb,db,ev,HA,HT,HM,HL,HD,HV,h,rfl⟩:=hS;refine Tri.forget (Tri.mX (zm Tryz.Mv (Nat.le_of_ble_eq_true rfl) ?_));unfold Tryz.x32;have hV:=h.v;obtain⟨a,c,rfl⟩:=hV.isSlice;refine ze (z8 (yp pC (zf (za (ze (ze (z8 (yp (pP rfl) (yp (ZW rfl rfl) (zf (za (zA rfl (zw (za (ze (z8 (yp (pP rfl) (yp (zK rfl) (yp (zo rfl) ?_)))))))))))))))))));refine zh (zx rfl rfl ?_);refine yp (pS rfl) (zf (za (ze (z8 (yp (pP rfl) (yp (zK rfl) (yp (zo rfl) ?_)))))));refine zh (cu rfl rfl (Yx rfl) ?_);refine zf (za (ze (z8 (yp (pS rfl) (yp (pS rfl) (zf (za (zJ ?_))))))));exact zI (rS rfl) ⟨_,zD.NV (HV:=[]),_,HV,hV,Sr.mk (W:=W) ⟨h.q.ev,h.a,h.t,h.m,h.l,h.d,.nil⟩,rfl⟩
theorem Qf:sizeOf? Tryz.prog 43=some 2:=by kernel_rfl
theorem lJ:isAgg? Tryz.prog 76=some true:=by kernel_rfl
theorem dU:sizeOf? Tryz.prog 76=some 9:=by kernel_rfl
theorem Kj(k:Ky)(hk:k.n.length<2 ^ 62):Tri Tryz.prog 76 #[.agg (Wi k)] [] (fun r S=>r= .agg (Wi (fk k))∧S=[]):=by
 refine Tri.forget (zm Tryz.LU (Nat.le_of_ble_eq_true rfl) ?_);unfold Tryz.Nf;refine ze (z8 ?_);refine zh (Zt rfl fun p1=>?_);refine zh (Z9 fun p2=>?_);refine zf (za (ze (zX (zi (zo rfl) (zV rfl rfl (zi (zo rfl) (zV rfl rfl ?_)))))));refine Zb (zk (KE k.n hk) rfl rfl fun r S' h=>?_) zN;obtain⟨rfl,rfl⟩:=h;refine⟨by simp,?_⟩;refine zi (uw (rQ rfl) (um rfl)) ?_;refine zO (vR rfl rfl rfl rfl rfl ?_) zN;refine zL (za (zJ ?_));exact zI (UZ (nI (b:=p2) pQ Qf rfl rfl)) ⟨[],.of,rfl,rfl⟩
theorem UW(n most:Int):Tri Tryz.prog 75 #[.int .i64 n,.int .i64 most] [] (fun r S=>r= .bool (Jv n most)∧S=[]):=by
 refine Tri.forget (zm Tryz.LV (Nat.le_of_ble_eq_true rfl) ?_);unfold Tryz.Ng Jv;refine ze (z8 (yp pC (zf (za (ze (z8 (yp (pI rfl) (yp (yM rfl rfl) (yp (pB rfl) ?_)))))))));by_cases h:0≤n
 ·rw[decide_eq_true h];refine Z5 rfl (Zd (pI rfl) (Z5 rfl (Zd (pI rfl) (Z5 rfl (Zd (Jw rfl rfl) (yp (zP rfl rfl) (yp (pB rfl) (zf (za (zJ ?_))))))))));exact zI (rB rfl) ⟨_,.of,rfl,rfl⟩
 ·rw[decide_eq_false h];refine Z4 rfl (Z4 rfl (Z4 rfl (yp (zR rfl rfl) (yp (pB rfl) (zf (za (zJ ?_)))))));exact zI (rB rfl) ⟨_,.of,rfl,rfl⟩
def Hq(o:Option En):Value:= .pointer (o.map fun e=>⟨e.eb,0,none⟩)
theorem GH(W:List En)(k:Ky):((UL W k).map Vv.vv).getD (.pointer none)=Hq (XF W k):=by
 unfold UL Hq;cases XF W k<;>rfl
theorem JL{sb ab tb mb lb db n:Nat}{ev:Value}{W:List En}{HM:List Chunk}(hM:Mp mb (UL W) n HM)(k:Ky)(hk:k.n.length<2 ^ 62):
 Tri Tryz.prog 84 #[.pointer (some ⟨sb,0,none⟩),.agg (Wi k)] [wm sb ab tb mb lb db ev,HM] (fun r S=>r=Hq (XF W (fk k))∧S=[wm sb ab tb mb lb db ev,HM]):=by
 refine Tri.forget (zm Tryz.Ev (Nat.le_of_ble_eq_true rfl) ?_);unfold Tryz.HZ;refine ze (z8 ?_);refine zh (Zt rfl fun p3=>?_);refine yp pC (zf (za (ze (ze (z8 (yp (pP rfl) (yp (ZW rfl rfl) (zf (za (zA rfl (zw (za (ze (zX (zi (pP rfl) (zi (zK rfl) (zi (zo rfl) (zV rfl rfl (WA rfl rfl ?_)))))))))))))))))));refine Zb (zk (Kj k hk) rfl rfl fun r S' h=>?_) zN;obtain⟨rfl,rfl⟩:=h;refine⟨by simp,?_⟩;refine zO (Vf hM (by repeat (first | exact List.mem_cons_self | apply List.mem_cons_of_mem)) (fk k) uO lV pX rfl rfl (GH W (fk k)) ?_) zN;refine zi (v:=Hq (XF W (fk k))) rfl (zL (za (zJ ?_)));exact zI (rP rfl) ⟨_,.of,rfl,rfl⟩
theorem mR(k:Ky):Tri Tryz.prog 84 #[.pointer none,.agg (Wi k)] [] (fun r S=>r= .pointer none∧S=[]):=by
 refine Tri.forget (zm Tryz.Ev (Nat.le_of_ble_eq_true rfl) ?_);unfold Tryz.HZ;refine ze (z8 ?_);refine zh (Zt rfl fun p3=>?_);refine yp pC (zf (za (ze (ze (z8 (yp (pP rfl) (yp (ZW rfl rfl) (zf (za (zH rfl (ze (z8 (yp pC (zf (za (zJ (zU ?_)))))))))))))))));exact zI (rP rfl) ⟨_,.of,rfl,rfl⟩
/-- an item as it is told -/
abbrev bW(i:It)(v:Value):Array Value:= #[sv (Zo i.s).name,.int .i64 (Zo i.s).typ,v,.int .i64 (Zo i.s).kind,sv (Zo i.s).zone,.int .i64 i.rank,.int .i64 i.came,.int .i64 i.exp,.int .i64 i.pins]
abbrev Bc:Array Value:= #[.string ⟨#[]⟩,.int .i64 0,.slice none 0 0,.int .i64 0,.string ⟨#[]⟩,.int .i64 0,.int .i64 0,.int .i64 0,.int .i64 0]
theorem eu{sb N ab tb mb lb db:Nat}{ev:Value}{S:Ss}{W:List En}{D:List (Option Bt)}{L:List Nm}{HA HT:List Chunk}(hq:Sq S W D L)(hA:Ar ab N D HA)(hT:Tb tb ab L HT){e:En}(he:e∈W):
 Tri Tryz.prog 85 #[.pointer (some ⟨sb,0,none⟩),.pointer (some ⟨e.eb,0,none⟩)] [wm sb ab tb mb lb db ev,HA,HT,KP e] (fun r S=>∃v HR,r= .agg (bW e.i v)∧Za 88 v (Zo e.i.s).rrs HR∧S=[HR,wm sb ab tb mb lb db ev,HA,HT,KP e]):=by
 have hz:e.z∈W.map En.z:=List.mem_map.2 ⟨e,he,rfl⟩;obtain⟨hE,hs,hal⟩:=hq.pk.ok _ hz;have hC:=Dw hT hA hq.pk.inn (j6 hz) hE hal;refine Tri.forget (zm Tryz.LG (Nat.le_of_ble_eq_true rfl) ?_);unfold Tryz.N7;refine ze (z8 ?_);refine zh (Z9 fun p4=>?_);refine zf (za (ze (Vg (R:=[wm sb ab tb mb lb db ev,KP e]) (by simp) (zi (pP rfl) (zi (zK rfl) (zi (zo rfl) (zV rfl rfl (zi (pP rfl) (zi (zK rfl) (zi (zo rfl) (zV rfl rfl (zi (pP rfl) (zi (zK rfl) (zi (zo rfl) (zV rfl rfl ?_)))))))))))))));refine zO (zk hC rfl rfl fun r S' h=>?_) (Zb (Z9 fun p5=>⟨by simp,?_⟩) zN)
 ·obtain⟨v,HR,rfl,hR,rfl⟩:=h;obtain⟨a,c,rfl⟩:=hR.isSlice;refine zi (pU rfl) (zi (pExt rfl rfl) (zi (pExt rfl rfl) ?_));refine Zb (Z9 fun p5=>⟨(by first | exact fun _ h=>List.mem_cons_of_mem _ h | simp),?_⟩) zN;refine zO (vR rfl rfl rfl rfl rfl ?_) zN;refine zi (pI rfl) (zL (za (ze (zX (WA rfl rfl (zi (pP rfl) (zi (zK rfl) (zi (zo rfl) (zV rfl rfl (zi (pP rfl) (zi (zK rfl) (zi (zo rfl) (zV rfl rfl (zi (pP rfl) (zi (zK rfl) (zi (zo rfl) (zV rfl rfl (zi (pP rfl) (zi (zK rfl) (zi (zo rfl) (zV rfl rfl (zi (v:= .agg (bW e.i (.slice a (Zo e.z.s).rrs.length c))) rfl ?_))))))))))))))))))))));refine zO (vR rfl rfl rfl rfl rfl ?_) zN;refine zL (za (zJ ?_));exact zI (UZ (nI (b:=p4) lJ dU rfl rfl)) ⟨_,.of,_,HR,rfl,hR,rfl⟩
 ·refine zO (zk hC rfl rfl fun r S' h=>?_) zN;obtain⟨v,HR,rfl,hR,rfl⟩:=h;obtain⟨a,c,rfl⟩:=hR.isSlice;refine zi (pU rfl) (zi (pExt rfl rfl) (zi (pExt rfl rfl) ?_));refine zO (vR rfl rfl rfl rfl rfl ?_) zN;refine zi (pI rfl) (zL (za (ze (zX (WA rfl rfl (zi (pP rfl) (zi (zK rfl) (zi (zo rfl) (zV rfl rfl (zi (pP rfl) (zi (zK rfl) (zi (zo rfl) (zV rfl rfl (zi (pP rfl) (zi (zK rfl) (zi (zo rfl) (zV rfl rfl (zi (pP rfl) (zi (zK rfl) (zi (zo rfl) (zV rfl rfl (zi (v:= .agg (bW e.i (.slice a (Zo e.z.s).rrs.length c))) rfl ?_))))))))))))))))))))));refine zO (vR rfl rfl rfl rfl rfl ?_) zN;refine zL (za (zJ ?_));exact zI (UZ (nI (b:=p4) lJ dU rfl rfl)) ⟨_,.of,_,HR,rfl,hR,rfl⟩
theorem VO(X A B C:List Chunk):(X++(A++(B++C))).Perm (X++(B++(A++C))):=by
 refine .append_left X ?_;rw[←List.append_assoc, ←List.append_assoc];exact List.perm_append_comm.append_right C
theorem Yv(A B:List En)(e:En):(Es (A++e::B)).flatten=(Es A).flatten++(KP e++(Es B).flatten):=by
 rw[qW,List.flatten_append]; rfl
/-- one entry taken out of the others; put back, or left -/
theorem zD.cons{x:List Chunk}{S T:zu}(h:zD S T):zD (x::S) (x::T):=by
 obtain⟨G,h⟩:=h;refine⟨G,?_⟩;rw[List.flatten_cons,List.flatten_cons,List.append_assoc];exact h.append_left x
theorem zD.em{x:List Chunk}{sb ab tb mb lb db:Nat}{ev:Value}{HA HT HM HL HD HV:List Chunk}{A B:List En}{e:En}:
 zD (x::wm sb ab tb mb lb db ev::HA::HT::HM::HL::HD::HV::Es (A++e::B)) (x::KP e::wm sb ab tb mb lb db ev::HA::HT::HM::HL::HD::HV::(Es A++Es B)):=⟨[],by
 simp only[List.flatten_cons,Yv,List.flatten_append,List.append_nil];refine .append_left x ?_;have:=VO [] (wm sb ab tb mb lb db ev++(HA++(HT++(HM++(HL++(HD++(HV++(Es A).flatten))))))) (KP e) (Es B).flatten;simpa only[List.nil_append,List.append_assoc] using this⟩
theorem zD.ec{x:List Chunk}{S G:zu}{sb ab tb mb lb db:Nat}{ev:Value}{HA HT HM HL HD HV:List Chunk}{A B:List En}{e:En}[h:Sub S (x::KP e::wm sb ab tb mb lb db ev::HA::HT::HM::HL::HD::HV::(Es A++Es B)) G]:
 zD S [x,sH sb ab tb mb lb db ev HA HT HM HL HD HV (A++e::B)]:=zD.trans (zD.of (h:=h)) ⟨[],by
 simp only[sH,List.flatten_cons,List.flatten_nil,Yv,List.flatten_append,List.append_nil];refine .append_left x ?_;have:=(VO [] (wm sb ab tb mb lb db ev++(HA++(HT++(HM++(HL++(HD++(HV++(Es A).flatten))))))) (KP e) (Es B).flatten).symm;simpa only[List.nil_append,List.append_assoc] using this⟩
theorem zD.MN{S G:zu}{sb ab tb mb lb db:Nat}{ev:Value}{HA HT HM HL HD HV:List Chunk}{A B:List En}{e:En}[h:Sub S (KP e::wm sb ab tb mb lb db ev::HA::HT::HM::HL::HD::HV::(Es A++Es B)) G]:
 zD S [sH sb ab tb mb lb db ev HA HT HM HL HD HV (A++e::B)]:=zD.trans (zD.of (h:=h)) ⟨[],by
 simp only[sH,List.flatten_cons,List.flatten_nil,Yv,List.flatten_append,List.append_nil];have:=(VO [] (wm sb ab tb mb lb db ev++(HA++(HT++(HM++(HL++(HD++(HV++(Es A).flatten))))))) (KP e) (Es B).flatten).symm;simpa only[List.nil_append,List.append_assoc] using this⟩
theorem zD.sd{S G:zu}{sb ab tb mb lb db:Nat}{ev:Value}{HA HT HM HL HD HV:List Chunk}{A B:List En}[h:Sub S (wm sb ab tb mb lb db ev::HA::HT::HM::HL::HD::HV::(Es A++Es B)) G]:
 zD S [sH sb ab tb mb lb db ev HA HT HM HL HD HV (A++B)]:=zD.trans (zD.of (h:=h)) ⟨[],by simp[sH,qW]⟩
theorem zD.op1{x:List Chunk}{S G:zu}{sb ab tb mb lb db:Nat}{ev:Value}{HA HT HM HL HD HV:List Chunk}{W:List En}[h:Sub S [x,sH sb ab tb mb lb db ev HA HT HM HL HD HV W] G]:zD S (x::wm sb ab tb mb lb db ev::HA::HT::HM::HL::HD::HV::Es W):=zD.trans (zD.of (h:=h)) ⟨[],by simp[sH]⟩
theorem nT{W:List En}{e:En}(hn:(keys (W.map (·.i))).Nodup)(he:e∈W):KF (UL W) e.i.k W.length=(xw W e.i.k).length:=by
 obtain⟨A,B,h1,h2⟩:=WU hn he;have hf:(UL W e.i.k).isSome=true:=by
  unfold UL XF;cases h:W.find? (fun x=>decide (x.i.k=e.i.k)) with
  | none=>have:=List.find?_eq_none.1 h e he; simp at this
  | some x=>rfl
 unfold KF;rw[if_pos hf,h2,h1];simp
theorem Xg{S:Ss}{W:List En}{D:List (Option Bt)}{L:List Nm}(hq:Sq S W D L){k:Ky}{i:It}(h:vE S.I k=some i):∃e,XF W k=some e∧e∈W∧e.i=i∧i.k=k:=by
 rw[←hq.its,aj] at h;obtain⟨e,he,rfl⟩:=Option.map_eq_some_iff.1 h;exact⟨e,he,(xJ he).1,rfl,(xJ he).2⟩
theorem Y5{S:Ss}{W:List En}{D:List (Option Bt)}{L:List Nm}(hq:Sq S W D L){k:Ky}(h:vE S.I k=none):XF W k=none:=by
 rw[←hq.its,aj] at h;exact Option.map_eq_none_iff.1 h
theorem JK{sb N:Nat}{S:Ss}{H:List Chunk}(hS:Sr sb N S H){k:Ky}{i:It}(hk:vE S.I k=some i):
 Tri Tryz.prog 77 #[.pointer (some ⟨sb,0,none⟩),.agg (Wi k)] [H] (fun r S'=>r= .tuple #[]∧∃H',Sr sb N (xI k S) H'∧S'=[H']):=by
 have hnb:=hS.nb;obtain⟨W,D,L,ab,tb,mb,lb,db,ev,HA,HT,HM,HL,HD,HV,h,rfl⟩:=hS;obtain⟨e,hf,he,rfl,hek⟩:=Xg h.q hk;have hz:e.z∈W.map En.z:=List.mem_map.2 ⟨e,he,rfl⟩;obtain⟨hE,hs,hal⟩:=h.q.pk.ok _ hz;have hC:=Ae h.t h.a h.q.pk.inn h.q.pk.pos (j6 hz) hE hal hs;have hC:Tri Tryz.prog 23 #[.pointer (some ⟨ab,0,none⟩),.pointer (some ⟨tb,0,none⟩),.int .i64 e.h] _ _:=hC;obtain⟨A,B,hW,hout⟩:=WU h.q.AZ he;refine Tri.forget (Tri.mX (zm Tryz.LQ (Nat.le_of_ble_eq_true rfl) ?_));unfold Tryz.Nc;have hEs:Es W=Es (A++e::B):=by rw[←hW]
 rw[hEs];refine ze (z8 ?_);refine zh (Zt rfl fun p3=>?_);refine zf (za (zn zD.em (ze (zX (zi (pP rfl) (zi (zK rfl) (zi (zo rfl) (zV rfl rfl (zi (pP rfl) (zi (zK rfl) (zi (zo rfl) (zV rfl rfl (zi (pP rfl) (zi (zK rfl) (zi (zo rfl) (zV rfl rfl (WA rfl rfl ?_)))))))))))))))));refine Zb (Vf h.m (by repeat (first | exact List.mem_cons_self | apply List.mem_cons_of_mem)) k uO lV pX rfl rfl (kM hf) ⟨fun _ h=>h,?_⟩) zN;refine zi (zK rfl) (zi (zo rfl) (zV rfl rfl ?_));refine zO (zk hC rfl rfl fun r S' h=>?_) zN;obtain⟨rfl,HT1,HA1,D1,hT1,hA1,hI1,_,rfl⟩:=h;refine zL (za (ze (zX (zi (pP rfl) (zi (zK rfl) (zi (zo rfl) (zV rfl rfl (WA rfl rfl ?_))))))));refine zO (cZ h.m k uO lV rfl rfl fun HM1 hM1=>?_) zN;refine zL (za (ze (zX (zi (pP rfl) (zi (zK rfl) (zi (zo rfl) (zV rfl rfl (WA rfl rfl ?_))))))));refine zO (zk (AP h.l (by omega) (by omega) k) rfl rfl fun r S' h=>?_) zN;obtain⟨rfl,HL1,hL1,rfl⟩:=h;refine zL (za (zX (zi (pP rfl) (zi (zK rfl) (zi (zo rfl) (zV rfl rfl (WA rfl rfl ?_)))))));refine zO (zk (AY h.d (by rw[List.length_map]; omega) k) rfl rfl fun r S' h=>?_) zN;obtain⟨rfl,HD1,hD1,rfl⟩:=h;refine zL ?_;subst hek;have hq1:=h.q.gone he hI1;rw[←oQ,nT h.q.AZ he] at hM1;rw[kS h.q.kn] at hD1;have hR:Sp N (xI e.i.k S) (xw W e.i.k) D1 _ ab tb mb lb db ev HA1 HT1 HM1 HL1 HD1 HV:=⟨hq1,hA1,hT1,hM1,hL1,hD1,h.v⟩
 have hR:=Sr.mk (sb:=sb) hR;rw[hout] at hR;exact ZQ ZX ⟨_,zD.sd,rfl,_,hR,rfl⟩
theorem Qj{sb N:Nat}{S:Ss}{H:List Chunk}(hS:Sr sb N S H){k:Ky}{i:It}(hk:vE S.I k=some i)(hv:S.V.length<2 ^ 30):
 Tri Tryz.prog 79 #[.pointer (some ⟨sb,0,none⟩),.agg (Wi k)] [H] (fun r S'=>r= .tuple #[]∧∃H',Sr sb N (bX k S) H'∧S'=[H']):=by
 refine Tri.forget (zm Tryz.LM (Nat.le_of_ble_eq_true rfl) ?_);unfold Tryz.Na;refine ze (z8 ?_);refine zh (Zt rfl fun p3=>?_);refine zf (za (ze (z8 (yp (pP rfl) ?_))));refine zh (Zx rfl rfl ?_);refine zh (zk (JK hS hk) rfl rfl fun r S' h=>?_);obtain⟨rfl,H1,hS1,rfl⟩:=h;obtain⟨W,D,L,ab,tb,mb,lb,db,ev,HA,HT,HM,HL,HD,HV,h,rfl⟩:=hS1;refine zf (za ?_);refine zn (S0:=[(p3,.cells (Wi k) 43)]::wm sb ab tb mb lb db ev::HA::HT::HM::HL::HD::HV::Es W) ?_ ?_
 ·exact zD.op1
 have hV:=h.v;obtain⟨a,c,rfl⟩:=hV.isSlice;refine zX (zi (pP rfl) (zi (pP rfl) (zi (zK rfl) (zi (zo rfl) (zV rfl rfl (WA rfl rfl ?_))))));refine Zb (wL k rfl rfl (by decide) (by decide) rfl fun p13=>⟨fun _ h=>List.mem_cons_of_mem _ h,?_⟩) zN;have hvl:(xI k S).V.length<2 ^ 30:=hv;refine zO (Vr (Y:=[k]) rfl rfl hV (.lit (by repeat (first | exact List.mem_cons_self | apply List.mem_cons_of_mem)) rfl) rfl (⟨[],0⟩:Ky) rfl (by rw[List.length_singleton]; omega) (by rw[List.length_singleton]; omega) fun v2 H2 hV2=>?_) zN;obtain⟨a2,c2,rfl⟩:=hV2.isSlice;refine zi (zK rfl) (zi (zo rfl) ?_);refine zO (cu rfl rfl (Yx rfl) ?_) zN;refine zL ?_;exact ZQ ZX ⟨_,zD.sp,rfl,_,Sr.mk (S:=bX k S) ⟨h.q.ev,h.a,h.t,h.m,h.l,h.d,hV2⟩,rfl⟩
def Ya(k:Ky)(S:Ss):Ss × Int:=match vE S.I (fk k) with
 | none=>(S,5)
 | some i=>if 0<i.pins then(S,6) else(xI (fk k) S,0)
def ug(I:List It)(k:Ky)(p:Int):List It:=I.map fun i=>if i.k=k then {i with pins:=p} else i
def X6(k:Ky)(Xl:Int)(S:Ss):Ss × Int:=match vE S.I (fk k) with
 | none=>(S,5)
 | some i=>if Jv (i.pins+Xl) 1000=false then(S,1) else(⟨ug S.I (fk k) (i.pins+Xl),S.P,S.Q,S.V⟩,0)
theorem X0(I:List It)(k:Ky)(p:Int):keys (ug I k p)=keys I:=by
 unfold keys ug;rw[List.map_map];refine List.map_congr_left fun i _=>?_
 show(if i.k=k then {i with pins:=p} else i).k=i.k;split<;>rfl
theorem ny(I:List It)(k:Ky)(p:Int):(ug I k p).map It.de=I.map It.de:=by
 unfold ug;rw[List.map_map];refine List.map_congr_left fun i _=>?_
 show(if i.k=k then {i with pins:=p} else i).de=i.de;split<;>rfl
abbrev JW(p:Int)(e:En):En:={e with i:={e.i with pins:=p}}
theorem eH{A B:List En}{e:En}(hn:(keys ((A++e::B).map (·.i))).Nodup)(p:Int):(A++JW p e::B).map (·.i)=ug ((A++e::B).map (·.i)) e.i.k p:=by
 have hne:∀X:List En,(∀y∈X,y.i.k≠e.i.k)→X.map (·.i)=ug (X.map (·.i)) e.i.k p:=fun X hX=>by
  unfold ug;rw[List.map_map];refine List.map_congr_left fun y hy=>?_
  show y.i=if y.i.k=e.i.k then _ else y.i
  rw[if_neg (hX y hy)]
 have hn:((A++e::B).map fun y=>y.i.k).Nodup:=by
  have:keys ((A++e::B).map (·.i))=(A++e::B).map fun y=>y.i.k:=by unfold keys; rw[List.map_map]; rfl
  rw[←this]; exact hn
 rw[List.map_append,List.map_cons] at hn;obtain⟨_,h2,h3⟩:=List.nodup_append.1 hn;have h4:=(List.nodup_cons.1 h2).1;have hA:=hne A fun y hy q=>h3 y.i.k (List.mem_map.2 ⟨y,hy,rfl⟩) e.i.k List.mem_cons_self q
 have hB:=hne B fun y hy q=>h4 (List.mem_map.2 ⟨y,hy,q⟩)
 have happ:∀X Y:List It,ug (X++Y) e.i.k p=ug X e.i.k p++ug Y e.i.k p:=fun X Y=>List.map_append
 rw[List.map_append,List.map_cons,List.map_append,List.map_cons,happ,hA, ←hA];congr 1;show _=(if e.i.k=e.i.k then _ else e.i)::ug (B.map (·.i)) e.i.k p;rw[if_pos rfl, ←hB]
theorem oU{A B:List En}{e:En}(p:Int):UL (A++JW p e::B)=UL (A++e::B):=by
 funext x;unfold UL XF;have hd:decide ((JW p e).i.k=x)=decide (e.i.k=x):=rfl;rw[List.find?_append,List.find?_append,List.find?_cons,List.find?_cons,hd];cases List.find? (fun y=>decide (y.i.k=x)) A<;>cases decide (e.i.k=x)<;>rfl
theorem tT{sb N:Nat}{S:Ss}{H:List Chunk}(hS:Sr sb N S H)(k:Ky)(hkl:k.n.length<2 ^ 62):
 Tri Tryz.prog 42 #[.pointer (some ⟨sb,0,none⟩),.agg (Wi k)] [H] (fun r S'=>r= .int .i64 (Ya k S).2∧∃H',Sr sb N (Ya k S).1 H'∧S'=[H']):=by
 have hS0:=hS;obtain⟨W,D,L,ab,tb,mb,lb,db,ev,HA,HT,HM,HL,HD,HV,h,rfl⟩:=hS;refine Tri.forget (Tri.mX (zm Tryz.Ey (Nat.le_of_ble_eq_true rfl) ?_));unfold Tryz.I5;refine ze (z8 ?_);refine zh (Zt rfl fun p3=>?_);refine yp pC (zf (za (ze (z8 (yp (pP rfl) ?_)))));refine zh (Zx rfl rfl ?_);refine zh (zk (JL (ab:=ab) (tb:=tb) (lb:=lb) (db:=db) (ev:=ev) h.m k hkl) rfl rfl fun r S' h=>?_);obtain⟨rfl,rfl⟩:=h;cases hb:vE S.I (fk k) with
 | none=>
  rw[Y5 h.q hb];unfold Ya;rw[hb];refine yp (v:= .pointer none) rfl (zf (za (ze (zq (ze (z8 (yp (pP rfl) (yp (ZW rfl rfl) (yp (pB rfl) (zf (za (zH rfl (ze (z8 (yp pC (zf (za (zJ (bret (zU ?_))))))))))))))))))));exact zI (rI rfl) ⟨_,zD.sp,rfl,_,hS0,rfl⟩
 | some i=>
  obtain⟨e,hf,he,rfl,hek⟩:=Xg h.q hb;rw[hf];rw[show Ya k S=if 0<e.i.pins then(S,6) else(xI (fk k) S,0) from by unfold Ya; rw[hb]];refine yp (v:= .pointer (some ⟨e.eb,0,none⟩)) rfl (zf (za (ze (zq (ze (z8 (yp (pP rfl) (yp (ZW rfl rfl) (yp (pB rfl) (zf (za (zA rfl (ze (z8 (yp (pP rfl) (yp (zK rfl) (yp (zo rfl) ?_)))))))))))))))));refine zh (xQ (List.mem_cons_of_mem _ (List.mem_cons_of_mem _ (List.mem_cons_of_mem _ (List.mem_cons_of_mem _ (List.mem_cons_of_mem _ (List.mem_cons_of_mem _ (List.mem_cons_of_mem _ (List.mem_cons_of_mem _ (Xo he))))))))) rfl rfl ?_);refine yp (uq rfl rfl) (yp (pB rfl) (zf (za ?_)));by_cases hp:0<e.i.pins
  ·rw[decide_eq_true hp,if_pos hp];refine zH rfl (ze (z8 (yp pC (zf (za (zJ (bret (zU ?_))))))));exact zI (rI rfl) ⟨_,zD.sp,rfl,_,hS0,rfl⟩
  ·rw[decide_eq_false hp,if_neg hp];refine zA rfl (zw (zS (za ?_)));refine zn (S0:=[[(p3,.cells (Wi k) 43)],sH sb ab tb mb lb db ev HA HT HM HL HD HV W]) ?_ ?_
   ·exact zD.NV
   refine ze (z8 (yp (pP rfl) ?_));refine zh (Zx rfl rfl ?_);refine zh (zk (Kj k hkl) rfl rfl fun r S' h=>?_);obtain⟨rfl,rfl⟩:=h;refine zh (zk (JK hS0 hb) rfl rfl fun r S' h=>?_);obtain⟨rfl,H1,hS1,rfl⟩:=h;refine zf (za (ze (z8 (yp pC (zf (za (zJ ?_)))))));exact zI (rI rfl) ⟨[H1],.of,rfl,_,hS1,rfl⟩
theorem mU(k:Ky):Tri Tryz.prog 42 #[.pointer none,.agg (Wi k)] [] (fun r S=>r= .int .i64 5∧S=[]):=by
 refine Tri.forget (zm Tryz.Ey (Nat.le_of_ble_eq_true rfl) ?_);unfold Tryz.I5;refine ze (z8 ?_);refine zh (Zt rfl fun p3=>?_);refine yp pC (zf (za (ze (z8 (yp (pP rfl) ?_)))));refine zh (Zx rfl rfl ?_);refine zh (zk (mR k) rfl rfl fun r S' h=>?_);obtain⟨rfl,rfl⟩:=h;refine yp (pP rfl) (zf (za (ze (zq (ze (z8 (yp (pP rfl) (yp (ZW rfl rfl) (yp (pB rfl) (zf (za (zH rfl (ze (z8 (yp pC (zf (za (zJ (bret (zU ?_))))))))))))))))))));exact zI (rI rfl) ⟨_,.of,rfl,rfl⟩
theorem U9(n most:Int):Jv n most=true↔0≤n∧n≤most:=by unfold Jv; simp
theorem rJ{sb N:Nat}{S:Ss}{H:List Chunk}(hS:Sr sb N S H)(k:Ky)(hkl:k.n.length<2 ^ 62)(Xl:Int)(hby: -1≤Xl∧Xl≤1):
 Tri Tryz.prog 82 #[.pointer (some ⟨sb,0,none⟩),.agg (Wi k),.int .i64 Xl] [H] (fun r S'=>r= .int .i64 (X6 k Xl S).2∧∃H',Sr sb N (X6 k Xl S).1 H'∧S'=[H']):=by
 have hS0:=hS;obtain⟨W,D,L,ab,tb,mb,lb,db,ev,HA,HT,HM,HL,HD,HV,h,rfl⟩:=hS;refine Tri.forget (Tri.mX (zm Tryz.LH (Nat.le_of_ble_eq_true rfl) ?_));unfold Tryz.N8;refine ze (z8 ?_);refine zh (Zt rfl fun p4=>?_);refine yp pC (zf (za (ze (z8 (yp (pP rfl) ?_)))));refine zh (Zx rfl rfl ?_);refine zh (zk (JL (ab:=ab) (tb:=tb) (lb:=lb) (db:=db) (ev:=ev) h.m k hkl) rfl rfl fun r S' h=>?_);obtain⟨rfl,rfl⟩:=h;cases hb:vE S.I (fk k) with
 | none=>
  rw[Y5 h.q hb];unfold X6;rw[hb];refine yp (v:= .pointer none) rfl (zf (za (ze (zq (ze (z8 (yp (pP rfl) (yp (ZW rfl rfl) (yp (pB rfl) (zf (za (zH rfl (ze (z8 (yp pC (zf (za (zJ (bret (zU ?_))))))))))))))))))));exact zI (rI rfl) ⟨_,zD.sp,rfl,_,hS0,rfl⟩
 | some i=>
  obtain⟨e,hf,he,rfl,hek⟩:=Xg h.q hb;have hpn:=h.q.pn e.i (by rw[←h.q.its]; exact List.mem_map.2 ⟨e,he,rfl⟩);rw[hf];rw[show X6 k Xl S=if Jv (e.i.pins+Xl) 1000=false then(S,1) else(⟨ug S.I (fk k) (e.i.pins+Xl),S.P,S.Q,S.V⟩,0) from by unfold X6; rw[hb]];obtain⟨A,B,rfl,hout⟩:=WU h.q.AZ he;refine yp (v:= .pointer (some ⟨e.eb,0,none⟩)) rfl (zf (za ?_));refine zn (S0:=[(p4,.cells (Wi k) 43)]::wm sb ab tb mb lb db ev::HA::HT::HM::HL::HD::HV::Es (A++e::B)) ?_ ?_
  ·exact zD.of
  refine zn zD.em (ze (zq (ze (z8 (yp (pP rfl) (yp (ZW rfl rfl) (yp (pB rfl) (zf (za (zA rfl (ze (z8 (yp (pP rfl) (yp (zK rfl) (yp (zo rfl) ?_)))))))))))))));refine zh (zx rfl rfl ?_);refine yp (pI rfl) (yp (WT rfl rfl (by omega)) ?_);refine zh (zk (UW (e.i.pins+Xl) 1000) rfl rfl fun r S' h=>?_);obtain⟨rfl,rfl⟩:=h;refine yp (Zi rfl) (yp (pB rfl) (zf (za ?_)));cases hw:Jv (e.i.pins+Xl) 1000 with
  | false=>
   rw[if_pos rfl];refine zH rfl (ze (z8 (yp pC (zf (za (zJ (bret (zU ?_))))))));exact zI (rI rfl) ⟨_,zD.MN (e:=e),rfl,_,hS0,rfl⟩
  | true=>
   rw[if_neg (by decide)];have hw2:=(U9 _ _).1 hw;refine zA rfl (zw (zS (za (ze (z8 (yp (pP rfl) (yp (zK rfl) (yp (zo rfl) ?_))))))));refine zh (zx rfl rfl ?_);refine yp (pI rfl) (yp (WT rfl rfl (by omega)) (yp (zK rfl) (yp (zo rfl) ?_)));refine zh (cK rfl rfl (um rfl) ?_);refine zf (za (ze (z8 (yp pC (zf (za (zJ ?_)))))));have hp2:Sp N ⟨ug S.I (fk k) (e.i.pins+Xl),S.P,S.Q,S.V⟩ (A++JW (e.i.pins+Xl) e::B) D L ab tb mb lb db ev HA HT HM HL HD HV:=by
    refine⟨⟨?_,?_,?_,?_,?_,?_⟩,h.a,h.t,?_,h.l,?_,h.v⟩
    ·rw[eH h.q.AZ,h.q.its,hek]
    ·have:(A++JW (e.i.pins+Xl) e::B).map En.z=(A++e::B).map En.z:=by rw[List.map_append,List.map_append]; rfl
     rw[this]; exact h.q.pk
    ·show(keys (ug _ _ _)).Nodup;rw[X0]; exact h.q.kn
    ·intro i hi;obtain⟨j,hj,rfl⟩:=List.mem_map.1 hi;have:=h.q.kz j hj;show(if j.k=fk k then {j with pins:=e.i.pins+Xl} else j).k=Zc (if j.k=fk k then {j with pins:=e.i.pins+Xl} else j).s;split<;>exact this
    ·show(S.P++S.Q).Perm (keys (ug _ _ _));rw[X0]; exact h.q.pq
    ·intro i hi;obtain⟨j,hj,rfl⟩:=List.mem_map.1 hi;show 0≤(if j.k=fk k then {j with pins:=e.i.pins+Xl} else j).pins∧(if j.k=fk k then {j with pins:=e.i.pins+Xl} else j).pins≤1000;split
     ·exact hw2
     ·exact h.q.pn j hj
    ·rw[oU];have:(A++JW (e.i.pins+Xl) e::B).length=(A++e::B).length:=by simp
     rw[this]; exact h.m
    ·rw[ny]; exact h.d
   exact zI (rI rfl) ⟨_,zD.MN (e:=JW (e.i.pins+Xl) e),rfl,_,Sr.mk hp2,rfl⟩
theorem Dm{sb N:Nat}{S:Ss}{H:List Chunk}(hS:Sr sb N S H)(k:Ky)(hkl:k.n.length<2 ^ 62):
 Tri Tryz.prog 31 #[.pointer (some ⟨sb,0,none⟩),.agg (Wi k)] [H] (fun r S'=>r= .int .i64 (X6 k 1 S).2∧∃H',Sr sb N (X6 k 1 S).1 H'∧S'=[H']):=by
 refine Tri.forget (zm Tryz.Mw (Nat.le_of_ble_eq_true rfl) ?_);unfold Tryz.x31;refine ze (z8 ?_);refine zh (Zt rfl fun p3=>?_);refine yp pC (zf (za (ze (z8 (yp (pP rfl) ?_)))));refine zh (Zx rfl rfl ?_);refine zh (zk (rJ hS k hkl 1 (by decide)) rfl rfl fun r S' h=>?_);obtain⟨rfl,H1,hS1,rfl⟩:=h;refine yp (pI rfl) (zf (za (zJ ?_)));exact zI (rI rfl) ⟨[H1],.of,rfl,_,hS1,rfl⟩
theorem Qh{sb N:Nat}{S:Ss}{H:List Chunk}(hS:Sr sb N S H)(k:Ky)(hkl:k.n.length<2 ^ 62):
 Tri Tryz.prog 34 #[.pointer (some ⟨sb,0,none⟩),.agg (Wi k)] [H] (fun r S'=>r= .int .i64 (X6 k (-1) S).2∧∃H',Sr sb N (X6 k (-1) S).1 H'∧S'=[H']):=by
 refine Tri.forget (zm Tryz.Mt (Nat.le_of_ble_eq_true rfl) ?_);unfold Tryz.x34;refine ze (z8 ?_);refine zh (Zt rfl fun p3=>?_);refine yp pC (zf (za (ze (z8 (yp (pP rfl) ?_)))));refine zh (Zx rfl rfl ?_);refine zh (zk (rJ hS k hkl (-1) (by decide)) rfl rfl fun r S' h=>?_);obtain⟨rfl,H1,hS1,rfl⟩:=h;refine yp (pI rfl) (zf (za (zJ ?_)));exact zI (rI rfl) ⟨[H1],.of,rfl,_,hS1,rfl⟩
/-- what Get tells, and makes of the store -/
def BD(sb N:Nat)(S:Ss)(k:Ky)(now:Int)(H:List Chunk)(r:Value)(S':zu):Prop:=
 ((∀i,vE S.I (fk k)=some i→i.exp≤now)∧r= .tuple #[.agg Bc,.bool false]∧S'=[H])∨∃i v HR H',vE S.I (fk k)=some i∧now<i.exp∧r= .tuple #[.agg (bW i v),.bool true]∧Za 88 v (Zo i.s).rrs HR∧Sr sb N ⟨S.I,YC ((N/512:Nat):Int) (fk k) S.P S.Q,YB ((N/512:Nat):Int) (fk k) S.P S.Q,S.V⟩ H'∧S'=[HR,H']
theorem rO{sb N:Nat}{S:Ss}{H:List Chunk}(hS:Sr sb N S H)(k:Ky)(hkl:k.n.length<2 ^ 62)(now:Int):
 Tri Tryz.prog 40 #[.pointer (some ⟨sb,0,none⟩),.agg (Wi k),.int .i64 now] [H] (BD sb N S k now H):=by
 have hnb:=hS.nb;obtain⟨W,D,L,ab,tb,mb,lb,db,ev,HA,HT,HM,HL,HD,HV,h,rfl⟩:=hS;refine Tri.forget (Tri.mX (zm Tryz.Ml (Nat.le_of_ble_eq_true rfl) ?_));unfold Tryz.NH;refine ze (z8 ?_);refine zh (Zt rfl fun p4=>?_);refine zh (Z9 fun p6=>?_);refine yp pC (zf (za (ze (z8 (yp (pP rfl) ?_)))));refine zh (Zx rfl rfl ?_);refine zh (zk (JL (ab:=ab) (tb:=tb) (lb:=lb) (db:=db) (ev:=ev) h.m k hkl) rfl rfl fun r S' h=>?_);obtain⟨rfl,rfl⟩:=h;cases hb:vE S.I (fk k) with
 | none=>
  rw[Y5 h.q hb];refine yp (v:= .pointer none) rfl (zf (za (ze (ze (z8 (yp (pP rfl) (yp (ZW rfl rfl) (yp (pB rfl) (Z4 rfl (Z4 rfl (Z4 rfl (Z4 rfl (Z4 rfl (Z4 rfl (yp (zP rfl rfl) (zf (za (zH rfl (ze (z8 (yp Uf ?_)))))))))))))))))))));refine zh (vR rfl rfl rfl rfl rfl ?_);refine yp pC (zf (za (zJ (zU ?_))));exact zI (yH (nI (b:=p6) lJ dU rfl rfl) (BG rfl)) ⟨_,zD.sp,.inl ⟨(fun i hi=>by rw[hb] at hi; exact absurd hi (by simp)),rfl,rfl⟩⟩
 | some i=>
  obtain⟨e,hf,he,rfl,hek⟩:=Xg h.q hb;rw[hf];have hkm:fk k∈keys S.I:=by rw[←hek]; exact List.mem_map.2 ⟨e.i,(Jj hb).1,rfl⟩
  have hC:=eu (sb:=sb) (mb:=mb) (lb:=lb) (db:=db) (ev:=ev) (h.q.touch (m:=((N/512:Nat):Int)) hkm) h.a h.t he;obtain⟨A,B,rfl,hout⟩:=WU h.q.AZ he;refine yp (v:= .pointer (some ⟨e.eb,0,none⟩)) rfl (zf (za ?_));refine zn (S0:=[(p6,.cells Bc 76)]::[(p4,.cells (Wi k) 43)]::wm sb ab tb mb lb db ev::HA::HT::HM::HL::HD::HV::Es (A++e::B)) ?_ ?_
  ·exact zD.of
  refine zn (zD.cons zD.em) (ze (ze (z8 (yp (pP rfl) (yp (ZW rfl rfl) (yp (pB rfl) (Z5 rfl (Zd (pP rfl) (Z5 rfl (Zd (zK rfl) (Z5 rfl (Zd (zo rfl) (Z5 rfl ?_)))))))))))));refine(zx rfl rfl ?_);refine Z5 rfl (Zd (pI rfl) (Z5 rfl (Zd (Jw rfl rfl) (yp (zR rfl rfl) (zf (za ?_))))));by_cases hx:e.i.exp≤now
  ·rw[decide_eq_true hx];refine zH rfl (ze (z8 (yp Uf ?_)));refine zh (vR rfl rfl rfl rfl rfl ?_);refine yp pC (zf (za (zJ (zU ?_))));exact zI (yH (nI (b:=p6) lJ dU rfl rfl) (BG rfl)) ⟨_,zD.MN (e:=e),.inl ⟨(fun i hi=>by rw[hb] at hi; obtain rfl:=Option.some.inj hi; exact hx),rfl,rfl⟩⟩
  ·rw[decide_eq_false hx];refine zA rfl (zw (za (ze (zX (zi (pP rfl) (zi (zK rfl) (zi (zo rfl) (zV rfl rfl (WA rfl rfl ?_)))))))));refine Zb (zk (Kj k hkl) rfl rfl fun r S' h=>?_) zN;obtain⟨rfl,rfl⟩:=h;refine⟨fun _ h=>h,?_⟩;refine zO (zk (og h.l (by omega) (by omega) (fk k)) rfl rfl fun r S' h=>?_) zN;obtain⟨rfl,HL1,hL1,rfl⟩:=h;refine zL (za (ze (z8 (yp (pP rfl) (yp (pP rfl) ?_)))));refine zh (zk hC rfl rfl fun r S' h=>?_);obtain⟨v,HR,rfl,hR,rfl⟩:=h;obtain⟨a,c,rfl⟩:=hR.isSlice;refine zh (vR rfl rfl rfl rfl rfl ?_);refine yp pC (zf (za (zJ ?_)));exact zI (yH (nI (b:=p6) lJ dU rfl rfl) (BG rfl)) ⟨_,zD.ec (x:=HR) (e:=e),.inr ⟨e.i,_,HR,_,hb,by omega,rfl,hR,Sr.mk ⟨h.q.touch hkm,h.a,h.t,h.m,hL1,h.d,h.v⟩,rfl⟩⟩
theorem qR:isAgg? Tryz.prog 4=some false:=by kernel_rfl
theorem pfx{α:Type}{L:List α}{f:α→Array Value}{pre:List (Array Value)}{x:Array Value}(h:pre++[x]<+:L.map f):∃(hl:pre.length<L.length),x=f L[pre.length]:=by
 obtain⟨t,ht⟩:=h;have h1:(L.map f)[pre.length]?=some x:=by
  rw[←ht,List.append_assoc,List.getElem?_append_right (Nat.le_refl _),Nat.sub_self]; rfl
 rw[List.getElem?_map] at h1;obtain⟨y,hy,rfl⟩:=Option.map_eq_some_iff.1 h1;obtain⟨hl,rfl⟩:=List.getElem?_eq_some_iff.1 hy;exact⟨hl,rfl⟩
theorem Y7{f:Ky→Bool}:∀{l:List Ky} {n:Nat} {k:Ky},(∀x∈l.take n,f x=false)→l[n]?=some k→f k=true→l.find? f=some k
 | y::l,0,k,_,hk,hf=>by
  rw[List.getElem?_cons_zero] at hk;obtain rfl:=Option.some.inj hk;rw[List.find?_cons,hf]
 | y::l,n+1,k,hn,hk,hf=>by
  rw[List.getElem?_cons_succ] at hk;rw[List.find?_cons,hn y (by simp)];exact Y7 (fun x hx=>hn x (by rw[List.take_succ_cons]; exact List.mem_cons_of_mem _ hx)) hk hf
theorem kL{f:Ky→Bool}{l:List Ky}(h:∀x∈l,f x=false):l.find? f=none:=by
 rw[List.find?_eq_none];intro x hx;rw[h x hx]; decide
theorem jw{now:Int}{I:List It}{e:De}(h:e∈upto now (I.map It.de)):e.k∈keys I:=by
 unfold upto at h;have h1:=(List.mem_filter.1 h).1;have h2:=(yU (key:=Ur) (I.map It.de)).mem_iff.1 h1;obtain⟨i,hi,rfl⟩:=List.mem_map.1 h2;exact List.mem_map.2 ⟨i,hi,rfl⟩
theorem XY{S:Ss}{W:List En}{D:List (Option Bt)}{L:List Nm}(hq:Sq S W D L){k:Ky}(h:k∈keys S.I):∃e,XF W k=some e∧e∈W∧vE S.I k=some e.i∧free S.I k=decide (e.i.pins=0):=by
 cases hb:vE S.I k with
 | none=>exact absurd h (Ws.1 hb)
 | some i=>
  obtain⟨e,hf,he,rfl,_⟩:=Xg hq hb;exact⟨e,hf,he,rfl,by unfold free; rw[hb]⟩
theorem gQ{now:Int}{S:Ss}{n:Nat}{e:De}(hn:∀x∈(upto now (S.I.map It.de)).take n,free S.I x.k=false)(he:(upto now (S.I.map It.de))[n]?=some e)(hf:free S.I e.k=true):VT now S=some e.k:=by
 unfold VT due;rw[List.find?_append];have:((upto now (S.I.map It.de)).map (·.k)).find? (free S.I)=some e.k:=Y7 (n:=n) (fun x hx=>by
  rw[←List.map_take] at hx;obtain⟨y,hy,rfl⟩:=List.mem_map.1 hx;exact hn y hy) (by rw[List.getElem?_map,he]; rfl) hf
 rw[this]; rfl
theorem gP{now:Int}{S:Ss}(hn:∀x∈upto now (S.I.map It.de),free S.I x.k=false):VT now S=(S.P++S.Q).find? (free S.I):=by
 unfold VT due;rw[List.find?_append];have:((upto now (S.I.map It.de)).map (·.k)).find? (free S.I)=none:=kL fun x hx=>by
  obtain⟨y,hy,rfl⟩:=List.mem_map.1 hx;exact hn y hy
 rw[this]; rfl
theorem YP{α:Type}{L:List α}{n:Nat}(h:n<L.length){p:α→Prop}(hp:∀x∈L.take n,p x)(hx:p L[n]):∀x∈L.take (n+1),p x:=fun x hx'=>by
 rw[List.take_succ_eq_append_getElem h] at hx';rcases List.mem_append.1 hx' with h1 | h1
 ·exact hp x h1
 ·rw[List.mem_singleton.1 h1]; exact hx
abbrev BH(p2 p4 p5 sb:Nat)(k:Ky)(b:Bool):zu:=[[(p2,.cells #[.pointer (some ⟨sb,0,none⟩)] 63)],[(p4,.cells (Wi k) 43)],[(p5,.cells #[.bool b] 4)]]
theorem tO{sb N:Nat}{S:Ss}{H:List Chunk}(hS:Sr sb N S H)(now:Int):
 Tri Tryz.prog 78 #[.pointer (some ⟨sb,0,none⟩),.int .i64 now] [H] (fun r S'=>r= .tuple #[.agg (Wi ((VT now S).getD ⟨[],0⟩)),.bool (VT now S).isSome]∧S'=[H]):=by
 have hnb:=hS.nb;obtain⟨W,D,L,ab,tb,mb,lb,db,ev,HA,HT,HM,HL,HD,HV,h,rfl⟩:=hS;refine Tri.forget (Tri.mX (zm Tryz.LP (Nat.le_of_ble_eq_true rfl) ?_));unfold Tryz.Nb;refine ze (z8 ?_);refine zh (bS (jf rfl) fun p2=>?_);refine zh (Z9 fun p4=>?_);refine zh (Z9 fun p5=>?_);refine zf (za (ze (ze (z8 ?_))));refine zh (zx rfl rfl ?_);refine yp (zK rfl) (yp (zo rfl) ?_);refine zh (zx rfl rfl ?_);refine yp (pI rfl) ?_;refine zh (zk ig rfl rfl fun r S' h=>?_);obtain⟨bd,ba,rfl,rfl⟩:=h;refine zf (za (zq ?_));have hdl:(S.I.map It.de).length<2 ^ 38:=by rw[List.length_map]; omega
 have hmemT:∀{e:En},e∈W→∀{X:zu},KP e∈X++Es W:=fun he X=>List.mem_append.2 (.inr (Xo he))
 refine yj (fun pre T=>(∀x∈(upto now (S.I.map It.de)).take pre.length,free S.I x.k=false)∧zD T (BH p2 p4 p5 sb ⟨[],0⟩ false++(wm sb ab tb mb lb db ev::HA::HT::HM::HL::HD::HV::Es W)))
  (fun e pre T=>e= .ret∧∃k,VT now S=some k∧zD T (BH p2 p4 p5 sb k true++(wm sb ab tb mb lb db ev::HA::HT::HM::HL::HD::HV::Es W)))
  rfl rfl (jZ (db:=db) (bd:=bd) (ba:=ba) (S0:=BH p2 p4 p5 sb ⟨[],0⟩ false++(wm sb ab tb mb lb db ev::HA::HT::HM::HL::HV::Es W)) h.d hdl now) ⟨by simp,.of⟩ ?_ ?_ ?_ ?_
 ·intro pre x hx;obtain⟨_,rfl⟩:=pfx hx;rfl
 ·rintro l pre x T hx ⟨hn,hJ⟩;obtain⟨hl,rfl⟩:=pfx hx;have hm:=List.getElem_mem hl;have hg:(upto now (S.I.map It.de))[pre.length]?=some (upto now (S.I.map It.de))[pre.length]:=List.getElem?_eq_getElem hl;have hst:=YP hl hn;generalize (upto now (S.I.map It.de))[pre.length]=d at hm hg hst;obtain⟨e,hf,he,hb,hfr⟩:=XY h.q (jw hm);refine zn hJ (z8 ?_);refine zh (Z9 fun p6=>?_);refine zh (vR rfl rfl rfl rfl rfl ?_);refine zf (za (zq (ze (zX (zV rfl rfl (zi (zK rfl) (zi (zo rfl) (zV rfl rfl (WA rfl rfl ?_)))))))));refine Zb (Vf h.m (by repeat (first | exact List.mem_cons_self | apply List.mem_cons_of_mem)) d.k uO lV pX rfl rfl (kM hf) ⟨fun _ h=>h,?_⟩) zN;refine zi (zK rfl) (zi (zo rfl) (lZ (v:= .int .i64 e.i.pins) (by repeat (first | exact Xo he | apply List.mem_cons_of_mem)) rfl rfl (zi (WL rfl rfl) (zL (za ?_)))));by_cases hp:e.i.pins=0
  ·rw[decide_eq_true hp] at hfr ⊢;have hnx:=gQ hn hg hfr;refine zH rfl (ze (z8 ?_));refine zh (Zx rfl rfl ?_);refine zh (vR rfl rfl rfl rfl rfl ?_);refine zh (Zn rfl rfl (lT rfl) ?_);refine zf (za (zJ (bret ?_)));exact⟨rfl,d.k,hnx,.of⟩
  ·rw[decide_eq_false hp] at hfr ⊢;refine zA rfl (zw (zS ?_));exact⟨by rw[List.length_append]; exact hst hfr,.of⟩
 ·rintro xs S' hd ⟨hn,hJ⟩;have hxl:xs.length=(upto now (S.I.map It.de)).length:=by rw[hd,List.length_map]
  rw[hxl,List.take_length] at hn;have hnx:=gP (now:=now) (S:=S) hn;refine zS (za ?_);refine zn hJ (ze (ze (z8 ?_)));refine zh (zx rfl rfl ?_);refine yp (zK rfl) (yp (zo rfl) ?_);refine zh (zx rfl rfl ?_);refine zh (zk oh rfl rfl fun r S' h=>?_);obtain⟨bl,rfl,rfl⟩:=h;refine zf (za (zq ?_));refine yj (fun pre T=>(∀x∈(S.P++S.Q).take pre.length,free S.I x=false)∧zD T (BH p2 p4 p5 sb ⟨[],0⟩ false++(wm sb ab tb mb lb db ev::HA::HT::HM::HL::HD::HV::Es W)))
   (fun e pre T=>e= .ret∧∃k,VT now S=some k∧zD T (BH p2 p4 p5 sb k true++(wm sb ab tb mb lb db ev::HA::HT::HM::HL::HD::HV::Es W)))
   rfl rfl (aW (bl:=bl) (S0:=BH p2 p4 p5 sb ⟨[],0⟩ false++(wm sb ab tb mb lb db ev::HA::HT::HM::HD::HV::Es W)) h.l (by omega) (by omega)) ⟨by simp,.of⟩ ?_ ?_ ?_ ?_
  ·intro pre x hx;obtain⟨_,rfl⟩:=pfx hx;rfl
  ·rintro l pre x T hx ⟨hn2,hJ⟩;obtain⟨hl,rfl⟩:=pfx hx;have hm:=List.getElem_mem hl;have hg:(S.P++S.Q)[pre.length]?=some (S.P++S.Q)[pre.length]:=List.getElem?_eq_getElem hl;have hst:=YP hl hn2;generalize (S.P++S.Q)[pre.length]=d at hm hg hst;obtain⟨e,hf,he,hb,hfr⟩:=XY h.q (h.q.pq.mem_iff.1 hm);refine zn hJ (z8 ?_);refine zh (Z9 fun p7=>?_);refine zh (vR rfl rfl rfl rfl rfl ?_);refine zf (za (zq (ze (zX (zV rfl rfl (zi (zK rfl) (zi (zo rfl) (zV rfl rfl (WA rfl rfl ?_)))))))));refine Zb (Vf h.m (by repeat (first | exact List.mem_cons_self | apply List.mem_cons_of_mem)) d uO lV pX rfl rfl (kM hf) ⟨fun _ h=>h,?_⟩) zN;refine zi (zK rfl) (zi (zo rfl) (lZ (v:= .int .i64 e.i.pins) (by repeat (first | exact Xo he | apply List.mem_cons_of_mem)) rfl rfl (zi (WL rfl rfl) (zL (za ?_)))));by_cases hp:e.i.pins=0
   ·rw[decide_eq_true hp] at hfr ⊢;refine zH rfl (ze (z8 ?_));refine zh (Zx rfl rfl ?_);refine zh (vR rfl rfl rfl rfl rfl ?_);refine zh (Zn rfl rfl (lT rfl) ?_);refine zf (za (zJ (bret ?_)));exact⟨rfl,d,by rw[hnx]; exact Y7 hn2 hg hfr,.of⟩
   ·rw[decide_eq_false hp] at hfr ⊢;refine zA rfl (zw (zS ?_));exact⟨by rw[List.length_append]; exact hst hfr,.of⟩
  ·rintro xs S' hd ⟨hn2,hJ⟩;have hxl:xs.length=(S.P++S.Q).length:=by rw[hd,List.length_map]
   rw[hxl,List.take_length] at hn2;rw[kL hn2] at hnx;refine zS (za ?_);refine zn hJ (ze (z8 (yp Uf ?_)));refine zh (vR rfl rfl rfl rfl rfl ?_);refine zh (Zn rfl rfl (lT rfl) ?_);refine zf (za (zJ ?_));rw[hnx];exact zI (yH (nI (b:=p4) pQ Qf rfl rfl) (rR (b:=p5) qR rfl)) ⟨_,zD.sp,rfl,rfl⟩
  ·rintro e pre S' _ ⟨rfl,k,hk,hJ⟩;rw[hk];refine bret (zU ?_);exact zI (ko hJ (yH (nI (b:=p4) pQ Qf rfl rfl) (rR (b:=p5) qR rfl))) ⟨_,hJ.trans zD.sp,rfl,rfl⟩
 ·rintro e pre S' _ ⟨rfl,k,hk,hJ⟩;rw[hk];refine bret (zU ?_);exact zI (ko hJ (yH (nI (b:=p4) pQ Qf rfl rfl) (rR (b:=p5) qR rfl))) ⟨_,hJ.trans zD.sp,rfl,rfl⟩
instance (priority:=low) Sub.appSuf{A S:zu}:Sub (A++S) S A:=⟨by rw[List.flatten_append]; exact List.perm_append_comm⟩
theorem zD.Hr{sb ab tb mb lb db:Nat}{ev:Value}{HA HT HM HL HD HV:List Chunk}{W:List En}{S0:zu}:zD (sH sb ab tb mb lb db ev HA HT HM HL HD HV W::S0) (wm sb ab tb mb lb db ev::HA::HT::HM::HL::HD::HV::(Es W++S0)):=⟨[],by simp[sH]⟩
theorem zD.add{x:List Chunk}{S G S0:zu}{sb ab tb mb lb db:Nat}{ev:Value}{HA HT HM HL HD HV:List Chunk}{W:List En}{e:En}(hx:x=KP e)[h:Sub S (x::wm sb ab tb mb lb db ev::HA::HT::HM::HL::HD::HV::(Es W++S0)) G]:
 zD S (sH sb ab tb mb lb db ev HA HT HM HL HD HV (W++[e])::S0):=zD.trans (zD.of (h:=h)) ⟨[],by
 subst hx;have e1:Es (W++[e])=Es W++[KP e]:=qW W [e];simp only[sH,e1,List.flatten_cons,List.flatten_nil,List.flatten_append,List.append_nil,List.append_assoc];have:=(VO [] (wm sb ab tb mb lb db ev++(HA++(HT++(HM++(HL++(HD++(HV++(Es W).flatten))))))) (KP e) S0.flatten).symm;simpa only[List.nil_append,List.append_assoc] using this⟩
theorem zD.O4{x y:List Chunk}{S G S0:zu}{sb ab tb mb lb db:Nat}{ev:Value}{HA HT HM HL HD HV:List Chunk}{W:List En}[h:Sub S (x::y::wm sb ab tb mb lb db ev::HA::HT::HM::HL::HD::HV::(Es W++S0)) G]:zD S (x::y::sH sb ab tb mb lb db ev HA HT HM HL HD HV W::S0):=zD.trans (zD.of (h:=h)) ⟨[],by simp[sH]⟩
theorem zD.Ob{S G S0:zu}{sb ab tb mb lb db:Nat}{ev:Value}{HA HT HM HL HD HV:List Chunk}{W:List En}[h:Sub S (wm sb ab tb mb lb db ev::HA::HT::HM::HL::HD::HV::(Es W++S0)) G]:zD S (sH sb ab tb mb lb db ev HA HT HM HL HD HV W::S0):=zD.trans (zD.of (h:=h)) ⟨[],by simp[sH]⟩
theorem Tri.op{P:Program}{f:FuncId}{args:Array Value}{R:Value→zu→Prop}{sb ab tb mb lb db:Nat}{ev:Value}{HA HT HM HL HD HV:List Chunk}{W:List En}(h:Tri P f args [sH sb ab tb mb lb db ev HA HT HM HL HD HV W] R):Tri P f args (wm sb ab tb mb lb db ev::HA::HT::HM::HL::HD::HV::Es W) R:=h.perm (by simp[sH])
theorem mO{sb ab tb mb lb db N:Nat}{ev:Value}{D:List (Option Bt)}{HA:List Chunk}(hA:Ar ab N D HA):Tri Tryz.prog 37 #[.pointer (some ⟨sb,0,none⟩)] [wm sb ab tb mb lb db ev,HA] (fun r S'=>r= .int .i64 ((N-Ze D:Nat):Int)∧S'=[wm sb ab tb mb lb db ev,HA]):=by
 refine Tri.forget (zm Tryz.Mr (Nat.le_of_ble_eq_true rfl) ?_);unfold Tryz.NI;refine ze (z8 (yp pC (zf (za (ze (ze (z8 (yp (pP rfl) (yp (ZW rfl rfl) (zf (za (zA rfl (zw (za (ze (z8 (yp (pP rfl) (yp (zK rfl) (yp (zo rfl) ?_)))))))))))))))))));refine zh (zx rfl rfl ?_);refine zh (zk (pO hA) rfl rfl fun r S' h=>?_);obtain⟨rfl,rfl⟩:=h;refine yp (pI rfl) (zf (za (zJ ?_)));exact zI (rI rfl) ⟨_,.of,rfl,rfl⟩
theorem nZ{now:Int}{S:Ss}{k:Ky}(h:VT now S=some k):∃i,vE S.I k=some i∧i.pins=0:=by
 have hf:=List.find?_some h;unfold free at hf;cases hb:vE S.I k with
 | none=>rw[hb] at hf; cases hf
 | some i=>rw[hb] at hf; exact⟨i,rfl,of_decide_eq_true hf⟩
theorem xA{I:List It}(hn:(keys I).Nodup){k:Ky}{i:It}(h:vE I k=some i):I.length=(Vj I k).length+1:=by
 obtain⟨hi,rfl⟩:=Jj h;clear h
 induction I with
 | nil=>simp at hi
 | cons j I ih=>
  have hn2:=List.nodup_cons.1 hn;unfold Vj at ih ⊢;rw[List.filter_cons];by_cases hj:j.k=i.k
  ·rw[if_neg (by simp[hj]),List.filter_eq_self.2,List.length_cons];intro y hy;have:y.k≠i.k:=fun q=>hn2.1 (List.mem_map.2 ⟨y,hy,q.trans hj.symm⟩)
   simpa using this
  ·rw[if_pos (by simp[hj]),List.length_cons,List.length_cons,ih hn2.2 ?_];rcases List.mem_cons.1 hi with rfl | hi
   ·exact absurd rfl hj
   ·exact hi
theorem pG{I:List It}{k k':Ky}(h:vE I k=none):vE (Vj I k') k=none:=by
 rw[Ws] at h ⊢;rw[Ug];exact fun hm=>h (List.mem_filter.1 hm).1
theorem l8(I:List It)(k:Ky):vE (Vj I k) k=none:=by
 rw[Ws,Ug];intro hm;have:=(List.mem_filter.1 hm).2;simp at this
theorem eG{N:Nat}{K k:Ky}{s:St}{rank now exp:Int}{S:Ss}{i:It}(hn:(keys S.I).Nodup)(h:uX N S<vY (sets S.I) s)(hk:VT now S=some k)(hb:vE S.I k=some i):Ul N K s rank now exp S=Ul N K s rank now exp (bX k S):=by
 have hl:=xA hn hb;unfold Ul;have e1:uU N now s S.I.length S=uU N now s (bX k S).I.length (bX k S):=by
  rw[hl,uU,if_pos h,hk]; rfl
 rw[e1]
theorem tV{N:Nat}{K:Ky}{s:St}{rank now exp:Int}{S:Ss}(h:uX N S<vY (sets S.I) s)(hk:VT now S=none):Ul N K s rank now exp S=(S,4):=by
 unfold Ul;have e1:uU N now s S.I.length S=(S,false):=by
  cases S.I.length with
  | zero=>rw[uU,decide_eq_false (by omega)]
  | succ n=>rw[uU,if_pos h,hk]
 rw[e1]
theorem JN{N:Nat}{K:Ky}{s:St}{rank now exp:Int}{S:Ss}(h:¬uX N S<vY (sets S.I) s):Ul N K s rank now exp S=(⟨S.I++[⟨K,s,rank,now,exp,0⟩],S.P++[K],S.Q,S.V⟩,0):=by
 unfold Ul;have e1:uU N now s S.I.length S=(S,true):=by
  cases S.I.length with
  | zero=>rw[uU,decide_eq_true (by omega)]
  | succ n=>rw[uU,if_neg h]
 rw[e1]
theorem Sr.kn{sb N:Nat}{S:Ss}{H:List Chunk}(h:Sr sb N S H):(keys S.I).Nodup:=by
 obtain⟨W,D,L,ab,tb,mb,lb,db,ev,HA,HT,HM,HL,HD,HV,h,rfl⟩:=h;exact h.q.kn
abbrev fE(p6:Nat)(s:St)(v:Value):List Chunk:=[(p6,.cells (YE s v) 46)]
abbrev iw(p:Nat)(k:Ky):List Chunk:=[(p,.cells (Wi k) 43)]
set_option maxRecDepth 10000 in
set_option maxHeartbeats 1000000 in
theorem dZ{sb N:Nat}{S:Ss}{H:List Chunk}{S0:zu}{s:St}{v:Value}(hS:Sr sb N S H)(hs:jg s)(hv:Src S0 v s.rrs)(hV:S.V.length+S.I.length<2 ^ 30)(rank now exp:Int):
 Tri Tryz.prog 29 #[.pointer (some ⟨sb,0,none⟩),.agg (YE s v),.int .i64 rank,.int .i64 now,.int .i64 exp] (H::S0) (fun r S'=>r= .int .i64 (uV N s rank now exp S).2∧∃H',Sr sb N (uV N s rank now exp S).1 H'∧S'=H'::S0):=by
 have hsn:=hs.name;refine Tri.forget (zm Tryz.MB (Nat.le_of_ble_eq_true rfl) ?_);unfold Tryz.x29;obtain⟨va,vc,rfl⟩:=hv.isSlice;refine ze (z8 ?_);refine zh (Zt rfl fun p6=>?_);refine yp pC (zf (za (ze (ze (z8 ?_)))));refine zh (Zx rfl rfl ?_);refine zh (zk (Kv hs hv) rfl rfl fun r S' h=>?_);obtain⟨rfl,h⟩:=h;have h:=h.symm;subst h;rcases Decidable.em (wD s≠0) with hE | hE
 ·have hP:uV N s rank now exp S=(S,wD s):=by unfold uV; rw[if_pos hE]
  rw[hP];refine yp (pU rfl) (yp (pExt rfl rfl) (yp (pExt rfl rfl) (yp (pI rfl) (yp (pI rfl) (zf (za (ze (z8 (yp (pI rfl) (yp (xk rfl rfl) (zf (za ?_))))))))))));rw[decide_eq_false hE];refine zH rfl (ze (z8 (yp (pI rfl) (yp (pI rfl) (zf (za (zJ (zU ?_))))))));exact zI (rI rfl) ⟨_,.of,rfl,_,hS,rfl⟩
 have hE:=Decidable.not_not.1 hE;have hP0:uV N s rank now exp S=if Jy rank now exp=false then(S,1) else jQ N s rank now exp S:=by unfold uV; rw[if_neg (by rw[hE]; decide)]
 rw[hE];refine yp (pU rfl) (yp (pExt rfl rfl) (yp (pExt rfl rfl) (yp (pI rfl) (yp (pI rfl) (zf (za (ze (z8 (yp (pI rfl) (yp (xk rfl rfl) (zf (za (zA rfl (zw (za ?_)))))))))))))));refine YI (fun E S'=>Has E [(0,.pointer (some ⟨sb,0,none⟩)),(2,.int .i64 rank),(3,.int .i64 now),(4,.int .i64 exp),(6,.pointer (some ⟨p6,0,none⟩))]∧Jy rank now exp=true∧zD S' (fE p6 s (.slice va s.rrs.length vc)::H::S0)) ?_ fun E S' ⟨hE2,hok,hJ⟩=>?_
 ·have hbad:Jy rank now exp=false→uV N s rank now exp S=(S,1):=fun h=>by rw[hP0,if_pos h]
  refine ze (z8 (yp (pI rfl) ?_));refine zh (zk (UW now 1099511627776) rfl rfl fun r S' h=>?_);obtain⟨rfl,rfl⟩:=h;cases h1:Jv now 1099511627776 with
  | false=>
   rw[hbad (by unfold Jy; rw[h1]; rfl)];refine yp (Zi rfl) (yp (pB rfl) (Z4 rfl (Z4 rfl (Z4 rfl (yp (zP rfl rfl) (yp (pB rfl) (Z4 rfl (Z4 rfl (Z4 rfl (yp (zP rfl rfl) (yp (pB rfl) (Z4 rfl (Z4 rfl (Z4 rfl (yp (zP rfl rfl) (zf (za (zH rfl (ze (z8 (yp pC (zf (za (zJ (zU ?_)))))))))))))))))))))))));exact zI (rI rfl) ⟨_,.of,rfl,_,hS,rfl⟩
  | true=>
   refine yp (Zi rfl) (yp (pB rfl) (Z5 rfl (Zd (pI rfl) (Z5 rfl ?_))));refine zk (UW exp 1099511627776) rfl rfl fun r S' h=>?_
   obtain⟨rfl,rfl⟩:=h;cases h2:Jv exp 1099511627776 with
   | false=>
    rw[hbad (by unfold Jy; rw[h1,h2]; rfl)];refine Z5 rfl (Zd (Zi rfl) (yp (zR rfl rfl) (yp (pB rfl) (Z4 rfl (Z4 rfl (Z4 rfl (yp (zP rfl rfl) (yp (pB rfl) (Z4 rfl (Z4 rfl (Z4 rfl (yp (zP rfl rfl) (zf (za (zH rfl (ze (z8 (yp pC (zf (za (zJ (zU ?_))))))))))))))))))))));exact zI (rI rfl) ⟨_,.of,rfl,_,hS,rfl⟩
   | true=>
    refine Z5 rfl (Zd (Zi rfl) (yp (zR rfl rfl) (yp (pB rfl) (Z5 rfl (Zd (pI rfl) (Z5 rfl (Zd (pI rfl) (Z5 rfl (Zd (Jw rfl rfl) (yp (zR rfl rfl) (yp (pB rfl) ?_)))))))))));by_cases h3:exp≤now
    ·rw[hbad (by unfold Jy; rw[h1,h2,decide_eq_true h3]; rfl)];rw[decide_eq_true h3];refine Z4 rfl (Z4 rfl (Z4 rfl (yp (zP rfl rfl) (zf (za (zH rfl (ze (z8 (yp pC (zf (za (zJ (zU ?_)))))))))))));exact zI (rI rfl) ⟨_,.of,rfl,_,hS,rfl⟩
    ·rw[decide_eq_false h3];refine Z5 rfl (Zd (pI rfl) (Z5 rfl ?_));refine zk (UW rank 9) rfl rfl fun r S' h=>?_
     obtain⟨rfl,rfl⟩:=h;cases h4:Jv rank 9 with
     | false=>
      rw[hbad (by unfold Jy; rw[h4]; simp)];refine Z5 rfl (Zd (Zi rfl) (yp (zR rfl rfl) (zf (za (zH rfl (ze (z8 (yp pC (zf (za (zJ (zU ?_))))))))))));exact zI (rI rfl) ⟨_,.of,rfl,_,hS,rfl⟩
     | true=>
      refine Z5 rfl (Zd (Zi rfl) (yp (zR rfl rfl) (zf (za (zA rfl (zw (za ?_)))))));exact⟨⟨rfl,rfl,rfl,rfl,rfl,trivial⟩,by unfold Jy; rw[h1,h2,decide_eq_false h3,h4]; rfl,.of⟩
 rw[hok,if_neg (by decide)] at hP0;obtain⟨E0,e0⟩:=zy hE2; subst e0; clear hE2;refine zn hJ (ze (ze (z8 (yp (pP rfl) (yp (ZW rfl rfl) (zf (za (zA rfl (zw (za (ze (z8 (yp (zo rfl) ?_)))))))))))));refine zh (wB (l:=[sv s.name,.int .i64 s.typ]) rfl rfl rfl ?_);refine zh (zk (Kj ⟨s.name,s.typ⟩ (by show s.name.length<_; omega)) rfl rfl fun r S' h=>?_);obtain⟨rfl,rfl⟩:=h;show YL _ _ _ _ _ (Zf _ (.agg (Wi (Zc s))) _) _;refine zh (Z9 fun p13=>?_);refine zh (vR rfl rfl rfl rfl rfl ?_);refine zf (za ?_);refine YI (fun E S'=>Has E [(0,.pointer (some ⟨sb,0,none⟩)),(2,.int .i64 rank),(3,.int .i64 now),(4,.int .i64 exp),(6,.pointer (some ⟨p6,0,none⟩)),(13,.pointer (some ⟨p13,0,none⟩))]∧∃S1 H1,Sr sb N S1 H1∧vE S1.I (Zc s)=none∧uV N s rank now exp S=Ul N (Zc s) s rank now exp S1∧S1.V.length+S1.I.length<2 ^ 30∧zD S' (iw p13 (Zc s)::fE p6 s (.slice va s.rrs.length vc)::H1::S0)) ?_ fun E S' ⟨hE2,S1,H1,hS1,hb1,hP1,hV1,hJ⟩=>?_
 ·have hS':=hS;obtain⟨W,D,L,ab,tb,mb,lb,db,ev,HA,HT,HM,HL,HD,HV,h,rfl⟩:=hS;refine zn (S0:=iw p13 (Zc s)::fE p6 s (.slice va s.rrs.length vc)::sH sb ab tb mb lb db ev HA HT HM HL HD HV W::S0) zD.of (zn (zD.cons (zD.cons zD.Hr)) (ze (zX (zi (pP rfl) (zi (zK rfl) (zi (zo rfl) (zV rfl rfl (WA rfl rfl ?_))))))));cases hb:vE S.I (Zc s) with
  | none=>
   refine zO (Vf h.m (by repeat (first | exact List.mem_cons_self | apply List.mem_cons_of_mem)) (Zc s) uO lV pX rfl rfl (GI (Y5 h.q hb)) ?_) zN;refine zi (pP rfl) (zL (za (ze (z8 (yp (pP rfl) (yp (yL rfl rfl) (zf (za (zA rfl (zw (za ?_)))))))))));exact⟨⟨rfl,rfl,rfl,rfl,rfl,rfl,trivial⟩,S,_,hS',hb,hP0.trans (X5 hb),hV,zD.O4⟩
  | some i=>
   have hP1:=hP0.trans (X4 hb);obtain⟨e,hf,he,rfl,hek⟩:=Xg h.q hb;refine zO (Vf h.m (by repeat (first | exact List.mem_cons_self | apply List.mem_cons_of_mem)) (Zc s) uO lV pX rfl rfl (kM hf) ?_) zN;refine zi (pP rfl) (zL (za (ze (z8 (yp (pP rfl) (yp (yL rfl rfl) (zf (za (zH rfl (ze (ze (z8 (yp (pP rfl) (yp (zK rfl) (yp (zo rfl) ?_)))))))))))))));refine zh (xQ (v:= .int .i64 e.i.pins) (by repeat (first | exact List.mem_append.2 (.inl (Xo he)) | apply List.mem_cons_of_mem)) rfl rfl ?_);refine yp (uq rfl rfl) (zf (za ?_));by_cases hp:0<e.i.pins
   ·rw[decide_eq_true hp];rw[if_pos hp] at hP1;rw[hP1];refine zH rfl (ze (z8 (yp pC (zf (za (zJ (zU (zU ?_))))))));exact zI (rI rfl) ⟨_,zD.Ob,rfl,_,hS',rfl⟩
   ·rw[decide_eq_false hp];rw[if_neg hp] at hP1;refine zA rfl (zw (za (z8 (yp (pP rfl) ?_))));refine zh (Zx rfl rfl ?_);refine zh (zk (Tri.op (JK hS' hb)) rfl rfl fun r S' h=>?_);obtain⟨rfl,H1,hS1,rfl⟩:=h;refine zf (za ?_);have hol:=xA hS'.kn hb;exact⟨⟨rfl,rfl,rfl,rfl,rfl,rfl,trivial⟩,_,H1,hS1,l8 _ _,hP1,by show S.V.length+(Vj S.I (Zc s)).length<_; omega,.of⟩
 rw[hP1];clear hP1 hP0 hS hV;obtain⟨E0,e0⟩:=zy hE2; subst e0; clear hE2;refine zn hJ ?_;generalize hR:Ul N (Zc s) s rank now exp S1=R;refine ze (zq ?_);refine Z6 (σ:=Ss) (fun S2 E S'=>Has E [(0,.pointer (some ⟨sb,0,none⟩)),(2,.int .i64 rank),(3,.int .i64 now),(4,.int .i64 exp),(6,.pointer (some ⟨p6,0,none⟩)),(13,.pointer (some ⟨p13,0,none⟩))]∧vE S2.I (Zc s)=none∧Ul N (Zc s) s rank now exp S2=R∧S2.V.length+S2.I.length<2 ^ 30∧∃H2,Sr sb N S2 H2∧zD S' (iw p13 (Zc s)::fE p6 s (.slice va s.rrs.length vc)::H2::S0)) (fun S2=>S2.I.length) S1 ⟨⟨rfl,rfl,rfl,rfl,rfl,rfl,trivial⟩,hb1,hR,hV1,H1,hS1,.of⟩ fun S2 E S' ⟨hE2,hb2,hP2,hV2,H2,hS2,hJ⟩=>?_
 clear hS1 hb1 hV1 hR;have hS2':=hS2;obtain⟨W,D,L,ab,tb,mb,lb,db,ev,HA,HT,HM,HL,HD,HV,h,rfl⟩:=hS2;have hnb:=h.nb;obtain⟨E0,e0⟩:=zy hE2; subst e0; clear hE2;refine zn hJ (zn (zD.cons (zD.cons zD.Hr)) (ze (ze (zX (zi (pP rfl) (zi (zK rfl) (zi (zo rfl) (zV rfl rfl (WA rfl rfl (zi (pP rfl) ?_))))))))));have hv':Src (Es W++S0) (.slice va s.rrs.length vc) s.rrs:=Src.mono hv fun _ hs=>List.mem_append.2 (.inr hs)
 refine zO (zk (Af (S:=Es W++S0) h.t hs hv') rfl rfl fun r S' h=>?_) zN;obtain⟨rfl,rfl⟩:=h;refine zO (zk (mO (sb:=sb) (tb:=tb) (mb:=mb) (lb:=lb) (db:=db) (ev:=ev) h.a) rfl rfl fun r S' h=>?_) zN;obtain⟨rfl,rfl⟩:=h;rw[h.q.cost,h.q.left];refine zi (uq rfl rfl) (zL (za ?_));by_cases hc:uX N S2<vY (sets S2.I) s
 ·rw[decide_eq_true hc];refine zH rfl (zw (za (zq ?_)));refine zn (S0:=iw p13 (Zc s)::fE p6 s (.slice va s.rrs.length vc)::sH sb ab tb mb lb db ev HA HT HM HL HD HV W::S0) ?_ ?_
  ·exact zD.O4
  refine ze (z8 (yp (pP rfl) (yp (pI rfl) ?_)));refine zh (zk (tO hS2' now) rfl rfl fun r S' h=>?_);obtain⟨rfl,rfl⟩:=h;cases hn:VT now S2 with
  | none=>
   rw[←hP2,tV hc hn];refine yp (pU rfl) (yp (pExt rfl rfl) (yp (pExt rfl rfl) ?_));refine zh (Z9 fun p15=>?_);refine zh (vR rfl rfl rfl rfl rfl ?_);refine yp (pB rfl) (zf (za (ze (ze (z8 (yp (pB rfl) (yp (Zi rfl) (zf (za (zH rfl (ze (z8 (yp pC (zf (za (zJ (zU (bret (zU (bret (zU ?_)))))))))))))))))))));exact zI (rI rfl) ⟨_,.of,rfl,_,hS2',rfl⟩
  | some k=>
   obtain⟨i,hi,_⟩:=nZ hn;refine yp (pU rfl) (yp (pExt rfl rfl) (yp (pExt rfl rfl) ?_));refine zh (Z9 fun p15=>?_);refine zh (vR rfl rfl rfl rfl rfl ?_);refine yp (pB rfl) (zf (za (ze (ze (z8 (yp (pB rfl) (yp (Zi rfl) (zf (za (zA rfl (zw (za (z8 (yp (pP rfl) ?_))))))))))))));refine zh (Zx rfl rfl ?_);refine zh (zk (Qj hS2' hi (by omega)) rfl rfl fun r S' h=>?_);obtain⟨rfl,H3,hS3,rfl⟩:=h;refine zf (zS (za ?_));have hol:=xA hS2'.kn hi;refine⟨bX k S2,⟨⟨rfl,rfl,rfl,rfl,rfl,rfl,trivial⟩,pG hb2,(eG hS2'.kn hc hn hi).symm.trans hP2,?_,H3,hS3,.of⟩,?_⟩
   ·show(S2.V++[k]).length+(Vj S2.I k).length<_;rw[List.length_append,List.length_singleton]; omega
   ·show(Vj S2.I k).length<_;omega
 ·rw[decide_eq_false hc];have hR:=JN (K:=Zc s) (rank:=rank) (now:=now) (exp:=exp) hc;rw[←hP2,hR];have hus:=h.q.us hnb.2.1 hnb.1;refine zA rfl (zW (zF (zF (zZ (za (ze (zX (zi (pP rfl) (zi (zK rfl) (zi (zo rfl) (zV rfl rfl (zi (pP rfl) (zi (zK rfl) (zi (zo rfl) (zV rfl rfl (WA rfl rfl ?_))))))))))))))));refine zO (zk (Ab (S:=Es W++S0) h.t h.a h.q.pk.inn h.q.pk.pos h.q.pk.hs hus hs hv') rfl rfl fun r S' hp=>?_) zN;have hfit:fits N D L s:=by
   unfold fits;rw[h.q.cost];have:=h.q.left (N:=N);omega
  rcases hp with⟨hp,_⟩ | ⟨_,hp,_⟩ | ⟨_,_,HT1,HA1,D1,rfl,hT1,hA1,hI1,hB1,_,rfl⟩
  ·exact absurd hE hp
  ·exact absurd hfit hp
  have hex:=(Jb hE hnb.2.1 ⟨by have:=Qk (Vo hE).1; omega,(Vo hE).2⟩ (xE (Vo hE).1)).1 hfit;refine zi (pU rfl) (zi (pExt rfl rfl) (zi (pExt rfl rfl) (zi (pI rfl) (zi (pI rfl) (zL (za (ze (ze (z8 (yp (pI rfl) (yp (xk rfl rfl) (zf (za (zA rfl (zw (za (ze (zX (zi (pP rfl) (zi (zK rfl) (zi (zo rfl) (zV rfl rfl (WA rfl rfl (zi (pI rfl) (zi (pI rfl) (zi (pI rfl) (zi (pI rfl) (zi (v:= .agg #[.int .i64 ((hnd (wJ N D L (Z8 s)).D:Nat):Int),.int .i64 rank,.int .i64 now,.int .i64 exp,.int .i64 0]) rfl ?_))))))))))))))))))))))))))));refine Zb (Zt rfl fun p112=>⟨(by first | exact fun _ h=>List.mem_cons_of_mem _ h | simp),?_⟩) zN;refine zO (pY h.m (Zc s) (⟨some p112⟩:Ptr) uO lV rfl rfl rfl fun HM1 hM1=>?_) zN;refine zL (za (ze (zX (zi (pP rfl) (zi (zK rfl) (zi (zo rfl) (zV rfl rfl (WA rfl rfl ?_))))))));refine zO (zk (Ee h.l (by omega) (by omega) (Zc s)) rfl rfl fun r S' h=>?_) zN;obtain⟨rfl,HL1,hL1,rfl⟩:=h;refine zL (za (ze (zX (zi (pP rfl) (zi (zK rfl) (zi (zo rfl) (zV rfl rfl (WA rfl rfl (zi (pI rfl) ?_)))))))));refine zO (zk (Eh h.d (by rw[List.length_map]; omega) (Zc s) exp) rfl rfl fun r S' h=>?_) zN;obtain⟨rfl,HD1,hD1,rfl⟩:=h;refine zL (za (ze (z8 (yp pC (zf (za (zJ ?_)))))));have hfn:=Y5 h.q hb2;have hnk:=Ws.1 hb2;have hnP:¬(Zc s∈S2.P∨Zc s∈S2.Q):=fun hm=>hnk (h.q.pq.mem_iff.1 (List.mem_append.2 hm))
  rw[lS,if_neg hnP] at hL1;rw[qC hb2] at hD1;have hq:=h.q.put hE hs hex.1 hI1 hB1 hb2 rank now exp p112;generalize hen:(⟨⟨Zc s,s,rank,now,exp,0⟩,((hnd (wJ N D L (Z8 s)).D:Nat):Int),(wJ N D L (Z8 s)).ids,p112⟩:En)=en at hq;have hM2:Mp mb (UL (W++[en])) (W++[en]).length HM1:=by
   have e1:UL (W++[en])=wQ (UL W) (Zc s) (some (⟨some p112⟩:Ptr)):=by rw[oW (by rw[←hen]; exact hfn), ←hen]
   have e2:XB (UL W) (Zc s) W.length=(W++[en]).length:=by
    unfold XB UL;rw[hfn,List.length_append]; rfl
   rw[e1, ←e2]; exact hM1
  have hD2:Du db ((S2.I++[(⟨Zc s,s,rank,now,exp,0⟩:It)]).map It.de) HD1:=by rw[List.map_append]; exact hD1
  have hse:KP en=[(p112,.cells #[.int .i64 ((hnd (wJ N D L (Z8 s)).D:Nat):Int),.int .i64 rank,.int .i64 now,.int .i64 exp,.int .i64 0] 137)]:=by rw[←hen]
  refine zI (rI rfl) ⟨_,?_,rfl,_,Sr.mk ⟨hq,hA1,hT1,hM2,hL1,hD2,h.v⟩,rfl⟩;exact zD.add hse.symm
def swp(f:Ss × Nat)(k:Ky):Ss × Nat:=if free f.1.I k=true then(bX k f.1,f.2+1) else f
def UU(now:Int)(S:Ss)(n:Nat):Ss × Nat:=((due now S.I).take n).foldl swp (S,0)
def jC(now:Int)(S:Ss):Ss × Nat:=(due now S.I).foldl swp (S,0)
theorem kP{now:Int}{I:List It}(h:(keys I).Nodup):(due now I).Nodup:=by
 unfold due upto;have h1:=((yU (key:=Ur) (I.map It.de)).map (·.k)).nodup_iff.2 (by rw[List.map_map]; exact h);exact(List.filter_sublist.map De.k).nodup h1
theorem QU{now:Int}{I:List It}{k:Ky}(h:k∈due now I):k∈keys I:=by
 obtain⟨e,he,rfl⟩:=List.mem_map.1 h;exact jw he
structure Oc(now:Int)(S:Ss)(n:Nat)(R:Ss × Nat):Prop where
 kn:(keys R.1.I).Nodup
 mem:∀x∈(due now S.I).drop n,x∈keys R.1.I
 len:R.1.V.length+R.1.I.length=S.V.length+S.I.length
 cnt:R.2≤n
theorem oO{S:Ss}{k:Ky}{i:It}(hn:(keys S.I).Nodup)(h:vE S.I k=some i):(bX k S).V.length+(bX k S).I.length=S.V.length+S.I.length:=by
 have:=xA hn h;show(S.V++[k]).length+(Vj S.I k).length=_;rw[List.length_append,List.length_singleton]; omega
theorem oJ{I:List It}{k:Ky}(h:free I k=true):∃i,vE I k=some i∧i.pins=0:=by
 unfold free at h;cases hb:vE I k with
 | none=>rw[hb] at h; cases h
 | some i=>rw[hb] at h; exact⟨i,rfl,of_decide_eq_true h⟩
theorem NT{now:Int}{S:Ss}(hn:(keys S.I).Nodup):∀n,n≤(due now S.I).length→Oc now S n (UU now S n)
 | 0,_=>⟨hn,fun x hx=>QU hx,rfl,Nat.le_refl 0⟩
 | n+1,hl=>by
  have ih:=NT (now:=now) hn n (by omega);have hl':n<(due now S.I).length:=by omega
  have e1:UU now S (n+1)=swp (UU now S n) (due now S.I)[n]:=by
   unfold UU;rw[List.take_succ_eq_append_getElem hl',List.foldl_append]; rfl
  have hd:(due now S.I).drop n=(due now S.I)[n]::(due now S.I).drop (n+1):=List.drop_eq_getElem_cons hl';have hnd:=(List.drop_sublist n _).nodup (kP (now:=now) hn);rw[hd] at hnd;have hnd:=(List.nodup_cons.1 hnd).1;have hm:=ih.mem;rw[hd] at hm;rw[e1];generalize (due now S.I)[n]=k at*
  generalize UU now S n=R at*
  unfold swp;split
  ·next hf=>
   obtain⟨i,hb,_⟩:=oJ hf;refine⟨((vH R.1.I k).map _).nodup ih.kn,fun x hx=>?_,(oO ih.kn hb).trans ih.len,by show R.2+1≤n+1; have:=ih.cnt; omega⟩;show x∈keys (Vj R.1.I k);rw[Ug,List.mem_filter];refine⟨hm x (List.mem_cons_of_mem _ hx),?_⟩;have:x≠k:=fun e=>hnd (e▸hx)
   simpa using this
  ·exact⟨ih.kn,fun x hx=>hm x (List.mem_cons_of_mem _ hx),ih.len,by have:=ih.cnt; omega⟩
theorem dW{now:Int}{S:Ss}{n:Nat}(h:n<(due now S.I).length):UU now S (n+1)=swp (UU now S n) (due now S.I)[n]:=by
 unfold UU;rw[List.take_succ_eq_append_getElem h,List.foldl_append]; rfl
theorem GZ:isAgg? Tryz.prog 3=some false:=by kernel_rfl
theorem zD.op2{x y:List Chunk}{sb ab tb mb lb db:Nat}{ev:Value}{HA HT HM HL HD HV:List Chunk}{W:List En}:zD [x,y,sH sb ab tb mb lb db ev HA HT HM HL HD HV W] (x::y::wm sb ab tb mb lb db ev::HA::HT::HM::HL::HD::HV::Es W):=⟨[],by simp[sH]⟩
theorem zD.NZ{x y:List Chunk}{S G:zu}{sb ab tb mb lb db:Nat}{ev:Value}{HA HT HM HL HD HV:List Chunk}{W:List En}[h:Sub S (x::y::wm sb ab tb mb lb db ev::HA::HT::HM::HL::HD::HV::Es W) G]:zD S [x,y,sH sb ab tb mb lb db ev HA HT HM HL HD HV W]:=zD.trans (zD.of (h:=h)) ⟨[],by simp[sH]⟩
abbrev mK(p2 p4 sb c:Nat):zu:=[[(p2,.cells #[.pointer (some ⟨sb,0,none⟩)] 63)],[(p4,.cells #[.int .i64 (c:Int)] 3)]]
theorem Qi{sb N:Nat}{S:Ss}{H:List Chunk}(hS:Sr sb N S H)(now:Int)(hV:S.V.length+S.I.length<2 ^ 30):
 Tri Tryz.prog 41 #[.pointer (some ⟨sb,0,none⟩),.int .i64 now] [H] (fun r S'=>r= .int .i64 ((jC now S).2:Nat)∧∃H',Sr sb N (jC now S).1 H'∧S'=[H']):=by
 have hnb:=hS.nb;have hS0:=hS;have hkn:=hS.kn;obtain⟨W,D,L,ab,tb,mb,lb,db,ev,HA,HT,HM,HL,HD,HV,h,rfl⟩:=hS;refine Tri.forget (Tri.mX (zm Tryz.Mk (Nat.le_of_ble_eq_true rfl) ?_));unfold Tryz.NG;refine ze (z8 ?_);refine zh (bS (jf rfl) fun p2=>?_);refine zh (Z9 fun p4=>?_);refine zf (za (ze (ze (z8 ?_))));refine zh (zx rfl rfl ?_);refine yp (ZW rfl rfl) (zf (za (zA rfl (zw (za (ze (ze (z8 ?_))))))));refine zh (zx rfl rfl ?_);refine yp (zK rfl) (yp (zo rfl) ?_);refine zh (zx rfl rfl ?_);refine yp (pI rfl) ?_;refine zh (zk ig rfl rfl fun r S' h=>?_);obtain⟨bd,ba,rfl,rfl⟩:=h;refine zf (za (zq ?_));have hdl:(S.I.map It.de).length<2 ^ 38:=by rw[List.length_map]; omega
 have hdue:(due now S.I).length=(upto now (S.I.map It.de)).length:=by unfold due; rw[List.length_map]
 refine yj (fun pre T=>pre.length≤(due now S.I).length∧∃H',Sr sb N (UU now S pre.length).1 H'∧zD T (mK p2 p4 sb (UU now S pre.length).2++[H']))
  (fun e pre T=>False)
  rfl rfl (jZ (db:=db) (bd:=bd) (ba:=ba) (S0:=mK p2 p4 sb 0++(wm sb ab tb mb lb db ev::HA::HT::HM::HL::HV::Es W)) h.d hdl now) ⟨Nat.zero_le _,_,hS0,(show(mK p2 p4 sb (UU now S ([]:List (Array Value)).length).2)=mK p2 p4 sb 0 from rfl)▸zD.NZ⟩ ?_ ?_ ?_ ?_
 ·intro pre x hx;obtain⟨_,rfl⟩:=pfx hx;rfl
 ·rintro l pre x T hx ⟨hle,H1,hS1,hJ⟩;obtain⟨hl,rfl⟩:=pfx hx;have hl2:pre.length<(due now S.I).length:=by omega
  have hI:=NT (now:=now) hkn pre.length hle;have hst:=dW hl2;have hmem:=hI.mem;rw[List.drop_eq_getElem_cons hl2] at hmem;have hk0:(due now S.I)[pre.length]=(upto now (S.I.map It.de))[pre.length].k:=by simp only[due,List.getElem_map]
  rw[hk0] at hst hmem;generalize (upto now (S.I.map It.de))[pre.length]=d at hst hmem;have hkm:=hmem d.k (by simp);have hcnt:=hI.cnt;have hlen:=hI.len;have hpl:(pre++[bU d]).length=pre.length+1:=by rw[List.length_append]; rfl
  generalize UU now S pre.length=R at hS1 hJ hst hkm hcnt hlen;have hle2:(pre++[bU d]).length≤(due now S.I).length:=by omega
  have hS1':=hS1;obtain⟨W1,D1,L1,ab1,tb1,mb1,lb1,db1,ev1,HA1,HT1,HM1,HL1,HD1,HV1,h1,rfl⟩:=hS1;obtain⟨e,hf,he,hb,hfr⟩:=XY h1.q hkm;refine zn hJ (zn zD.op2 (z8 ?_));refine zh (Z9 fun p5=>?_);refine zh (vR rfl rfl rfl rfl rfl ?_);refine zf (za (zq (ze (zX (zV rfl rfl (zi (zK rfl) (zi (zo rfl) (zV rfl rfl (WA rfl rfl ?_)))))))));refine Zb (Vf h1.m (by repeat (first | exact List.mem_cons_self | apply List.mem_cons_of_mem)) d.k uO lV pX rfl rfl (kM hf) ⟨fun _ h=>h,?_⟩) zN;refine zi (zK rfl) (zi (zo rfl) (lZ (v:= .int .i64 e.i.pins) (by repeat (first | exact Xo he | apply List.mem_cons_of_mem)) rfl rfl (zi (WL rfl rfl) (zL (za ?_)))));by_cases hp:e.i.pins=0
  ·rw[decide_eq_true hp] at hfr ⊢;have e1:swp R d.k=(bX d.k R.1,R.2+1):=by unfold swp; rw[if_pos hfr]
   refine zH rfl (ze (z8 ?_));refine zh (zx rfl rfl ?_);refine zh (Zx rfl rfl ?_);refine zh (zk (Tri.op (Qj hS1' hb (by omega))) rfl rfl fun r S' h=>?_);obtain⟨rfl,H2,hS2,rfl⟩:=h;have hR2:R.2<2 ^ 40:=by
    have:(due now S.I).length≤S.I.length:=by
     have:=(kP (now:=now) hkn).length_le_of_subset (fun x hx=>QU hx:due now S.I ⊆ keys S.I);unfold keys at this;rw[List.length_map] at this;exact this
    omega
   refine zf (za (z8 ?_));refine zh (zx rfl rfl ?_);refine yp (Zg rfl rfl (by omega)) ?_;refine zh (Zn rfl rfl (um rfl) ?_);refine zf (zS ?_);refine⟨hle2,H2,?_,?_⟩
   ·rw[hpl,hst,e1]; exact hS2
   ·rw[hpl,hst,e1]; exact .of
  ·rw[decide_eq_false hp] at hfr ⊢;have e1:swp R d.k=R:=by unfold swp; rw[if_neg (by rw[hfr]; decide)]
   refine zA rfl (zw (zS ?_));refine⟨hle2,sH sb ab1 tb1 mb1 lb1 db1 ev1 HA1 HT1 HM1 HL1 HD1 HV1 W1,?_,?_⟩
   ·rw[hpl,hst,e1]; exact hS1'
   ·rw[hpl,hst,e1]; exact zD.NZ
 ·rintro xs S' hd ⟨hn,H1,hS1,hJ⟩;have hxl:xs.length=(due now S.I).length:=by rw[hd,List.length_map,hdue]
  have e1:UU now S xs.length=jC now S:=by unfold UU jC; rw[hxl,List.take_length]
  rw[e1] at hS1 hJ;refine zS (za ?_);refine zn hJ (ze (z8 ?_));refine zh (zx rfl rfl ?_);refine zh (Zn rfl rfl (um rfl) ?_);refine zf (za (zJ ?_));exact zI (UZ (rR (b:=p4) GZ rfl)) ⟨[H1],.of,rfl,_,hS1,rfl⟩
 ·rintro e pre S' _ h;exact h.elim
end Go.Proofs.YtejmbmenbailmaaGreat
