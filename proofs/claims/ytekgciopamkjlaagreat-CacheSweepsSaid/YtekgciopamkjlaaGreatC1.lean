/- Stores (chapter 10), plainly: what is there, who goes next, what each act makes of it. Stores (chapter 10): their memory; New, Used, Left, Count, Evicted. Stores (chapter 10): find, item, gone, evict. Stores (chapter 10): gone, evict, Drop, pin, Peek, Get. Stores (chapter 10): Drop, Pin, Unpin, Peek, Get. Stores (chapter 10): Peek, Get. Stores (chapter 10): who goes next. Stores (chapter 10): Put. Stores (chapter 10): Sweep. -/
import Derived.Test.YtekgciopamkjlaaGreatP4
import Derived.Test.YtekgciopamkjlaaGreatL1
import Derived.Test.YtekgciopamkjlaaGreatI1
import Derived.Test.YtekgciopamkjlaaGreatFStore
namespace Go.Proofs.YtekgciopamkjlaaGreat
open Go.Xs
open Enc (enc)
structure Ptr where
 a:Option Nat
instance:Vv Ptr:=⟨fun p=> .pointer (p.a.map fun b=>⟨b,0,none⟩)⟩
/-- an item -/
structure It where
 k:Ky
 s:St
 rank:Int
 came:Int
 exp:Int
 pins:Int
/-- .. its handle, its names' handles, its place -/
structure En where
 i:It
 h:Int
 ids:List Int
 eb:Nat
def En.z(e:En):LS:=⟨e.h,e.i.s,e.ids⟩
def It.de(i:It):De:=⟨i.k,i.exp⟩
def fk(k:Ky):Ky:=⟨zM k.n,k.t⟩
structure Ss where
 I:List It
 P:List Ky
 Q:List Ky
 V:List Ky
def keys(I:List It):List Ky:=I.map (·.k)
def sets(I:List It):List St:=I.map (·.s)
def wG(I:List It)(k:Ky):Option It:=I.find? fun i=>decide (i.k=k)
def vS(I:List It)(k:Ky):List It:=I.filter fun i=> !decide (i.k=k)
def free(I:List It)(k:Ky):Bool:=match wG I k with | some i=>decide (i.pins=0) | none=>false
def jo(k:Ky)(S:Ss):Ss:=⟨vS S.I k,S.P.erase k,S.Q.erase k,S.V⟩
def KA(k:Ky)(S:Ss):Ss:=⟨vS S.I k,S.P.erase k,S.Q.erase k,S.V++[k]⟩
def due(now:Int)(I:List It):List Ky:=(upto now (I.map It.de)).map (·.k)
def vZ(now:Int)(S:Ss):Option Ky:=(due now S.I++(S.P++S.Q)).find? (free S.I)
def UK(N:Nat)(S:Ss):Int:=((N-UE (sets S.I):Nat):Int)
def UH(N:Nat)(now:Int)(s:St):Nat→Ss→Ss × Bool
 | 0,S=>(S,decide (uJ (sets S.I) s≤UK N S))
 | f+1,S=>if UK N S<uJ (sets S.I) s then(match vZ now S with | none=>(S,false) | some k=>UH N now s f (KA k S)) else(S,true)
def X6(N:Nat)(k:Ky)(s:St)(rank now exp:Int)(S:Ss):Ss × Int:=match UH N now s S.I.length S with
 | (S',true)=>(⟨S'.I++[⟨k,s,rank,now,exp,0⟩],S'.P++[k],S'.Q,S'.V⟩,0)
 | (S',false)=>(S',4)
def AJ(n most:Int):Bool:=decide (0≤n) && decide (n≤most)
def ji(rank now exp:Int):Bool:=AJ now 1099511627776 && AJ exp 1099511627776 && !decide (exp≤now) && AJ rank 9
def Zq(s:St):Ky:=fk ⟨s.name,s.typ⟩
def bg(N:Nat)(s:St)(rank now exp:Int)(S:Ss):Ss × Int:=match wG S.I (Zq s) with
 | some i=>if 0<i.pins then(S,6) else X6 N (Zq s) s rank now exp (jo (Zq s) S)
 | none=>X6 N (Zq s) s rank now exp S
theorem iO{N:Nat}{s:St}{rank now exp:Int}{S:Ss}{i:It}(h:wG S.I (Zq s)=some i):bg N s rank now exp S=if 0<i.pins then(S,6) else X6 N (Zq s) s rank now exp (jo (Zq s) S):=by unfold bg; rw[h]
theorem xF{N:Nat}{s:St}{rank now exp:Int}{S:Ss}(h:wG S.I (Zq s)=none):bg N s rank now exp S=X6 N (Zq s) s rank now exp S:=by unfold bg; rw[h]
def VF(N:Nat)(s:St)(rank now exp:Int)(S:Ss):Ss × Int:=
 if w9 s≠0 then(S,w9 s) else if ji rank now exp=false then(S,1) else bg N s rank now exp S
/-! ### who is there -/
def KM(W:List En)(k:Ky):Option En:=W.find? fun e=>decide (e.i.k=k)
def KC(W:List En)(k:Ky):Option Ptr:=(KM W k).map fun e=>⟨some e.eb⟩
def XD(W:List En)(k:Ky):List En:=W.filter fun e=> !decide (e.i.k=k)
theorem Qz{W:List En}{k:Ky}{e:En}(h:KM W k=some e):e∈W∧e.i.k=k:=⟨List.mem_of_find?_eq_some h,by simpa using List.find?_some h⟩
theorem gT(W:List En)(k:Ky):wG (W.map (·.i)) k=(KM W k).map (·.i):=by
 unfold wG KM;rw[List.find?_map];rfl
theorem XW{I:List It}{k:Ky}{i:It}(h:wG I k=some i):i∈I∧i.k=k:=⟨List.mem_of_find?_eq_some h,by simpa using List.find?_some h⟩
theorem YC{I:List It}(hn:(keys I).Nodup){i:It}(hi:i∈I):wG I i.k=some i:=by
 induction I with
 | nil=>simp at hi
 | cons j I ih=>
  have hn2:=List.nodup_cons.1 hn;unfold wG;rw[List.find?_cons];rcases List.mem_cons.1 hi with rfl | hi
  ·rw[decide_eq_true rfl]
  ·have:j.k≠i.k:=fun e=>hn2.1 (by rw[show(keys I)=I.map (·.k) from rfl] at*; exact List.mem_map.2 ⟨i,hi,e.symm⟩)
   rw[decide_eq_false this];exact ih hn2.2 hi
theorem vg{I:List It}{k:Ky}:wG I k=none↔k ∉ keys I:=by
 unfold wG;rw[List.find?_eq_none];constructor
 ·intro h hk;obtain⟨i,hi,rfl⟩:=List.mem_map.1 hk;have:=h i hi;simp at this
 ·intro h i hi;have:i.k≠k:=fun e=>h (List.mem_map.2 ⟨i,hi,e⟩)
  simpa using this
theorem G7(W:List En)(k:Ky):(XD W k).map (·.i)=vS (W.map (·.i)) k:=by
 unfold XD vS;rw[List.filter_map];rfl
theorem U0(I:List It)(k:Ky):keys (vS I k)=(keys I).filter fun x=> !decide (x=k):=by
 unfold vS keys;rw[List.filter_map];rfl
theorem sO{W:List En}{k x:Ky}(h:x≠k):KM (XD W k) x=KM W x:=by
 unfold KM XD
 induction W with
 | nil=>rfl
 | cons e W ih=>
  rw[List.filter_cons,List.find?_cons];by_cases hk:e.i.k=k
  ·rw[if_neg (by simp[hk]),ih,decide_eq_false (show ¬e.i.k=x from fun q=>h (q.symm.trans hk))]
  ·rw[if_pos (by simp[hk]),List.find?_cons,ih]
theorem l7(W:List En)(k:Ky):KM (XD W k) k=none:=by
 unfold KM;rw[List.find?_eq_none];intro e he;have:=(List.mem_filter.1 he).2;simpa using this
theorem CB(W:List En)(k:Ky):KC (XD W k)=Wy (KC W) k none:=by
 funext x;unfold KC Wy;split
 ·next e=>rw[e,l7]; rfl
 ·next e=>rw[sO e]
theorem CF{W:List En}{e:En}(h:KM W e.i.k=none):KC (W++[e])=Wy (KC W) e.i.k (some ⟨some e.eb⟩):=by
 funext x;unfold KC Wy KM;rw[List.find?_append,List.find?_singleton];by_cases q:x=e.i.k
 ·subst q;have h2:W.find? (fun y=>decide (y.i.k=e.i.k))=none:=h;rw[if_pos rfl,if_pos (decide_eq_true rfl),h2];rfl
 ·rw[if_neg q,if_neg (by simpa using fun r=>q r.symm),Option.or_none]
theorem pW{W:List En}{k:Ky}(h:∀e∈W,e.i.k≠k):XD W k=W:=List.filter_eq_self.2 fun e he=>by simpa using h e he
/-- one of them, and the others -/
theorem VT:∀{W:List En} {e:En},(keys (W.map (·.i))).Nodup→e∈W→∃A B,W=A++e::B∧XD W e.i.k=A++B
 | y::W,e,hn,he=>by
  have hn2:=List.nodup_cons.1 hn;rcases List.mem_cons.1 he with rfl | he
  ·refine⟨[],W,rfl,?_⟩;unfold XD;rw[List.filter_cons,if_neg (by simp)];exact pW fun x hx q=>hn2.1 (List.mem_map.2 ⟨x.i,List.mem_map.2 ⟨x,hx,rfl⟩,q⟩)
  ·obtain⟨A,B,h1,h2⟩:=VT hn2.2 he;refine⟨y::A,B,by rw[h1]; rfl,?_⟩;have:y.i.k≠e.i.k:=fun q=>hn2.1 (List.mem_map.2 ⟨e.i,List.mem_map.2 ⟨e,he,rfl⟩,q.symm⟩)
   unfold XD at h2 ⊢;rw[List.filter_cons,if_pos (by simpa using this),h2]; rfl
theorem jF:∀{I:List It} {k:Ky},(keys I).Nodup→uH k (I.map It.de)=(vS I k).map It.de
 | [],_,_=>rfl
 | i::I,k,hn=>by
  have hn2:=List.nodup_cons.1 hn;have ih:=jF (k:=k) hn2.2;unfold uH at ih ⊢;unfold vS at ih ⊢;rw[List.map_cons,idx];by_cases hk:i.k=k
  ·rw[if_pos (show i.de.k=k from hk),List.filter_cons,if_neg (by simp[hk])];have:I.filter (fun i=> !decide (i.k=k))=I:=List.filter_eq_self.2 fun j hj=>by
    have:j.k≠k:=fun e=>hn2.1 (List.mem_map.2 ⟨j,hj,e.trans hk.symm⟩)
    simpa using this
   rw[this]; rfl
  ·rw[if_neg (show ¬i.de.k=k from hk),List.filter_cons,if_pos (by simp[hk])];cases hx:idx k (I.map It.de) with
   | none=>rw[hx] at ih; simp only[Option.map_none,List.map_cons]; rw[←ih]
   | some j=>rw[hx] at ih; simp only[Option.map_some,List.map_cons,List.eraseIdx_cons_succ]; rw[←ih]
theorem bU{I:List It}{k:Ky}(h:wG I k=none):uH k (I.map It.de)=I.map It.de:=by
 have:∀J:List It,k ∉ keys J→idx k (J.map It.de)=none:=fun J=>by
  induction J with
  | nil=>intro _; rfl
  | cons i J ih=>
   intro hk;have h1:i.de.k≠k:=fun e=>hk (List.mem_map.2 ⟨i,by simp,e⟩)
   rw[List.map_cons,idx,if_neg h1,ih fun hj=>hk (List.mem_cons_of_mem _ hj)]; rfl
 unfold uH;rw[this I (vg.1 h)]
theorem bS{P Q:List Ky}{I:List It}{k:Ky}(hn:(keys I).Nodup)(h:(P++Q).Perm (keys I)):(P.erase k++Q.erase k).Perm (keys (vS I k)):=by
 have hp:=h.nodup_iff.2 hn;obtain⟨h1,h2,_⟩:=List.nodup_append.1 hp;rw[U0,h1.erase_eq_filter,h2.erase_eq_filter, ←List.filter_append];have:=h.filter fun x=> !decide (x=k)
 refine .trans (.of_eq ?_) this;congr 1
theorem Q0{m:Int}{P Q:List Ky}{k:Ky}(hn:(P++Q).Nodup)(hk:k∈P∨k∈Q):(Xr m k P Q++Xq m k P Q).Perm (P++Q):=by
 have h0:(P.erase k++(Q.erase k++[k])).Perm (P++Q):=by
  obtain⟨h1,h2,h3⟩:=List.nodup_append.1 hn;rcases hk with hk | hk
  ·have hq:k ∉ Q:=fun q=>h3 k hk k q rfl
   rw[List.erase_of_not_mem hq];refine .trans ?_ ((List.perm_cons_erase hk).symm.append_right Q);rw[←List.append_assoc];exact List.perm_append_singleton _ _
  ·have hp:k ∉ P:=fun p=>h3 k p k hk rfl
   rw[List.erase_of_not_mem hp];refine .append_left P (.trans ?_ (List.perm_cons_erase hk).symm);exact List.perm_append_singleton _ _
 unfold Xr Xq;rw[if_pos hk,if_pos hk];split
 ·next hm=>
  refine .trans ?_ h0;rw[List.append_assoc];refine .append_left _ ?_;cases hQ:Q.erase k++[k] with
  | nil=>simp at hQ
  | cons x l=>simp
 ·exact h0
/-! ### what is there, by the arena's blocks -/
theorem Pk.prm{D:List (Option Bt)}{L:List Nm}{Z Z':List LS}(h:Pk D L Z)(p:Z.Perm Z'):Pk D L Z':=by
 have pB:(Kt Z).Perm (Kt Z'):=p.map _;refine⟨⟨h.inn.dis,h.inn.blk,fun x hx=>h.inn.oth x (pB.mem_iff.2 hx),fun i b hb=>(h.inn.all i b hb).imp id fun⟨x,hx,h2⟩=>⟨x,pB.mem_iff.1 hx,h2⟩,h.inn.us,h.inn.fold⟩,⟨h.liv.dis,fun e he=>?_,h.liv.pos,fun i hi=>h.liv.ids i ?_⟩,?_,fun z hz=>h.ok z (p.mem_iff.2 hz)⟩
 ·rw[h.liv.us e he];exact((p.map _).flatten).count_eq _
 ·exact((p.map _).flatten).mem_iff.2 hi
 ·exact(pB.map _).nodup_iff.1 h.hs
structure Sq(S:Ss)(W:List En)(D:List (Option Bt))(L:List Nm):Prop where
 its:W.map (·.i)=S.I
 pk:Pk D L (W.map En.z)
 kn:(keys S.I).Nodup
 kz:∀i∈S.I,i.k=Zq i.s
 pq:(S.P++S.Q).Perm (keys S.I)
 pn:∀i∈S.I,0≤i.pins∧i.pins≤1000
theorem Sq.sets{S:Ss}{W:List En}{D:List (Option Bt)}{L:List Nm}(h:Sq S W D L):(W.map En.z).map (·.s)=sets S.I:=by
 unfold Go.Proofs.YtekgciopamkjlaaGreat.sets;rw[←h.its,List.map_map,List.map_map];rfl
theorem Sq.used{S:Ss}{W:List En}{D:List (Option Bt)}{L:List Nm}(h:Sq S W D L):Zn D=UE (Go.Proofs.YtekgciopamkjlaaGreat.sets S.I):=by rw[h.pk.use,h.sets]
theorem Sq.left{N:Nat}{S:Ss}{W:List En}{D:List (Option Bt)}{L:List Nm}(h:Sq S W D L):((N-Zn D:Nat):Int)=UK N S:=by rw[h.used]; rfl
theorem Sq.cost{S:Ss}{W:List En}{D:List (Option Bt)}{L:List Nm}(h:Sq S W D L)(s:St):UQ L s=uJ (Go.Proofs.YtekgciopamkjlaaGreat.sets S.I) s:=by rw[h.pk.cst,h.sets]
theorem Sq.few{N:Nat}{S:Ss}{W:List En}{D:List (Option Bt)}{L:List Nm}(h:Sq S W D L)(hN:Zn D≤N):16*W.length≤N:=by
 have h1:=h.pk.inn.used h.pk.hs;have h2:∀B:List (Int × Bs),16*B.length≤(B.map fun x=>Z4 x.2.length).sum:=fun B=>by
  induction B with
  | nil=>exact Nat.le_refl _
  | cons x B ih=>
   have:=K8 x.2.length;rw[List.map_cons,List.sum_cons,List.length_cons]; omega
 have h3:=h2 (Kt (W.map En.z));have h4:(Kt (W.map En.z)).length=W.length:=by unfold Kt; simp
 omega
theorem GQ{L:List Nm}{Z:List LS}(h:∀z∈Z,w9 z.s=0∧YF z.s∧Al L z.ids ((Ze z.s).map zM)):(qF Z).length≤66*Z.length:=by
 induction Z with
 | nil=>exact Nat.le_refl _
 | cons z Z ih=>
  have h1:=ih fun y hy=>h y (List.mem_cons_of_mem _ hy)
  obtain⟨h2,_,h3⟩:=h z (by simp);have h4:=h3.len;have h5:=U1 z.s;have h6:=(U4 (U7 h2).1).2.2.2.2.2.2.1;rw[List.length_map] at h4;unfold qF at h1 ⊢;rw[List.map_cons,List.flatten_cons,List.length_append,List.length_cons];omega
theorem Sq.us{N:Nat}{S:Ss}{W:List En}{D:List (Option Bt)}{L:List Nm}(h:Sq S W D L)(hN:Zn D≤N)(hb:N≤1048576):∀e∈L,e.u<2 ^ 50:=fun e he=>by
 have h1:=h.few hN;have h2:=GQ (L:=L) h.pk.ok;rw[List.length_map] at h2;have:=h.pk.us h2 e he;omega
theorem Sq.len{S:Ss}{W:List En}{D:List (Option Bt)}{L:List Nm}(h:Sq S W D L):W.length=S.I.length∧S.P.length+S.Q.length=S.I.length:=by
 refine⟨by rw[←h.its,List.length_map],?_⟩;have:=h.pq.length_eq;rw[List.length_append] at this;unfold keys at this;rw[List.length_map] at this;exact this
theorem Sq.Mj{S:Ss}{W:List En}{D:List (Option Bt)}{L:List Nm}(h:Sq S W D L):(keys (W.map (·.i))).Nodup:=by rw[h.its]; exact h.kn
theorem Sq.Pj{S:Ss}{W:List En}{D:List (Option Bt)}{L:List Nm}(h:Sq S W D L){e:En}(he:e∈W):Ue (W.map En.z) e.h=(XD W e.i.k).map En.z:=by
 obtain⟨A,B,h1,h2⟩:=VT h.Mj he;rw[h2,h1];have hh:=h.pk.hs;unfold Hs Kt at hh;rw[h1,List.map_map,List.map_map,List.map_append,List.map_cons] at hh;obtain⟨_,h4,h5⟩:=List.nodup_append.1 hh;have h6:=(List.nodup_cons.1 h4).1;unfold Ue;rw[List.map_append,List.filter_append,List.map_cons,List.filter_cons,if_neg (by show ¬((En.z e).h !=e.h)=true; simp[En.z]),List.map_append];congr 1
 ·refine List.filter_eq_self.2 fun z hz=>?_
  obtain⟨y,hy,rfl⟩:=List.mem_map.1 hz;have:y.h≠e.h:=h5 y.h (List.mem_map.2 ⟨y,hy,rfl⟩) e.h (by show e.h∈e.h::_; exact List.mem_cons_self);simpa[En.z] using this
 ·refine List.filter_eq_self.2 fun z hz=>?_
  obtain⟨y,hy,rfl⟩:=List.mem_map.1 hz;have:y.h≠e.h:=fun q=>h6 (List.mem_map.2 ⟨y,hy,q⟩)
  simpa[En.z] using this
theorem vR(I:List It)(k:Ky):(vS I k).Sublist I:=List.filter_sublist
theorem Sq.gone{S:Ss}{W:List En}{D D':List (Option Bt)}{L:List Nm}(h:Sq S W D L){e:En}(he:e∈W)(hI:Vi D' (drops L e.ids) (Qi (Kt (W.map En.z)) e.h)):Sq (jo e.i.k S) (XD W e.i.k) D' (drops L e.ids):=by
 have hz:e.z∈W.map En.z:=List.mem_map.2 ⟨e,he,rfl⟩;have h1:=h.pk.drop hz hI;have h2:Ue (W.map En.z) e.z.h=_:=h.Pj he;rw[h2] at h1;refine⟨?_,h1,?_,fun i hi=>h.kz i ((vR _ _).subset hi),bS h.kn h.pq,fun i hi=>h.pn i ((vR _ _).subset hi)⟩
 ·rw[G7,h.its]; rfl
 ·exact((vR S.I e.i.k).map _).nodup h.kn
theorem Sq.ev{S:Ss}{W:List En}{D:List (Option Bt)}{L:List Nm}{V:List Ky}(h:Sq S W D L):Sq ⟨S.I,S.P,S.Q,V⟩ W D L:=⟨h.its,h.pk,h.kn,h.kz,h.pq,h.pn⟩
theorem Sq.touch{S:Ss}{W:List En}{D:List (Option Bt)}{L:List Nm}{m:Int}{k:Ky}(h:Sq S W D L)(hk:k∈keys S.I):Sq ⟨S.I,Xr m k S.P S.Q,Xq m k S.P S.Q,S.V⟩ W D L:=
 ⟨h.its,h.pk,h.kn,h.kz,.trans (Q0 (h.pq.nodup_iff.2 h.kn) (List.mem_append.1 (h.pq.mem_iff.2 hk))) h.pq,h.pn⟩
theorem Sq.nil:Sq ⟨[],[],[],[]⟩ [] [] []:=⟨rfl,Pk.nil,List.nodup_nil,fun i hi=>by simp at hi,.nil,fun i hi=>by simp at hi⟩
theorem Sq.put{N:Nat}{S:Ss}{W:List En}{D D':List (Option Bt)}{L:List Nm}(h:Sq S W D L){s:St}(hE:w9 s=0)(hs:YF s)(he:(Wq N D L (Ze s)).e=0)
 (hI:Vi D' (Wq N D L (Ze s)).L ((((hnd (Wq N D L (Ze s)).D:Nat):Int),vB s (Wq N D L (Ze s)).ids)::Kt (W.map En.z))) (hh:Hs ((((hnd (Wq N D L (Ze s)).D:Nat):Int),vB s (Wq N D L (Ze s)).ids)::Kt (W.map En.z)))
 (hk:wG S.I (Zq s)=none) (rank came exp:Int) (eb:Nat):
 Sq ⟨S.I++[⟨Zq s,s,rank,came,exp,0⟩],S.P++[Zq s],S.Q,S.V⟩ (W++[⟨⟨Zq s,s,rank,came,exp,0⟩,((hnd (Wq N D L (Ze s)).D:Nat):Int),(Wq N D L (Ze s)).ids,eb⟩]) D' (Wq N D L (Ze s)).L:=by
 have h1:=h.pk.put hE hs he hI hh;refine⟨by rw[List.map_append,h.its]; rfl,?_,?_,?_,?_,?_⟩
 ·rw[List.map_append];exact h1.prm (List.perm_append_singleton _ _).symm
 ·unfold keys;rw[List.map_append];refine List.nodup_append.2 ⟨h.kn,by simp,fun a ha b hb q=>?_⟩;simp at hb;exact vg.1 hk (by rw[←hb, ←q]; exact ha)
 ·intro i hi;rcases List.mem_append.1 hi with hi | hi
  ·exact h.kz i hi
  ·rw[List.mem_singleton.1 hi]
 ·unfold keys;rw[List.map_append];have:((S.P++[Zq s])++S.Q).Perm ((S.P++S.Q)++[Zq s]):=by
   rw[List.append_assoc,List.append_assoc];exact .append_left _ List.perm_append_comm
  exact this.trans (h.pq.append_right _)
 ·intro i hi;rcases List.mem_append.1 hi with hi | hi
  ·exact h.pn i hi
  ·rw[List.mem_singleton.1 hi];exact⟨Int.le_refl 0,by show(0:Int)≤1000; omega⟩
theorem xU:Tryz.prog.underlying 144=some (.map 43 182):=by kernel_rfl
theorem Cj:Key.ok Ky Tryz.prog 43:=show DL Tryz.prog 43=true by kernel_rfl
theorem Et:(Tryz.prog.info? 182).bind (·.zero)=some (.pointer none):=by kernel_rfl
theorem CY:isAgg? Tryz.prog 43=some true:=by kernel_rfl
abbrev enl(e:En):Array Value:= #[.int .i64 e.h,.int .i64 e.i.rank,.int .i64 e.i.came,.int .i64 e.i.exp,.int .i64 e.i.pins]
abbrev QE(e:En):List Chunk:=[(e.eb,.cells (enl e) 184)]
def Es(W:List En):zL:=W.map QE
theorem dB(A B:List En):Es (A++B)=Es A++Es B:=List.map_append
theorem Kv{W:List En}{e:En}(h:e∈W):QE e∈Es W:=List.mem_map.2 ⟨e,h,rfl⟩
abbrev wX(sb ab tb mb lb db:Nat)(ev:Value):List Chunk:=[(sb,.cells #[.pointer (some ⟨ab,0,none⟩),.pointer (some ⟨tb,0,none⟩),.map (some mb),.pointer (some ⟨lb,0,none⟩),.pointer (some ⟨db,0,none⟩),ev] 148)]
def sH(sb ab tb mb lb db:Nat)(ev:Value)(HA HT HM HL HD HV:List Chunk)(W:List En):List Chunk:=wX sb ab tb mb lb db ev++(HA++(HT++(HM++(HL++(HD++(HV++(Es W).flatten))))))
structure Sp(N:Nat)(S:Ss)(W:List En)(D:List (Option Bt))(L:List Nm)(ab tb mb lb db:Nat)(ev:Value)(HA HT HM HL HD HV:List Chunk):Prop where
 q:Sq S W D L
 a:Ar ab N D HA
 t:Tb tb ab L HT
 m:Mp mb (KC W) W.length HM
 l:Lr lb ((N/512:Nat):Int) S.P S.Q HL
 d:Du db (S.I.map It.de) HD
 v:Zg 43 ev S.V HV
/-- a store of N bytes, as one piece of memory -/
def Sr(sb N:Nat)(S:Ss)(H:List Chunk):Prop:=∃(W:List En) (D:List (Option Bt)) (L:List Nm) (ab tb mb lb db:Nat) (ev:Value) (HA HT HM HL HD HV:List Chunk),Sp N S W D L ab tb mb lb db ev HA HT HM HL HD HV∧H=sH sb ab tb mb lb db ev HA HT HM HL HD HV W
theorem Sr.mk{sb N:Nat}{S:Ss}{W:List En}{D:List (Option Bt)}{L:List Nm}{ab tb mb lb db:Nat}{ev:Value}{HA HT HM HL HD HV:List Chunk}(h:Sp N S W D L ab tb mb lb db ev HA HT HM HL HD HV):Sr sb N S (sH sb ab tb mb lb db ev HA HT HM HL HD HV W):=⟨W,D,L,ab,tb,mb,lb,db,ev,HA,HT,HM,HL,HD,HV,h,rfl⟩
theorem Sp.nb{N:Nat}{S:Ss}{W:List En}{D:List (Option Bt)}{L:List Nm}{ab tb mb lb db:Nat}{ev:Value}{HA HT HM HL HD HV:List Chunk}(h:Sp N S W D L ab tb mb lb db ev HA HT HM HL HD HV):N≤1048576∧Zn D≤N∧16*S.I.length≤N∧W.length=S.I.length∧S.P.length+S.Q.length=S.I.length:=by
 obtain⟨h1,h2,h3,_⟩:=h.a.J3;obtain⟨h4,h5⟩:=h.q.len;exact⟨h3,h1,by have:=h.q.few h1; omega,h4,h5⟩
theorem Sr.nb{sb N:Nat}{S:Ss}{H:List Chunk}(h:Sr sb N S H):N≤1048576∧16*S.I.length≤N∧S.P.length+S.Q.length=S.I.length∧UE (sets S.I)≤N:=by
 obtain⟨W,D,L,ab,tb,mb,lb,db,ev,HA,HT,HM,HL,HD,HV,h,rfl⟩:=h;obtain⟨h1,h2,h3,h4,h5⟩:=h.nb;exact⟨h1,h3,h5,by rw[←h.q.used]; exact h2⟩
/-- opened, and closed again -/
theorem Tri.sp{P:Program}{f:FuncId}{args:Array Value}{R:Value→zL→Prop}{S0:zL}{sb ab tb mb lb db:Nat}{ev:Value}{HA HT HM HL HD HV:List Chunk}{W:List En}(h:Tri P f args (wX sb ab tb mb lb db ev::HA::HT::HM::HL::HD::HV::(Es W++S0)) R):Tri P f args (sH sb ab tb mb lb db ev HA HT HM HL HD HV W::S0) R:=h.perm (by simp[sH])
theorem Tri.EW{P:Program}{f:FuncId}{args:Array Value}{R:Value→zL→Prop}{sb ab tb mb lb db:Nat}{ev:Value}{HA HT HM HL HD HV:List Chunk}{W:List En}(h:Tri P f args (wX sb ab tb mb lb db ev::HA::HT::HM::HL::HD::HV::Es W) R):Tri P f args [sH sb ab tb mb lb db ev HA HT HM HL HD HV W] R:=h.perm (by simp[sH])
theorem zG.sp{S G:zL}{sb ab tb mb lb db:Nat}{ev:Value}{HA HT HM HL HD HV:List Chunk}{W:List En}[h:Sub S (wX sb ab tb mb lb db ev::HA::HT::HM::HL::HD::HV::Es W) G]:zG S [sH sb ab tb mb lb db ev HA HT HM HL HD HV W]:=zG.trans (zG.of (h:=h)) ⟨[],by simp[sH]⟩
theorem zG.spc{x:List Chunk}{S G:zL}{sb ab tb mb lb db:Nat}{ev:Value}{HA HT HM HL HD HV:List Chunk}{W:List En}[h:Sub S (x::wX sb ab tb mb lb db ev::HA::HT::HM::HL::HD::HV::Es W) G]:zG S [x,sH sb ab tb mb lb db ev HA HT HM HL HD HV W]:=zG.trans (zG.of (h:=h)) ⟨[],by simp[sH]⟩
theorem zG.op{S S1 G:zL}{sb ab tb mb lb db:Nat}{ev:Value}{HA HT HM HL HD HV:List Chunk}{W:List En}[h:Sub S (sH sb ab tb mb lb db ev HA HT HM HL HD HV W::S1) G]:zG S (wX sb ab tb mb lb db ev::HA::HT::HM::HL::HD::HV::(Es W++S1)):=zG.trans (zG.of (h:=h)) ⟨[],by simp[sH]⟩
theorem QF{W:List En}{k:Ky}{e:En}(h:KM W k=some e):((KC W k).map Vv.vv).getD (.pointer none)= .pointer (some ⟨e.eb,0,none⟩):=by unfold KC; rw[h]; rfl
theorem OM{W:List En}{k:Ky}(h:KM W k=none):((KC W k).map Vv.vv).getD (.pointer none)= .pointer none:=by unfold KC; rw[h]; rfl
set_option maxRecDepth 10000 in
theorem Dm{n:Nat}(hn:2048≤n∧n≤1048576){z:Int}(hz:z=n):Tri Tryz.prog 76 #[.int .i64 z] [] (fun r S=>∃sb H,r= .tuple #[.pointer (some ⟨sb,0,none⟩),.int .i64 0]∧Sr sb n ⟨[],[],[],[]⟩ H∧S=[H]):=by
 subst hz;refine Tri.forget (zq Tryz.S9 (Nat.le_of_ble_eq_true rfl) ?_);unfold Tryz.TP;refine ze (z8 (yp pC (yp pC (zf (za (ze (ze (z8 (yp (pI rfl) (yp (ZE rfl rfl) (yp (pB rfl) ?_)))))))))));rw[decide_eq_false (show ¬(n:Int)<2048 from by omega)];refine zK rfl (zQ (pI rfl) (zK rfl (zQ (WS rfl rfl) (yp (zD rfl rfl) (zf (za ?_))))));rw[decide_eq_false (show ¬(1048576:Int)<(n:Int) from by omega)];refine zo rfl (zl (za (ze (z8 (yp (pI rfl) ?_)))));refine zh (zk (GK (n:=n) (by omega) rfl) rfl rfl fun r S' h=>?_);obtain⟨ab,HA,rfl,hA,rfl⟩:=h;refine yp (pU rfl) (yp (pExt rfl rfl) (yp (pExt rfl rfl) (yp (pP rfl) (yp (pI rfl) (zf (za (ze (z8 (yp (pP rfl) (yp (pP rfl) ?_))))))))));refine zh (zk (Li (ab:=ab)) rfl rfl fun r S' h=>?_);obtain⟨tb,HT,rfl,hT,rfl⟩:=h;refine zh (jU Ky Ptr fun mb HM hM=>?_);refine yp (pI rfl) (yp (FY rfl rfl (by decide) (by omega)) ?_);rw[show(n:Int).tdiv 512=((n/512:Nat):Int) from rfl];refine zh (zk (Ma ((n/512:Nat):Int)) rfl rfl fun r S' h=>?_);obtain⟨lb,HL,rfl,hL,rfl⟩:=h;refine zh (zk Me rfl rfl fun r S' h=>?_);obtain⟨db,HD,rfl,hD,rfl⟩:=h;rw[show max ((n/512:Nat):Int) 0=((n/512:Nat):Int) from by omega] at hL;refine yp (v:= .agg #[.pointer (some ⟨ab,0,none⟩),.pointer (some ⟨tb,0,none⟩),.map (some mb),.pointer (some ⟨lb,0,none⟩),.pointer (some ⟨db,0,none⟩),.slice none 0 0]) rfl ?_;refine zh (ZC rfl fun p26=>?_);refine yp (pP rfl) (yp pC (zf (za (zJ ?_))));exact zI (P9 rfl rfl) ⟨_,zG.re (S1:=[wX p26 ab tb mb lb db (.slice none 0 0),HA,HT,HM,HL,HD]) (S2:=[sH p26 ab tb mb lb db (.slice none 0 0) HA HT HM HL HD [] []]) (by simp[sH,Es]),p26,_,rfl,Sr.mk ⟨Sq.nil,hA,hT,hM,hL,hD,.nil⟩,rfl⟩
theorem Bn{sb N:Nat}{S:Ss}{H:List Chunk}(hS:Sr sb N S H):Tri Tryz.prog 40 #[.pointer (some ⟨sb,0,none⟩)] [H] (fun r S'=>r= .int .i64 (S.I.length:Nat)∧S'=[H]):=by
 obtain⟨W,D,L,ab,tb,mb,lb,db,ev,HA,HT,HM,HL,HD,HV,h,rfl⟩:=hS;refine Tri.forget (Tri.EW (zq Tryz.SQ (Nat.le_of_ble_eq_true rfl) ?_));unfold Tryz.x40;refine ze (z8 (yp pC (zf (za (ze (ze (z8 (yp (pP rfl) (yp (wh rfl rfl) (zf (za (zo rfl (zl (za (ze (z8 (yp (pP rfl) (yp (zX rfl) (yp (zx rfl) ?_)))))))))))))))))));refine zh (zy rfl rfl ?_);refine zh (He h.m (by repeat (first | exact List.mem_cons_self | apply List.mem_cons_of_mem)) xU rfl ?_);rw[h.q.len.1];refine yp (pI rfl) (zf (za (zJ ?_)));exact zI (rI rfl) ⟨_,zG.sp,rfl,rfl⟩
theorem yx{sb N:Nat}{S:Ss}{H:List Chunk}(hS:Sr sb N S H):Tri Tryz.prog 46 #[.pointer (some ⟨sb,0,none⟩)] [H] (fun r S'=>∃H' HV,Zg 43 r S.V HV∧Sr sb N ⟨S.I,S.P,S.Q,[]⟩ H'∧S'=[HV,H']):=by
 obtain⟨W,D,L,ab,tb,mb,lb,db,ev,HA,HT,HM,HL,HD,HV,h,rfl⟩:=hS;refine Tri.forget (Tri.EW (zq Tryz.SI (Nat.le_of_ble_eq_true rfl) ?_));unfold Tryz.x46;have hV:=h.v;obtain⟨a,c,rfl⟩:=hV.isSlice;refine ze (z8 (yp pC (zf (za (ze (ze (z8 (yp (pP rfl) (yp (wh rfl rfl) (zf (za (zo rfl (zl (za (ze (z8 (yp (pP rfl) (yp (zX rfl) (yp (zx rfl) ?_)))))))))))))))))));refine zh (zy rfl rfl ?_);refine yp (pS rfl) (zf (za (ze (z8 (yp (pP rfl) (yp (zX rfl) (yp (zx rfl) ?_)))))));refine zh (mE rfl rfl (YZ rfl) ?_);refine zf (za (ze (z8 (yp (pS rfl) (yp (pS rfl) (zf (za (zJ ?_))))))));exact zI (rS rfl) ⟨_,zG.spc (HV:=[]),_,HV,hV,Sr.mk (W:=W) ⟨h.q.ev,h.a,h.t,h.m,h.l,h.d,.nil⟩,rfl⟩
theorem dQ:sizeOf? Tryz.prog 43=some 2:=by kernel_rfl
theorem Yb:isAgg? Tryz.prog 136=some true:=by kernel_rfl
theorem Y5:sizeOf? Tryz.prog 136=some 9:=by kernel_rfl
theorem aR(k:Ky)(hk:k.n.length<2 ^ 62):Tri Tryz.prog 125 #[.agg (vC k)] [] (fun r S=>r= .agg (vC (fk k))∧S=[]):=by
 refine Tri.forget (zq Tryz.Oh (Nat.le_of_ble_eq_true rfl) ?_);unfold Tryz.IJ;refine ze (z8 ?_);refine zh (ZC rfl fun p1=>?_);refine zh (Z5 fun p2=>?_);refine zf (za (ze (Z6 (zi (zx rfl) (Zb rfl rfl (zi (zx rfl) (Zb rfl rfl ?_)))))));refine Zd (zk (JA k.n hk) rfl rfl fun r S' h=>?_) zN;obtain⟨rfl,rfl⟩:=h;refine⟨by simp,?_⟩;refine zi (Zr (xW rfl) (vH rfl)) ?_;refine zO (Zv rfl rfl rfl rfl rfl ?_) zN;refine zH (za (zJ ?_));exact zI (jd (KF (b:=p2) CY dQ rfl rfl)) ⟨[],.of,rfl,rfl⟩
theorem YU(n most:Int):Tri Tryz.prog 124 #[.int .i64 n,.int .i64 most] [] (fun r S=>r= .bool (AJ n most)∧S=[]):=by
 refine Tri.forget (zq Tryz.Oi (Nat.le_of_ble_eq_true rfl) ?_);unfold Tryz.IK AJ;refine ze (z8 (yp pC (zf (za (ze (z8 (yp (pI rfl) (yp (Ux rfl rfl) (yp (pB rfl) ?_)))))))));by_cases h:0≤n
 ·rw[decide_eq_true h];refine zK rfl (zQ (pI rfl) (zK rfl (zQ (pI rfl) (zK rfl (zQ (XB rfl rfl) (yp (zw rfl rfl) (yp (pB rfl) (zf (za (zJ ?_))))))))));exact zI (rB rfl) ⟨_,.of,rfl,rfl⟩
 ·rw[decide_eq_false h];refine zP rfl (zP rfl (zP rfl (yp (zD rfl rfl) (yp (pB rfl) (zf (za (zJ ?_)))))));exact zI (rB rfl) ⟨_,.of,rfl,rfl⟩
def Pb(o:Option En):Value:= .pointer (o.map fun e=>⟨e.eb,0,none⟩)
theorem OL(W:List En)(k:Ky):((KC W k).map Vv.vv).getD (.pointer none)=Pb (KM W k):=by
 unfold KC Pb;cases KM W k<;>rfl
theorem nV{sb ab tb mb lb db n:Nat}{ev:Value}{W:List En}{HM:List Chunk}(hM:Mp mb (KC W) n HM)(k:Ky)(hk:k.n.length<2 ^ 62):
 Tri Tryz.prog 132 #[.pointer (some ⟨sb,0,none⟩),.agg (vC k)] [wX sb ab tb mb lb db ev,HM] (fun r S=>r=Pb (KM W (fk k))∧S=[wX sb ab tb mb lb db ev,HM]):=by
 refine Tri.forget (zq Tryz.Ea (Nat.le_of_ble_eq_true rfl) ?_);unfold Tryz.EO;refine ze (z8 ?_);refine zh (ZC rfl fun p3=>?_);refine yp pC (zf (za (ze (ze (z8 (yp (pP rfl) (yp (wh rfl rfl) (zf (za (zo rfl (zl (za (ze (Z6 (zi (pP rfl) (zi (zX rfl) (zi (zx rfl) (Zb rfl rfl (vO rfl rfl ?_)))))))))))))))))));refine Zd (zk (aR k hk) rfl rfl fun r S' h=>?_) zN;obtain⟨rfl,rfl⟩:=h;refine⟨by simp,?_⟩;refine zO (uM hM (by repeat (first | exact List.mem_cons_self | apply List.mem_cons_of_mem)) (fk k) xU Cj Et rfl rfl (OL W (fk k)) ?_) zN;refine zi (v:=Pb (KM W (fk k))) rfl (zH (za (zJ ?_)));exact zI (rP rfl) ⟨_,.of,rfl,rfl⟩
theorem Bl(k:Ky):Tri Tryz.prog 132 #[.pointer none,.agg (vC k)] [] (fun r S=>r= .pointer none∧S=[]):=by
 refine Tri.forget (zq Tryz.Ea (Nat.le_of_ble_eq_true rfl) ?_);unfold Tryz.EO;refine ze (z8 ?_);refine zh (ZC rfl fun p3=>?_);refine yp pC (zf (za (ze (ze (z8 (yp (pP rfl) (yp (wh rfl rfl) (zf (za (zC rfl (ze (z8 (yp pC (zf (za (zJ (zV ?_)))))))))))))))));exact zI (rP rfl) ⟨_,.of,rfl,rfl⟩
/-- an item as it is told -/
abbrev mq(i:It)(v:Value):Array Value:= #[sv (Zh i.s).name,.int .i64 (Zh i.s).typ,v,.int .i64 (Zh i.s).kind,sv (Zh i.s).zone,.int .i64 i.rank,.int .i64 i.came,.int .i64 i.exp,.int .i64 i.pins]
abbrev yD:Array Value:= #[.string ⟨#[]⟩,.int .i64 0,.slice none 0 0,.int .i64 0,.string ⟨#[]⟩,.int .i64 0,.int .i64 0,.int .i64 0,.int .i64 0]
theorem nT{sb N ab tb mb lb db:Nat}{ev:Value}{S:Ss}{W:List En}{D:List (Option Bt)}{L:List Nm}{HA HT:List Chunk}(hq:Sq S W D L)(hA:Ar ab N D HA)(hT:Tb tb ab L HT){e:En}(he:e∈W):
 Tri Tryz.prog 133 #[.pointer (some ⟨sb,0,none⟩),.pointer (some ⟨e.eb,0,none⟩)] [wX sb ab tb mb lb db ev,HA,HT,QE e] (fun r S=>∃v HR,r= .agg (mq e.i v)∧Zg 89 v (Zh e.i.s).rrs HR∧S=[HR,wX sb ab tb mb lb db ev,HA,HT,QE e]):=by
 have hz:e.z∈W.map En.z:=List.mem_map.2 ⟨e,he,rfl⟩;obtain⟨hE,hs,hal⟩:=hq.pk.ok _ hz;have hC:=LH hT hA hq.pk.inn (qx hz) hE hal;refine Tri.forget (zq Tryz.O9 (Nat.le_of_ble_eq_true rfl) ?_);unfold Tryz.Iy;refine ze (z8 ?_);refine zh (Z5 fun p4=>?_);refine zf (za (ze (wU (R:=[wX sb ab tb mb lb db ev,QE e]) (by simp) (zi (pP rfl) (zi (zX rfl) (zi (zx rfl) (Zb rfl rfl (zi (pP rfl) (zi (zX rfl) (zi (zx rfl) (Zb rfl rfl (zi (pP rfl) (zi (zX rfl) (zi (zx rfl) (Zb rfl rfl ?_)))))))))))))));refine zO (zk hC rfl rfl fun r S' h=>?_) (Zd (Z5 fun p5=>⟨by simp,?_⟩) zN)
 ·obtain⟨v,HR,rfl,hR,rfl⟩:=h;obtain⟨a,c,rfl⟩:=hR.isSlice;refine zi (pU rfl) (zi (pExt rfl rfl) (zi (pExt rfl rfl) ?_));refine Zd (Z5 fun p5=>⟨(by first | exact fun _ h=>List.mem_cons_of_mem _ h | simp),?_⟩) zN;refine zO (Zv rfl rfl rfl rfl rfl ?_) zN;refine zi (pI rfl) (zH (za (ze (Z6 (vO rfl rfl (zi (pP rfl) (zi (zX rfl) (zi (zx rfl) (Zb rfl rfl (zi (pP rfl) (zi (zX rfl) (zi (zx rfl) (Zb rfl rfl (zi (pP rfl) (zi (zX rfl) (zi (zx rfl) (Zb rfl rfl (zi (pP rfl) (zi (zX rfl) (zi (zx rfl) (Zb rfl rfl (zi (v:= .agg (mq e.i (.slice a (Zh e.z.s).rrs.length c))) rfl ?_))))))))))))))))))))));refine zO (Zv rfl rfl rfl rfl rfl ?_) zN;refine zH (za (zJ ?_));exact zI (jd (KF (b:=p4) Yb Y5 rfl rfl)) ⟨_,.of,_,HR,rfl,hR,rfl⟩
 ·refine zO (zk hC rfl rfl fun r S' h=>?_) zN;obtain⟨v,HR,rfl,hR,rfl⟩:=h;obtain⟨a,c,rfl⟩:=hR.isSlice;refine zi (pU rfl) (zi (pExt rfl rfl) (zi (pExt rfl rfl) ?_));refine zO (Zv rfl rfl rfl rfl rfl ?_) zN;refine zi (pI rfl) (zH (za (ze (Z6 (vO rfl rfl (zi (pP rfl) (zi (zX rfl) (zi (zx rfl) (Zb rfl rfl (zi (pP rfl) (zi (zX rfl) (zi (zx rfl) (Zb rfl rfl (zi (pP rfl) (zi (zX rfl) (zi (zx rfl) (Zb rfl rfl (zi (pP rfl) (zi (zX rfl) (zi (zx rfl) (Zb rfl rfl (zi (v:= .agg (mq e.i (.slice a (Zh e.z.s).rrs.length c))) rfl ?_))))))))))))))))))))));refine zO (Zv rfl rfl rfl rfl rfl ?_) zN;refine zH (za (zJ ?_));exact zI (jd (KF (b:=p4) Yb Y5 rfl rfl)) ⟨_,.of,_,HR,rfl,hR,rfl⟩
theorem XA(X A B C:List Chunk):(X++(A++(B++C))).Perm (X++(B++(A++C))):=by
 refine .append_left X ?_;rw[←List.append_assoc, ←List.append_assoc];exact List.perm_append_comm.append_right C
theorem dA(A B:List En)(e:En):(Es (A++e::B)).flatten=(Es A).flatten++(QE e++(Es B).flatten):=by
 rw[dB,List.flatten_append]; rfl
/-- one entry taken out of the others; put back, or left -/
theorem zG.cons{x:List Chunk}{S T:zL}(h:zG S T):zG (x::S) (x::T):=by
 obtain⟨G,h⟩:=h;refine⟨G,?_⟩;rw[List.flatten_cons,List.flatten_cons,List.append_assoc];exact h.append_left x
theorem zG.em{x:List Chunk}{sb ab tb mb lb db:Nat}{ev:Value}{HA HT HM HL HD HV:List Chunk}{A B:List En}{e:En}:
 zG (x::wX sb ab tb mb lb db ev::HA::HT::HM::HL::HD::HV::Es (A++e::B)) (x::QE e::wX sb ab tb mb lb db ev::HA::HT::HM::HL::HD::HV::(Es A++Es B)):=⟨[],by
 simp only[List.flatten_cons,dA,List.flatten_append,List.append_nil];refine .append_left x ?_;have:=XA [] (wX sb ab tb mb lb db ev++(HA++(HT++(HM++(HL++(HD++(HV++(Es A).flatten))))))) (QE e) (Es B).flatten;simpa only[List.nil_append,List.append_assoc] using this⟩
theorem zG.ec{x:List Chunk}{S G:zL}{sb ab tb mb lb db:Nat}{ev:Value}{HA HT HM HL HD HV:List Chunk}{A B:List En}{e:En}[h:Sub S (x::QE e::wX sb ab tb mb lb db ev::HA::HT::HM::HL::HD::HV::(Es A++Es B)) G]:
 zG S [x,sH sb ab tb mb lb db ev HA HT HM HL HD HV (A++e::B)]:=zG.trans (zG.of (h:=h)) ⟨[],by
 simp only[sH,List.flatten_cons,List.flatten_nil,dA,List.flatten_append,List.append_nil];refine .append_left x ?_;have:=(XA [] (wX sb ab tb mb lb db ev++(HA++(HT++(HM++(HL++(HD++(HV++(Es A).flatten))))))) (QE e) (Es B).flatten).symm;simpa only[List.nil_append,List.append_assoc] using this⟩
theorem zG.ec0{S G:zL}{sb ab tb mb lb db:Nat}{ev:Value}{HA HT HM HL HD HV:List Chunk}{A B:List En}{e:En}[h:Sub S (QE e::wX sb ab tb mb lb db ev::HA::HT::HM::HL::HD::HV::(Es A++Es B)) G]:
 zG S [sH sb ab tb mb lb db ev HA HT HM HL HD HV (A++e::B)]:=zG.trans (zG.of (h:=h)) ⟨[],by
 simp only[sH,List.flatten_cons,List.flatten_nil,dA,List.flatten_append,List.append_nil];have:=(XA [] (wX sb ab tb mb lb db ev++(HA++(HT++(HM++(HL++(HD++(HV++(Es A).flatten))))))) (QE e) (Es B).flatten).symm;simpa only[List.nil_append,List.append_assoc] using this⟩
theorem zG.sd{S G:zL}{sb ab tb mb lb db:Nat}{ev:Value}{HA HT HM HL HD HV:List Chunk}{A B:List En}[h:Sub S (wX sb ab tb mb lb db ev::HA::HT::HM::HL::HD::HV::(Es A++Es B)) G]:
 zG S [sH sb ab tb mb lb db ev HA HT HM HL HD HV (A++B)]:=zG.trans (zG.of (h:=h)) ⟨[],by simp[sH,dB]⟩
theorem zG.op1{x:List Chunk}{S G:zL}{sb ab tb mb lb db:Nat}{ev:Value}{HA HT HM HL HD HV:List Chunk}{W:List En}[h:Sub S [x,sH sb ab tb mb lb db ev HA HT HM HL HD HV W] G]:zG S (x::wX sb ab tb mb lb db ev::HA::HT::HM::HL::HD::HV::Es W):=zG.trans (zG.of (h:=h)) ⟨[],by simp[sH]⟩
theorem BS{W:List En}{e:En}(hn:(keys (W.map (·.i))).Nodup)(he:e∈W):JC (KC W) e.i.k W.length=(XD W e.i.k).length:=by
 obtain⟨A,B,h1,h2⟩:=VT hn he;have hf:(KC W e.i.k).isSome=true:=by
  unfold KC KM;cases h:W.find? (fun x=>decide (x.i.k=e.i.k)) with
  | none=>have:=List.find?_eq_none.1 h e he; simp at this
  | some x=>rfl
 unfold JC;rw[if_pos hf,h2,h1];simp
theorem kY{S:Ss}{W:List En}{D:List (Option Bt)}{L:List Nm}(hq:Sq S W D L){k:Ky}{i:It}(h:wG S.I k=some i):∃e,KM W k=some e∧e∈W∧e.i=i∧i.k=k:=by
 rw[←hq.its,gT] at h;obtain⟨e,he,rfl⟩:=Option.map_eq_some_iff.1 h;exact⟨e,he,(Qz he).1,rfl,(Qz he).2⟩
theorem JV{S:Ss}{W:List En}{D:List (Option Bt)}{L:List Nm}(hq:Sq S W D L){k:Ky}(h:wG S.I k=none):KM W k=none:=by
 rw[←hq.its,gT] at h;exact Option.map_eq_none_iff.1 h
theorem nU{sb N:Nat}{S:Ss}{H:List Chunk}(hS:Sr sb N S H){k:Ky}{i:It}(hk:wG S.I k=some i):
 Tri Tryz.prog 126 #[.pointer (some ⟨sb,0,none⟩),.agg (vC k)] [H] (fun r S'=>r= .tuple #[]∧∃H',Sr sb N (jo k S) H'∧S'=[H']):=by
 have hnb:=hS.nb;obtain⟨W,D,L,ab,tb,mb,lb,db,ev,HA,HT,HM,HL,HD,HV,h,rfl⟩:=hS;obtain⟨e,hf,he,rfl,hek⟩:=kY h.q hk;have hz:e.z∈W.map En.z:=List.mem_map.2 ⟨e,he,rfl⟩;obtain⟨hE,hs,hal⟩:=h.q.pk.ok _ hz;have hC:=FK h.t h.a h.q.pk.inn h.q.pk.pos (qx hz) hE hal hs;have hC:Tri Tryz.prog 25 #[.pointer (some ⟨ab,0,none⟩),.pointer (some ⟨tb,0,none⟩),.int .i64 e.h] _ _:=hC;obtain⟨A,B,hW,hout⟩:=VT h.q.Mj he;refine Tri.forget (Tri.EW (zq Tryz.Og (Nat.le_of_ble_eq_true rfl) ?_));unfold Tryz.II;have hEs:Es W=Es (A++e::B):=by rw[←hW]
 rw[hEs];refine ze (z8 ?_);refine zh (ZC rfl fun p3=>?_);refine zf (za (zn zG.em (ze (Z6 (zi (pP rfl) (zi (zX rfl) (zi (zx rfl) (Zb rfl rfl (zi (pP rfl) (zi (zX rfl) (zi (zx rfl) (Zb rfl rfl (zi (pP rfl) (zi (zX rfl) (zi (zx rfl) (Zb rfl rfl (vO rfl rfl ?_)))))))))))))))));refine Zd (uM h.m (by repeat (first | exact List.mem_cons_self | apply List.mem_cons_of_mem)) k xU Cj Et rfl rfl (QF hf) ⟨fun _ h=>h,?_⟩) zN;refine zi (zX rfl) (zi (zx rfl) (Zb rfl rfl ?_));refine zO (zk hC rfl rfl fun r S' h=>?_) zN;obtain⟨rfl,HT1,HA1,D1,hT1,hA1,hI1,_,rfl⟩:=h;refine zH (za (ze (Z6 (zi (pP rfl) (zi (zX rfl) (zi (zx rfl) (Zb rfl rfl (vO rfl rfl ?_))))))));refine zO (mG h.m k xU Cj rfl rfl fun HM1 hM1=>?_) zN;refine zH (za (ze (Z6 (zi (pP rfl) (zi (zX rfl) (zi (zx rfl) (Zb rfl rfl (vO rfl rfl ?_))))))));refine zO (zk (Gf h.l (by omega) (by omega) k) rfl rfl fun r S' h=>?_) zN;obtain⟨rfl,HL1,hL1,rfl⟩:=h;refine zH (za (Z6 (zi (pP rfl) (zi (zX rfl) (zi (zx rfl) (Zb rfl rfl (vO rfl rfl ?_)))))));refine zO (zk (Gm h.d (by rw[List.length_map]; omega) k) rfl rfl fun r S' h=>?_) zN;obtain⟨rfl,HD1,hD1,rfl⟩:=h;refine zH ?_;subst hek;have hq1:=h.q.gone he hI1;rw[←CB,BS h.q.Mj he] at hM1;rw[jF h.q.kn] at hD1;have hR:Sp N (jo e.i.k S) (XD W e.i.k) D1 _ ab tb mb lb db ev HA1 HT1 HM1 HL1 HD1 HV:=⟨hq1,hA1,hT1,hM1,hL1,hD1,h.v⟩
 have hR:=Sr.mk (sb:=sb) hR;rw[hout] at hR;exact ZO ZQ ⟨_,zG.sd,rfl,_,hR,rfl⟩
theorem dS{sb N:Nat}{S:Ss}{H:List Chunk}(hS:Sr sb N S H){k:Ky}{i:It}(hk:wG S.I k=some i)(hv:S.V.length<2 ^ 30):
 Tri Tryz.prog 129 #[.pointer (some ⟨sb,0,none⟩),.agg (vC k)] [H] (fun r S'=>r= .tuple #[]∧∃H',Sr sb N (KA k S) H'∧S'=[H']):=by
 refine Tri.forget (zq Tryz.Oc (Nat.le_of_ble_eq_true rfl) ?_);unfold Tryz.IC;refine ze (z8 ?_);refine zh (ZC rfl fun p3=>?_);refine zf (za (ze (z8 (yp (pP rfl) ?_))));refine zh (ZP rfl rfl ?_);refine zh (zk (nU hS hk) rfl rfl fun r S' h=>?_);obtain⟨rfl,H1,hS1,rfl⟩:=h;obtain⟨W,D,L,ab,tb,mb,lb,db,ev,HA,HT,HM,HL,HD,HV,h,rfl⟩:=hS1;refine zf (za ?_);refine zn (S0:=[(p3,.cells (vC k) 43)]::wX sb ab tb mb lb db ev::HA::HT::HM::HL::HD::HV::Es W) ?_ ?_
 ·exact zG.op1
 have hV:=h.v;obtain⟨a,c,rfl⟩:=hV.isSlice;refine Z6 (zi (pP rfl) (zi (pP rfl) (zi (zX rfl) (zi (zx rfl) (Zb rfl rfl (vO rfl rfl ?_))))));refine Zd (wJ k rfl rfl (by decide) (by decide) rfl fun p13=>⟨fun _ h=>List.mem_cons_of_mem _ h,?_⟩) zN;have hvl:(jo k S).V.length<2 ^ 30:=hv;refine zO (V6 (Y:=[k]) rfl rfl hV (.lit (by repeat (first | exact List.mem_cons_self | apply List.mem_cons_of_mem)) rfl) rfl (⟨[],0⟩:Ky) rfl (by rw[List.length_singleton]; omega) (by rw[List.length_singleton]; omega) fun v2 H2 hV2=>?_) zN;obtain⟨a2,c2,rfl⟩:=hV2.isSlice;refine zi (zX rfl) (zi (zx rfl) ?_);refine zO (mE rfl rfl (YZ rfl) ?_) zN;refine zH ?_;exact ZO ZQ ⟨_,zG.sp,rfl,_,Sr.mk (S:=KA k S) ⟨h.q.ev,h.a,h.t,h.m,h.l,h.d,hV2⟩,rfl⟩
theorem jZ(n most:Int):AJ n most=true↔0≤n∧n≤most:=by unfold AJ; simp
/-- what Peek tells -/
def P7(S:Ss)(k:Ky)(H:List Chunk)(r:Value)(S':zL):Prop:=
 (wG S.I (fk k)=none∧r= .tuple #[.agg yD,.bool false]∧S'=[H])∨∃i v HR,wG S.I (fk k)=some i∧r= .tuple #[.agg (mq i v),.bool true]∧Zg 89 v (Zh i.s).rrs HR∧S'=[HR,H]
theorem ET{sb N:Nat}{S:Ss}{H:List Chunk}(hS:Sr sb N S H)(k:Ky)(hkl:k.n.length<2 ^ 62):
 Tri Tryz.prog 79 #[.pointer (some ⟨sb,0,none⟩),.agg (vC k)] [H] (P7 S k H):=by
 obtain⟨W,D,L,ab,tb,mb,lb,db,ev,HA,HT,HM,HL,HD,HV,h,rfl⟩:=hS;refine Tri.forget (Tri.EW (zq Tryz.Mx (Nat.le_of_ble_eq_true rfl) ?_));unfold Tryz.Pt;refine ze (z8 ?_);refine zh (ZC rfl fun p3=>?_);refine zh (Z5 fun p4=>?_);refine yp pC (zf (za (ze (z8 (yp (pP rfl) ?_)))));refine zh (ZP rfl rfl ?_);refine zh (zk (nV (ab:=ab) (tb:=tb) (lb:=lb) (db:=db) (ev:=ev) h.m k hkl) rfl rfl fun r S' h=>?_);obtain⟨rfl,rfl⟩:=h;cases hb:wG S.I (fk k) with
 | none=>
  rw[JV h.q hb];refine yp (v:= .pointer none) rfl (zf (za (ze (ze (z8 (yp (pP rfl) (yp (wh rfl rfl) (zf (za (zC rfl (ze (z8 (yp Ww ?_)))))))))))));refine zh (Zv rfl rfl rfl rfl rfl ?_);refine yp pC (zf (za (zJ (zV ?_))));exact zI (WR (KF (b:=p4) Yb Y5 rfl rfl) (Yl rfl)) ⟨_,zG.sp,.inl ⟨hb,rfl,rfl⟩⟩
 | some i=>
  obtain⟨e,hf,he,rfl,hek⟩:=kY h.q hb;rw[hf];have hC:=nT (sb:=sb) (mb:=mb) (lb:=lb) (db:=db) (ev:=ev) h.q h.a h.t he;obtain⟨A,B,rfl,hout⟩:=VT h.q.Mj he;refine yp (v:= .pointer (some ⟨e.eb,0,none⟩)) rfl (zf (za ?_));refine zn (S0:=[(p4,.cells yD 136)]::[(p3,.cells (vC k) 43)]::wX sb ab tb mb lb db ev::HA::HT::HM::HL::HD::HV::Es (A++e::B)) ?_ ?_
  ·exact zG.of
  refine zn (zG.cons zG.em) (ze (ze (z8 (yp (pP rfl) (yp (wh rfl rfl) (zf (za (zo rfl (zl (za (ze (z8 (yp (pP rfl) (yp (pP rfl) ?_))))))))))))));refine zh (zk hC rfl rfl fun r S' h=>?_);obtain⟨v,HR,rfl,hR,rfl⟩:=h;obtain⟨a,c,rfl⟩:=hR.isSlice;refine zh (Zv rfl rfl rfl rfl rfl ?_);refine yp pC (zf (za (zJ ?_)));exact zI (WR (KF (b:=p4) Yb Y5 rfl rfl) (Yl rfl)) ⟨_,zG.ec (x:=HR) (e:=e),.inr ⟨e.i,_,HR,hb,rfl,hR,rfl⟩⟩
/-- what Get tells, and makes of the store -/
def Tz(sb N:Nat)(S:Ss)(k:Ky)(now:Int)(H:List Chunk)(r:Value)(S':zL):Prop:=
 ((∀i,wG S.I (fk k)=some i→i.exp≤now)∧r= .tuple #[.agg yD,.bool false]∧S'=[H])∨∃i v HR H',wG S.I (fk k)=some i∧now<i.exp∧r= .tuple #[.agg (mq i v),.bool true]∧Zg 89 v (Zh i.s).rrs HR∧Sr sb N ⟨S.I,Xr ((N/512:Nat):Int) (fk k) S.P S.Q,Xq ((N/512:Nat):Int) (fk k) S.P S.Q,S.V⟩ H'∧S'=[HR,H']
theorem Lm{sb N:Nat}{S:Ss}{H:List Chunk}(hS:Sr sb N S H)(k:Ky)(hkl:k.n.length<2 ^ 62)(now:Int):
 Tri Tryz.prog 91 #[.pointer (some ⟨sb,0,none⟩),.agg (vC k),.int .i64 now] [H] (Tz sb N S k now H):=by
 have hnb:=hS.nb;obtain⟨W,D,L,ab,tb,mb,lb,db,ev,HA,HT,HM,HL,HD,HV,h,rfl⟩:=hS;refine Tri.forget (Tri.EW (zq Tryz.RJ (Nat.le_of_ble_eq_true rfl) ?_));unfold Tryz.x91;refine ze (z8 ?_);refine zh (ZC rfl fun p4=>?_);refine zh (Z5 fun p6=>?_);refine yp pC (zf (za (ze (z8 (yp (pP rfl) ?_)))));refine zh (ZP rfl rfl ?_);refine zh (zk (nV (ab:=ab) (tb:=tb) (lb:=lb) (db:=db) (ev:=ev) h.m k hkl) rfl rfl fun r S' h=>?_);obtain⟨rfl,rfl⟩:=h;cases hb:wG S.I (fk k) with
 | none=>
  rw[JV h.q hb];refine yp (v:= .pointer none) rfl (zf (za (ze (ze (z8 (yp (pP rfl) (yp (wh rfl rfl) (yp (pB rfl) (zP rfl (zP rfl (zP rfl (zP rfl (zP rfl (zP rfl (yp (zw rfl rfl) (zf (za (zC rfl (ze (z8 (yp Ww ?_)))))))))))))))))))));refine zh (Zv rfl rfl rfl rfl rfl ?_);refine yp pC (zf (za (zJ (zV ?_))));exact zI (WR (KF (b:=p6) Yb Y5 rfl rfl) (Yl rfl)) ⟨_,zG.sp,.inl ⟨(fun i hi=>by rw[hb] at hi; exact absurd hi (by simp)),rfl,rfl⟩⟩
 | some i=>
  obtain⟨e,hf,he,rfl,hek⟩:=kY h.q hb;rw[hf];have hkm:fk k∈keys S.I:=by rw[←hek]; exact List.mem_map.2 ⟨e.i,(XW hb).1,rfl⟩
  have hC:=nT (sb:=sb) (mb:=mb) (lb:=lb) (db:=db) (ev:=ev) (h.q.touch (m:=((N/512:Nat):Int)) hkm) h.a h.t he;obtain⟨A,B,rfl,hout⟩:=VT h.q.Mj he;refine yp (v:= .pointer (some ⟨e.eb,0,none⟩)) rfl (zf (za ?_));refine zn (S0:=[(p6,.cells yD 136)]::[(p4,.cells (vC k) 43)]::wX sb ab tb mb lb db ev::HA::HT::HM::HL::HD::HV::Es (A++e::B)) ?_ ?_
  ·exact zG.of
  refine zn (zG.cons zG.em) (ze (ze (z8 (yp (pP rfl) (yp (wh rfl rfl) (yp (pB rfl) (zK rfl (zQ (pP rfl) (zK rfl (zQ (zX rfl) (zK rfl (zQ (zx rfl) (zK rfl ?_)))))))))))));refine(zy rfl rfl ?_);refine zK rfl (zQ (pI rfl) (zK rfl (zQ (XB rfl rfl) (yp (zD rfl rfl) (zf (za ?_))))));by_cases hx:e.i.exp≤now
  ·rw[decide_eq_true hx];refine zC rfl (ze (z8 (yp Ww ?_)));refine zh (Zv rfl rfl rfl rfl rfl ?_);refine yp pC (zf (za (zJ (zV ?_))));exact zI (WR (KF (b:=p6) Yb Y5 rfl rfl) (Yl rfl)) ⟨_,zG.ec0 (e:=e),.inl ⟨(fun i hi=>by rw[hb] at hi; obtain rfl:=Option.some.inj hi; exact hx),rfl,rfl⟩⟩
  ·rw[decide_eq_false hx];refine zo rfl (zl (za (ze (Z6 (zi (pP rfl) (zi (zX rfl) (zi (zx rfl) (Zb rfl rfl (vO rfl rfl ?_)))))))));refine Zd (zk (aR k hkl) rfl rfl fun r S' h=>?_) zN;obtain⟨rfl,rfl⟩:=h;refine⟨fun _ h=>h,?_⟩;refine zO (zk (Ce h.l (by omega) (by omega) (fk k)) rfl rfl fun r S' h=>?_) zN;obtain⟨rfl,HL1,hL1,rfl⟩:=h;refine zH (za (ze (z8 (yp (pP rfl) (yp (pP rfl) ?_)))));refine zh (zk hC rfl rfl fun r S' h=>?_);obtain⟨v,HR,rfl,hR,rfl⟩:=h;obtain⟨a,c,rfl⟩:=hR.isSlice;refine zh (Zv rfl rfl rfl rfl rfl ?_);refine yp pC (zf (za (zJ ?_)));exact zI (WR (KF (b:=p6) Yb Y5 rfl rfl) (Yl rfl)) ⟨_,zG.ec (x:=HR) (e:=e),.inr ⟨e.i,_,HR,_,hb,by omega,rfl,hR,Sr.mk ⟨h.q.touch hkm,h.a,h.t,h.m,hL1,h.d,h.v⟩,rfl⟩⟩
theorem GN:isAgg? Tryz.prog 4=some false:=by kernel_rfl
theorem pfx{α:Type}{L:List α}{f:α→Array Value}{pre:List (Array Value)}{x:Array Value}(h:pre++[x]<+:L.map f):∃(hl:pre.length<L.length),x=f L[pre.length]:=by
 obtain⟨t,ht⟩:=h;have h1:(L.map f)[pre.length]?=some x:=by
  rw[←ht,List.append_assoc,List.getElem?_append_right (Nat.le_refl _),Nat.sub_self]; rfl
 rw[List.getElem?_map] at h1;obtain⟨y,hy,rfl⟩:=Option.map_eq_some_iff.1 h1;obtain⟨hl,rfl⟩:=List.getElem?_eq_some_iff.1 hy;exact⟨hl,rfl⟩
theorem K3{f:Ky→Bool}:∀{l:List Ky} {n:Nat} {k:Ky},(∀x∈l.take n,f x=false)→l[n]?=some k→f k=true→l.find? f=some k
 | y::l,0,k,_,hk,hf=>by
  rw[List.getElem?_cons_zero] at hk;obtain rfl:=Option.some.inj hk;rw[List.find?_cons,hf]
 | y::l,n+1,k,hn,hk,hf=>by
  rw[List.getElem?_cons_succ] at hk;rw[List.find?_cons,hn y (by simp)];exact K3 (fun x hx=>hn x (by rw[List.take_succ_cons]; exact List.mem_cons_of_mem _ hx)) hk hf
theorem jB{f:Ky→Bool}{l:List Ky}(h:∀x∈l,f x=false):l.find? f=none:=by
 rw[List.find?_eq_none];intro x hx;rw[h x hx]; decide
theorem qV{now:Int}{I:List It}{e:De}(h:e∈upto now (I.map It.de)):e.k∈keys I:=by
 unfold upto at h;have h1:=(List.mem_filter.1 h).1;have h2:=(Xe (key:=xQ) (I.map It.de)).mem_iff.1 h1;obtain⟨i,hi,rfl⟩:=List.mem_map.1 h2;exact List.mem_map.2 ⟨i,hi,rfl⟩
theorem JW{S:Ss}{W:List En}{D:List (Option Bt)}{L:List Nm}(hq:Sq S W D L){k:Ky}(h:k∈keys S.I):∃e,KM W k=some e∧e∈W∧wG S.I k=some e.i∧free S.I k=decide (e.i.pins=0):=by
 cases hb:wG S.I k with
 | none=>exact absurd h (vg.1 hb)
 | some i=>
  obtain⟨e,hf,he,rfl,_⟩:=kY hq hb;exact⟨e,hf,he,rfl,by unfold free; rw[hb]⟩
theorem rH{now:Int}{S:Ss}{n:Nat}{e:De}(hn:∀x∈(upto now (S.I.map It.de)).take n,free S.I x.k=false)(he:(upto now (S.I.map It.de))[n]?=some e)(hf:free S.I e.k=true):vZ now S=some e.k:=by
 unfold vZ due;rw[List.find?_append];have:((upto now (S.I.map It.de)).map (·.k)).find? (free S.I)=some e.k:=K3 (n:=n) (fun x hx=>by
  rw[←List.map_take] at hx;obtain⟨y,hy,rfl⟩:=List.mem_map.1 hx;exact hn y hy) (by rw[List.getElem?_map,he]; rfl) hf
 rw[this]; rfl
theorem rG{now:Int}{S:Ss}(hn:∀x∈upto now (S.I.map It.de),free S.I x.k=false):vZ now S=(S.P++S.Q).find? (free S.I):=by
 unfold vZ due;rw[List.find?_append];have:((upto now (S.I.map It.de)).map (·.k)).find? (free S.I)=none:=jB fun x hx=>by
  obtain⟨y,hy,rfl⟩:=List.mem_map.1 hx;exact hn y hy
 rw[this]; rfl
theorem KV{α:Type}{L:List α}{n:Nat}(h:n<L.length){p:α→Prop}(hp:∀x∈L.take n,p x)(hx:p L[n]):∀x∈L.take (n+1),p x:=fun x hx'=>by
 rw[List.take_succ_eq_append_getElem h] at hx';rcases List.mem_append.1 hx' with h1 | h1
 ·exact hp x h1
 ·rw[List.mem_singleton.1 h1]; exact hx
abbrev GY(p2 p4 p5 sb:Nat)(k:Ky)(b:Bool):zL:=[[(p2,.cells #[.pointer (some ⟨sb,0,none⟩)] 82)],[(p4,.cells (vC k) 43)],[(p5,.cells #[.bool b] 4)]]
theorem EU{sb N:Nat}{S:Ss}{H:List Chunk}(hS:Sr sb N S H)(now:Int):
 Tri Tryz.prog 128 #[.pointer (some ⟨sb,0,none⟩),.int .i64 now] [H] (fun r S'=>r= .tuple #[.agg (vC ((vZ now S).getD ⟨[],0⟩)),.bool (vZ now S).isSome]∧S'=[H]):=by
 have hnb:=hS.nb;obtain⟨W,D,L,ab,tb,mb,lb,db,ev,HA,HT,HM,HL,HD,HV,h,rfl⟩:=hS;refine Tri.forget (Tri.EW (zq Tryz.Od (Nat.le_of_ble_eq_true rfl) ?_));unfold Tryz.IE;refine ze (z8 ?_);refine zh (mI (qE rfl) fun p2=>?_);refine zh (Z5 fun p4=>?_);refine zh (Z5 fun p5=>?_);refine zf (za (ze (ze (z8 ?_))));refine zh (zy rfl rfl ?_);refine yp (zX rfl) (yp (zx rfl) ?_);refine zh (zy rfl rfl ?_);refine yp (pI rfl) ?_;refine zh (zk rV rfl rfl fun r S' h=>?_);obtain⟨bd,ba,rfl,rfl⟩:=h;refine zf (za (zu ?_));have hdl:(S.I.map It.de).length<2 ^ 38:=by rw[List.length_map]; omega
 have hmemT:∀{e:En},e∈W→∀{X:zL},QE e∈X++Es W:=fun he X=>List.mem_append.2 (.inr (Kv he))
 refine YJ (fun pre T=>(∀x∈(upto now (S.I.map It.de)).take pre.length,free S.I x.k=false)∧zG T (GY p2 p4 p5 sb ⟨[],0⟩ false++(wX sb ab tb mb lb db ev::HA::HT::HM::HL::HD::HV::Es W)))
  (fun e pre T=>e= .ret∧∃k,vZ now S=some k∧zG T (GY p2 p4 p5 sb k true++(wX sb ab tb mb lb db ev::HA::HT::HM::HL::HD::HV::Es W)))
  rfl rfl (Qq (db:=db) (bd:=bd) (ba:=ba) (S0:=GY p2 p4 p5 sb ⟨[],0⟩ false++(wX sb ab tb mb lb db ev::HA::HT::HM::HL::HV::Es W)) h.d hdl now) ⟨by simp,.of⟩ ?_ ?_ ?_ ?_
 ·intro pre x hx;obtain⟨_,rfl⟩:=pfx hx;rfl
 ·rintro l pre x T hx ⟨hn,hJ⟩;obtain⟨hl,rfl⟩:=pfx hx;have hm:=List.getElem_mem hl;have hg:(upto now (S.I.map It.de))[pre.length]?=some (upto now (S.I.map It.de))[pre.length]:=List.getElem?_eq_getElem hl;have hst:=KV hl hn;generalize (upto now (S.I.map It.de))[pre.length]=d at hm hg hst;obtain⟨e,hf,he,hb,hfr⟩:=JW h.q (qV hm);refine zn hJ (z8 ?_);refine zh (Z5 fun p6=>?_);refine zh (Zv rfl rfl rfl rfl rfl ?_);refine zf (za (zu (ze (Z6 (Zb rfl rfl (zi (zX rfl) (zi (zx rfl) (Zb rfl rfl (vO rfl rfl ?_)))))))));refine Zd (uM h.m (by repeat (first | exact List.mem_cons_self | apply List.mem_cons_of_mem)) d.k xU Cj Et rfl rfl (QF hf) ⟨fun _ h=>h,?_⟩) zN;refine zi (zX rfl) (zi (zx rfl) (iw (v:= .int .i64 e.i.pins) (by repeat (first | exact Kv he | apply List.mem_cons_of_mem)) rfl rfl (zi (wB rfl rfl) (zH (za ?_)))));by_cases hp:e.i.pins=0
  ·rw[decide_eq_true hp] at hfr ⊢;have hnx:=rH hn hg hfr;refine zC rfl (ze (z8 ?_));refine zh (ZP rfl rfl ?_);refine zh (Zv rfl rfl rfl rfl rfl ?_);refine zh (ZU rfl rfl (GV rfl) ?_);refine zf (za (zJ (bret ?_)));exact⟨rfl,d.k,hnx,.of⟩
  ·rw[decide_eq_false hp] at hfr ⊢;refine zo rfl (zl (zW ?_));exact⟨by rw[List.length_append]; exact hst hfr,.of⟩
 ·rintro xs S' hd ⟨hn,hJ⟩;have hxl:xs.length=(upto now (S.I.map It.de)).length:=by rw[hd,List.length_map]
  rw[hxl,List.take_length] at hn;have hnx:=rG (now:=now) (S:=S) hn;refine zW (za ?_);refine zn hJ (ze (ze (z8 ?_)));refine zh (zy rfl rfl ?_);refine yp (zX rfl) (yp (zx rfl) ?_);refine zh (zy rfl rfl ?_);refine zh (zk Cg rfl rfl fun r S' h=>?_);obtain⟨bl,rfl,rfl⟩:=h;refine zf (za (zu ?_));refine YJ (fun pre T=>(∀x∈(S.P++S.Q).take pre.length,free S.I x=false)∧zG T (GY p2 p4 p5 sb ⟨[],0⟩ false++(wX sb ab tb mb lb db ev::HA::HT::HM::HL::HD::HV::Es W)))
   (fun e pre T=>e= .ret∧∃k,vZ now S=some k∧zG T (GY p2 p4 p5 sb k true++(wX sb ab tb mb lb db ev::HA::HT::HM::HL::HD::HV::Es W)))
   rfl rfl (iU (bl:=bl) (S0:=GY p2 p4 p5 sb ⟨[],0⟩ false++(wX sb ab tb mb lb db ev::HA::HT::HM::HD::HV::Es W)) h.l (by omega) (by omega)) ⟨by simp,.of⟩ ?_ ?_ ?_ ?_
  ·intro pre x hx;obtain⟨_,rfl⟩:=pfx hx;rfl
  ·rintro l pre x T hx ⟨hn2,hJ⟩;obtain⟨hl,rfl⟩:=pfx hx;have hm:=List.getElem_mem hl;have hg:(S.P++S.Q)[pre.length]?=some (S.P++S.Q)[pre.length]:=List.getElem?_eq_getElem hl;have hst:=KV hl hn2;generalize (S.P++S.Q)[pre.length]=d at hm hg hst;obtain⟨e,hf,he,hb,hfr⟩:=JW h.q (h.q.pq.mem_iff.1 hm);refine zn hJ (z8 ?_);refine zh (Z5 fun p7=>?_);refine zh (Zv rfl rfl rfl rfl rfl ?_);refine zf (za (zu (ze (Z6 (Zb rfl rfl (zi (zX rfl) (zi (zx rfl) (Zb rfl rfl (vO rfl rfl ?_)))))))));refine Zd (uM h.m (by repeat (first | exact List.mem_cons_self | apply List.mem_cons_of_mem)) d xU Cj Et rfl rfl (QF hf) ⟨fun _ h=>h,?_⟩) zN;refine zi (zX rfl) (zi (zx rfl) (iw (v:= .int .i64 e.i.pins) (by repeat (first | exact Kv he | apply List.mem_cons_of_mem)) rfl rfl (zi (wB rfl rfl) (zH (za ?_)))));by_cases hp:e.i.pins=0
   ·rw[decide_eq_true hp] at hfr ⊢;refine zC rfl (ze (z8 ?_));refine zh (ZP rfl rfl ?_);refine zh (Zv rfl rfl rfl rfl rfl ?_);refine zh (ZU rfl rfl (GV rfl) ?_);refine zf (za (zJ (bret ?_)));exact⟨rfl,d,by rw[hnx]; exact K3 hn2 hg hfr,.of⟩
   ·rw[decide_eq_false hp] at hfr ⊢;refine zo rfl (zl (zW ?_));exact⟨by rw[List.length_append]; exact hst hfr,.of⟩
  ·rintro xs S' hd ⟨hn2,hJ⟩;have hxl:xs.length=(S.P++S.Q).length:=by rw[hd,List.length_map]
   rw[hxl,List.take_length] at hn2;rw[jB hn2] at hnx;refine zW (za ?_);refine zn hJ (ze (z8 (yp Ww ?_)));refine zh (Zv rfl rfl rfl rfl rfl ?_);refine zh (ZU rfl rfl (GV rfl) ?_);refine zf (za (zJ ?_));rw[hnx];exact zI (WR (KF (b:=p4) CY dQ rfl rfl) (Lu (b:=p5) GN rfl)) ⟨_,zG.sp,rfl,rfl⟩
  ·rintro e pre S' _ ⟨rfl,k,hk,hJ⟩;rw[hk];refine bret (zV ?_);exact zI (je hJ (WR (KF (b:=p4) CY dQ rfl rfl) (Lu (b:=p5) GN rfl))) ⟨_,hJ.trans zG.sp,rfl,rfl⟩
 ·rintro e pre S' _ ⟨rfl,k,hk,hJ⟩;rw[hk];refine bret (zV ?_);exact zI (je hJ (WR (KF (b:=p4) CY dQ rfl rfl) (Lu (b:=p5) GN rfl))) ⟨_,hJ.trans zG.sp,rfl,rfl⟩
instance (priority:=low) Sub.appSuf{A S:zL}:Sub (A++S) S A:=⟨by rw[List.flatten_append]; exact List.perm_append_comm⟩
theorem zG.op0{sb ab tb mb lb db:Nat}{ev:Value}{HA HT HM HL HD HV:List Chunk}{W:List En}{S0:zL}:zG (sH sb ab tb mb lb db ev HA HT HM HL HD HV W::S0) (wX sb ab tb mb lb db ev::HA::HT::HM::HL::HD::HV::(Es W++S0)):=⟨[],by simp[sH]⟩
theorem zG.add{x:List Chunk}{S G S0:zL}{sb ab tb mb lb db:Nat}{ev:Value}{HA HT HM HL HD HV:List Chunk}{W:List En}{e:En}(hx:x=QE e)[h:Sub S (x::wX sb ab tb mb lb db ev::HA::HT::HM::HL::HD::HV::(Es W++S0)) G]:
 zG S (sH sb ab tb mb lb db ev HA HT HM HL HD HV (W++[e])::S0):=zG.trans (zG.of (h:=h)) ⟨[],by
 subst hx;have e1:Es (W++[e])=Es W++[QE e]:=dB W [e];simp only[sH,e1,List.flatten_cons,List.flatten_nil,List.flatten_append,List.append_nil,List.append_assoc];have:=(XA [] (wX sb ab tb mb lb db ev++(HA++(HT++(HM++(HL++(HD++(HV++(Es W).flatten))))))) (QE e) S0.flatten).symm;simpa only[List.nil_append,List.append_assoc] using this⟩
theorem zG.cl2{x y:List Chunk}{S G S0:zL}{sb ab tb mb lb db:Nat}{ev:Value}{HA HT HM HL HD HV:List Chunk}{W:List En}[h:Sub S (x::y::wX sb ab tb mb lb db ev::HA::HT::HM::HL::HD::HV::(Es W++S0)) G]:zG S (x::y::sH sb ab tb mb lb db ev HA HT HM HL HD HV W::S0):=zG.trans (zG.of (h:=h)) ⟨[],by simp[sH]⟩
theorem zG.cl0{S G S0:zL}{sb ab tb mb lb db:Nat}{ev:Value}{HA HT HM HL HD HV:List Chunk}{W:List En}[h:Sub S (wX sb ab tb mb lb db ev::HA::HT::HM::HL::HD::HV::(Es W++S0)) G]:zG S (sH sb ab tb mb lb db ev HA HT HM HL HD HV W::S0):=zG.trans (zG.of (h:=h)) ⟨[],by simp[sH]⟩
theorem Tri.op{P:Program}{f:FuncId}{args:Array Value}{R:Value→zL→Prop}{sb ab tb mb lb db:Nat}{ev:Value}{HA HT HM HL HD HV:List Chunk}{W:List En}(h:Tri P f args [sH sb ab tb mb lb db ev HA HT HM HL HD HV W] R):Tri P f args (wX sb ab tb mb lb db ev::HA::HT::HM::HL::HD::HV::Es W) R:=h.perm (by simp[sH])
theorem Bj{sb ab tb mb lb db N:Nat}{ev:Value}{D:List (Option Bt)}{HA:List Chunk}(hA:Ar ab N D HA):Tri Tryz.prog 127 #[.pointer (some ⟨sb,0,none⟩)] [wX sb ab tb mb lb db ev,HA] (fun r S'=>r= .int .i64 ((N-Zn D:Nat):Int)∧S'=[wX sb ab tb mb lb db ev,HA]):=by
 refine Tri.forget (zq Tryz.Oe (Nat.le_of_ble_eq_true rfl) ?_);unfold Tryz.IG;refine ze (z8 (yp pC (zf (za (ze (ze (z8 (yp (pP rfl) (yp (wh rfl rfl) (zf (za (zo rfl (zl (za (ze (z8 (yp (pP rfl) (yp (zX rfl) (yp (zx rfl) ?_)))))))))))))))))));refine zh (zy rfl rfl ?_);refine zh (zk (CX hA) rfl rfl fun r S' h=>?_);obtain⟨rfl,rfl⟩:=h;refine yp (pI rfl) (zf (za (zJ ?_)));exact zI (rI rfl) ⟨_,.of,rfl,rfl⟩
theorem fH{now:Int}{S:Ss}{k:Ky}(h:vZ now S=some k):∃i,wG S.I k=some i∧i.pins=0:=by
 have hf:=List.find?_some h;unfold free at hf;cases hb:wG S.I k with
 | none=>rw[hb] at hf; cases hf
 | some i=>rw[hb] at hf; exact⟨i,rfl,of_decide_eq_true hf⟩
theorem uZ{I:List It}(hn:(keys I).Nodup){k:Ky}{i:It}(h:wG I k=some i):I.length=(vS I k).length+1:=by
 obtain⟨hi,rfl⟩:=XW h;clear h
 induction I with
 | nil=>simp at hi
 | cons j I ih=>
  have hn2:=List.nodup_cons.1 hn;unfold vS at ih ⊢;rw[List.filter_cons];by_cases hj:j.k=i.k
  ·rw[if_neg (by simp[hj]),List.filter_eq_self.2,List.length_cons];intro y hy;have:y.k≠i.k:=fun q=>hn2.1 (List.mem_map.2 ⟨y,hy,q.trans hj.symm⟩)
   simpa using this
  ·rw[if_pos (by simp[hj]),List.length_cons,List.length_cons,ih hn2.2 ?_];rcases List.mem_cons.1 hi with rfl | hi
   ·exact absurd rfl hj
   ·exact hi
theorem gQ{I:List It}{k k':Ky}(h:wG I k=none):wG (vS I k') k=none:=by
 rw[vg] at h ⊢;rw[U0];exact fun hm=>h (List.mem_filter.1 hm).1
theorem tZ(I:List It)(k:Ky):wG (vS I k) k=none:=by
 rw[vg,U0];intro hm;have:=(List.mem_filter.1 hm).2;simp at this
theorem Qb{N:Nat}{K k:Ky}{s:St}{rank now exp:Int}{S:Ss}{i:It}(hn:(keys S.I).Nodup)(h:UK N S<uJ (sets S.I) s)(hk:vZ now S=some k)(hb:wG S.I k=some i):X6 N K s rank now exp S=X6 N K s rank now exp (KA k S):=by
 have hl:=uZ hn hb;unfold X6;have e1:UH N now s S.I.length S=UH N now s (KA k S).I.length (KA k S):=by
  rw[hl,UH,if_pos h,hk]; rfl
 rw[e1]
theorem Fa{N:Nat}{K:Ky}{s:St}{rank now exp:Int}{S:Ss}(h:UK N S<uJ (sets S.I) s)(hk:vZ now S=none):X6 N K s rank now exp S=(S,4):=by
 unfold X6;have e1:UH N now s S.I.length S=(S,false):=by
  cases S.I.length with
  | zero=>rw[UH,decide_eq_false (by omega)]
  | succ n=>rw[UH,if_pos h,hk]
 rw[e1]
theorem aU{N:Nat}{K:Ky}{s:St}{rank now exp:Int}{S:Ss}(h:¬UK N S<uJ (sets S.I) s):X6 N K s rank now exp S=(⟨S.I++[⟨K,s,rank,now,exp,0⟩],S.P++[K],S.Q,S.V⟩,0):=by
 unfold X6;have e1:UH N now s S.I.length S=(S,true):=by
  cases S.I.length with
  | zero=>rw[UH,decide_eq_true (by omega)]
  | succ n=>rw[UH,if_neg h]
 rw[e1]
theorem Sr.kn{sb N:Nat}{S:Ss}{H:List Chunk}(h:Sr sb N S H):(keys S.I).Nodup:=by
 obtain⟨W,D,L,ab,tb,mb,lb,db,ev,HA,HT,HM,HL,HD,HV,h,rfl⟩:=h;exact h.q.kn
abbrev Ju(p6:Nat)(s:St)(v:Value):List Chunk:=[(p6,.cells (X7 s v) 46)]
abbrev bN(p:Nat)(k:Ky):List Chunk:=[(p,.cells (vC k) 43)]
set_option maxRecDepth 10000 in
set_option maxHeartbeats 1000000 in
theorem Ll{sb N:Nat}{S:Ss}{H:List Chunk}{S0:zL}{s:St}{v:Value}(hS:Sr sb N S H)(hs:YF s)(hv:Src S0 v s.rrs)(hV:S.V.length+S.I.length<2 ^ 30)(rank now exp:Int):
 Tri Tryz.prog 77 #[.pointer (some ⟨sb,0,none⟩),.agg (X7 s v),.int .i64 rank,.int .i64 now,.int .i64 exp] (H::S0) (fun r S'=>r= .int .i64 (VF N s rank now exp S).2∧∃H',Sr sb N (VF N s rank now exp S).1 H'∧S'=H'::S0):=by
 have hsn:=hs.name;refine Tri.forget (zq Tryz.RZ (Nat.le_of_ble_eq_true rfl) ?_);unfold Tryz.TN;obtain⟨va,vc,rfl⟩:=hv.isSlice;refine ze (z8 ?_);refine zh (ZC rfl fun p6=>?_);refine yp pC (zf (za (ze (ze (z8 ?_)))));refine zh (ZP rfl rfl ?_);refine zh (zk (Js hs hv) rfl rfl fun r S' h=>?_);obtain⟨rfl,h⟩:=h;have h:=h.symm;subst h;rcases Decidable.em (w9 s≠0) with hE | hE
 ·have hP:VF N s rank now exp S=(S,w9 s):=by unfold VF; rw[if_pos hE]
  rw[hP];refine yp (pU rfl) (yp (pExt rfl rfl) (yp (pExt rfl rfl) (yp (pI rfl) (yp (pI rfl) (zf (za (ze (z8 (yp (pI rfl) (yp (WU rfl rfl) (zf (za ?_))))))))))));rw[decide_eq_false hE];refine zC rfl (ze (z8 (yp (pI rfl) (yp (pI rfl) (zf (za (zJ (zV ?_))))))));exact zI (rI rfl) ⟨_,.of,rfl,_,hS,rfl⟩
 have hE:=Decidable.not_not.1 hE;have hP0:VF N s rank now exp S=if ji rank now exp=false then(S,1) else bg N s rank now exp S:=by unfold VF; rw[if_neg (by rw[hE]; decide)]
 rw[hE];refine yp (pU rfl) (yp (pExt rfl rfl) (yp (pExt rfl rfl) (yp (pI rfl) (yp (pI rfl) (zf (za (ze (z8 (yp (pI rfl) (yp (WU rfl rfl) (zf (za (zo rfl (zl (za ?_)))))))))))))));refine uy (fun E S'=>Has E [(0,.pointer (some ⟨sb,0,none⟩)),(2,.int .i64 rank),(3,.int .i64 now),(4,.int .i64 exp),(6,.pointer (some ⟨p6,0,none⟩))]∧ji rank now exp=true∧zG S' (Ju p6 s (.slice va s.rrs.length vc)::H::S0)) ?_ fun E S' ⟨hE2,hok,hJ⟩=>?_
 ·have hbad:ji rank now exp=false→VF N s rank now exp S=(S,1):=fun h=>by rw[hP0,if_pos h]
  refine ze (z8 (yp (pI rfl) ?_));refine zh (zk (YU now 1099511627776) rfl rfl fun r S' h=>?_);obtain⟨rfl,rfl⟩:=h;cases h1:AJ now 1099511627776 with
  | false=>
   rw[hbad (by unfold ji; rw[h1]; rfl)];refine yp (Za rfl) (yp (pB rfl) (zP rfl (zP rfl (zP rfl (yp (zw rfl rfl) (yp (pB rfl) (zP rfl (zP rfl (zP rfl (yp (zw rfl rfl) (yp (pB rfl) (zP rfl (zP rfl (zP rfl (yp (zw rfl rfl) (zf (za (zC rfl (ze (z8 (yp pC (zf (za (zJ (zV ?_)))))))))))))))))))))))));exact zI (rI rfl) ⟨_,.of,rfl,_,hS,rfl⟩
  | true=>
   refine yp (Za rfl) (yp (pB rfl) (zK rfl (zQ (pI rfl) (zK rfl ?_))));refine zk (YU exp 1099511627776) rfl rfl fun r S' h=>?_
   obtain⟨rfl,rfl⟩:=h;cases h2:AJ exp 1099511627776 with
   | false=>
    rw[hbad (by unfold ji; rw[h1,h2]; rfl)];refine zK rfl (zQ (Za rfl) (yp (zD rfl rfl) (yp (pB rfl) (zP rfl (zP rfl (zP rfl (yp (zw rfl rfl) (yp (pB rfl) (zP rfl (zP rfl (zP rfl (yp (zw rfl rfl) (zf (za (zC rfl (ze (z8 (yp pC (zf (za (zJ (zV ?_))))))))))))))))))))));exact zI (rI rfl) ⟨_,.of,rfl,_,hS,rfl⟩
   | true=>
    refine zK rfl (zQ (Za rfl) (yp (zD rfl rfl) (yp (pB rfl) (zK rfl (zQ (pI rfl) (zK rfl (zQ (pI rfl) (zK rfl (zQ (XB rfl rfl) (yp (zD rfl rfl) (yp (pB rfl) ?_)))))))))));by_cases h3:exp≤now
    ·rw[hbad (by unfold ji; rw[h1,h2,decide_eq_true h3]; rfl)];rw[decide_eq_true h3];refine zP rfl (zP rfl (zP rfl (yp (zw rfl rfl) (zf (za (zC rfl (ze (z8 (yp pC (zf (za (zJ (zV ?_)))))))))))));exact zI (rI rfl) ⟨_,.of,rfl,_,hS,rfl⟩
    ·rw[decide_eq_false h3];refine zK rfl (zQ (pI rfl) (zK rfl ?_));refine zk (YU rank 9) rfl rfl fun r S' h=>?_
     obtain⟨rfl,rfl⟩:=h;cases h4:AJ rank 9 with
     | false=>
      rw[hbad (by unfold ji; rw[h4]; simp)];refine zK rfl (zQ (Za rfl) (yp (zD rfl rfl) (zf (za (zC rfl (ze (z8 (yp pC (zf (za (zJ (zV ?_))))))))))));exact zI (rI rfl) ⟨_,.of,rfl,_,hS,rfl⟩
     | true=>
      refine zK rfl (zQ (Za rfl) (yp (zD rfl rfl) (zf (za (zo rfl (zl (za ?_)))))));exact⟨⟨rfl,rfl,rfl,rfl,rfl,trivial⟩,by unfold ji; rw[h1,h2,decide_eq_false h3,h4]; rfl,.of⟩
 rw[hok,if_neg (by decide)] at hP0;obtain⟨E0,e0⟩:=zm hE2; subst e0; clear hE2;refine zn hJ (ze (ze (z8 (yp (pP rfl) (yp (wh rfl rfl) (zf (za (zo rfl (zl (za (ze (z8 (yp (zx rfl) ?_)))))))))))));refine zh (wH (l:=[sv s.name,.int .i64 s.typ]) rfl rfl rfl ?_);refine zh (zk (aR ⟨s.name,s.typ⟩ (by show s.name.length<_; omega)) rfl rfl fun r S' h=>?_);obtain⟨rfl,rfl⟩:=h;show YL _ _ _ _ _ (Zm _ (.agg (vC (Zq s))) _) _;refine zh (Z5 fun p13=>?_);refine zh (Zv rfl rfl rfl rfl rfl ?_);refine zf (za ?_);refine uy (fun E S'=>Has E [(0,.pointer (some ⟨sb,0,none⟩)),(2,.int .i64 rank),(3,.int .i64 now),(4,.int .i64 exp),(6,.pointer (some ⟨p6,0,none⟩)),(13,.pointer (some ⟨p13,0,none⟩))]∧∃S1 H1,Sr sb N S1 H1∧wG S1.I (Zq s)=none∧VF N s rank now exp S=X6 N (Zq s) s rank now exp S1∧S1.V.length+S1.I.length<2 ^ 30∧zG S' (bN p13 (Zq s)::Ju p6 s (.slice va s.rrs.length vc)::H1::S0)) ?_ fun E S' ⟨hE2,S1,H1,hS1,hb1,hP1,hV1,hJ⟩=>?_
 ·have hS':=hS;obtain⟨W,D,L,ab,tb,mb,lb,db,ev,HA,HT,HM,HL,HD,HV,h,rfl⟩:=hS;refine zn (S0:=bN p13 (Zq s)::Ju p6 s (.slice va s.rrs.length vc)::sH sb ab tb mb lb db ev HA HT HM HL HD HV W::S0) zG.of (zn (zG.cons (zG.cons zG.op0)) (ze (Z6 (zi (pP rfl) (zi (zX rfl) (zi (zx rfl) (Zb rfl rfl (vO rfl rfl ?_))))))));cases hb:wG S.I (Zq s) with
  | none=>
   refine zO (uM h.m (by repeat (first | exact List.mem_cons_self | apply List.mem_cons_of_mem)) (Zq s) xU Cj Et rfl rfl (OM (JV h.q hb)) ?_) zN;refine zi (pP rfl) (zH (za (ze (z8 (yp (pP rfl) (yp (kD rfl rfl) (zf (za (zo rfl (zl (za ?_)))))))))));exact⟨⟨rfl,rfl,rfl,rfl,rfl,rfl,trivial⟩,S,_,hS',hb,hP0.trans (xF hb),hV,zG.cl2⟩
  | some i=>
   have hP1:=hP0.trans (iO hb);obtain⟨e,hf,he,rfl,hek⟩:=kY h.q hb;refine zO (uM h.m (by repeat (first | exact List.mem_cons_self | apply List.mem_cons_of_mem)) (Zq s) xU Cj Et rfl rfl (QF hf) ?_) zN;refine zi (pP rfl) (zH (za (ze (z8 (yp (pP rfl) (yp (kD rfl rfl) (zf (za (zC rfl (ze (ze (z8 (yp (pP rfl) (yp (zX rfl) (yp (zx rfl) ?_)))))))))))))));refine zh (uN (v:= .int .i64 e.i.pins) (by repeat (first | exact List.mem_append.2 (.inl (Kv he)) | apply List.mem_cons_of_mem)) rfl rfl ?_);refine yp (WS rfl rfl) (zf (za ?_));by_cases hp:0<e.i.pins
   ·rw[decide_eq_true hp];rw[if_pos hp] at hP1;rw[hP1];refine zC rfl (ze (z8 (yp pC (zf (za (zJ (zV (zV ?_))))))));exact zI (rI rfl) ⟨_,zG.cl0,rfl,_,hS',rfl⟩
   ·rw[decide_eq_false hp];rw[if_neg hp] at hP1;refine zo rfl (zl (za (z8 (yp (pP rfl) ?_))));refine zh (ZP rfl rfl ?_);refine zh (zk (Tri.op (nU hS' hb)) rfl rfl fun r S' h=>?_);obtain⟨rfl,H1,hS1,rfl⟩:=h;refine zf (za ?_);have hol:=uZ hS'.kn hb;exact⟨⟨rfl,rfl,rfl,rfl,rfl,rfl,trivial⟩,_,H1,hS1,tZ _ _,hP1,by show S.V.length+(vS S.I (Zq s)).length<_; omega,.of⟩
 rw[hP1];clear hP1 hP0 hS hV;obtain⟨E0,e0⟩:=zm hE2; subst e0; clear hE2;refine zn hJ ?_;generalize hR:X6 N (Zq s) s rank now exp S1=R;refine ze (zu ?_);refine Z7 (σ:=Ss) (fun S2 E S'=>Has E [(0,.pointer (some ⟨sb,0,none⟩)),(2,.int .i64 rank),(3,.int .i64 now),(4,.int .i64 exp),(6,.pointer (some ⟨p6,0,none⟩)),(13,.pointer (some ⟨p13,0,none⟩))]∧wG S2.I (Zq s)=none∧X6 N (Zq s) s rank now exp S2=R∧S2.V.length+S2.I.length<2 ^ 30∧∃H2,Sr sb N S2 H2∧zG S' (bN p13 (Zq s)::Ju p6 s (.slice va s.rrs.length vc)::H2::S0)) (fun S2=>S2.I.length) S1 ⟨⟨rfl,rfl,rfl,rfl,rfl,rfl,trivial⟩,hb1,hR,hV1,H1,hS1,.of⟩ fun S2 E S' ⟨hE2,hb2,hP2,hV2,H2,hS2,hJ⟩=>?_
 clear hS1 hb1 hV1 hR;have hS2':=hS2;obtain⟨W,D,L,ab,tb,mb,lb,db,ev,HA,HT,HM,HL,HD,HV,h,rfl⟩:=hS2;have hnb:=h.nb;obtain⟨E0,e0⟩:=zm hE2; subst e0; clear hE2;refine zn hJ (zn (zG.cons (zG.cons zG.op0)) (ze (ze (Z6 (zi (pP rfl) (zi (zX rfl) (zi (zx rfl) (Zb rfl rfl (vO rfl rfl (zi (pP rfl) ?_))))))))));have hv':Src (Es W++S0) (.slice va s.rrs.length vc) s.rrs:=Src.mono hv fun _ hs=>List.mem_append.2 (.inr hs)
 refine zO (zk (FL (S:=Es W++S0) h.t hs hv') rfl rfl fun r S' h=>?_) zN;obtain⟨rfl,rfl⟩:=h;refine zO (zk (Bj (sb:=sb) (tb:=tb) (mb:=mb) (lb:=lb) (db:=db) (ev:=ev) h.a) rfl rfl fun r S' h=>?_) zN;obtain⟨rfl,rfl⟩:=h;rw[h.q.cost,h.q.left];refine zi (WS rfl rfl) (zH (za ?_));by_cases hc:UK N S2<uJ (sets S2.I) s
 ·rw[decide_eq_true hc];refine zC rfl (zl (za (zu ?_)));refine zn (S0:=bN p13 (Zq s)::Ju p6 s (.slice va s.rrs.length vc)::sH sb ab tb mb lb db ev HA HT HM HL HD HV W::S0) ?_ ?_
  ·exact zG.cl2
  refine ze (z8 (yp (pP rfl) (yp (pI rfl) ?_)));refine zh (zk (EU hS2' now) rfl rfl fun r S' h=>?_);obtain⟨rfl,rfl⟩:=h;cases hn:vZ now S2 with
  | none=>
   rw[←hP2,Fa hc hn];refine yp (pU rfl) (yp (pExt rfl rfl) (yp (pExt rfl rfl) ?_));refine zh (Z5 fun p15=>?_);refine zh (Zv rfl rfl rfl rfl rfl ?_);refine yp (pB rfl) (zf (za (ze (ze (z8 (yp (pB rfl) (yp (Za rfl) (zf (za (zC rfl (ze (z8 (yp pC (zf (za (zJ (zV (bret (zV (bret (zV ?_)))))))))))))))))))));exact zI (rI rfl) ⟨_,.of,rfl,_,hS2',rfl⟩
  | some k=>
   obtain⟨i,hi,_⟩:=fH hn;refine yp (pU rfl) (yp (pExt rfl rfl) (yp (pExt rfl rfl) ?_));refine zh (Z5 fun p15=>?_);refine zh (Zv rfl rfl rfl rfl rfl ?_);refine yp (pB rfl) (zf (za (ze (ze (z8 (yp (pB rfl) (yp (Za rfl) (zf (za (zo rfl (zl (za (z8 (yp (pP rfl) ?_))))))))))))));refine zh (ZP rfl rfl ?_);refine zh (zk (dS hS2' hi (by omega)) rfl rfl fun r S' h=>?_);obtain⟨rfl,H3,hS3,rfl⟩:=h;refine zf (zW (za ?_));have hol:=uZ hS2'.kn hi;refine⟨KA k S2,⟨⟨rfl,rfl,rfl,rfl,rfl,rfl,trivial⟩,gQ hb2,(Qb hS2'.kn hc hn hi).symm.trans hP2,?_,H3,hS3,.of⟩,?_⟩
   ·show(S2.V++[k]).length+(vS S2.I k).length<_;rw[List.length_append,List.length_singleton]; omega
   ·show(vS S2.I k).length<_;omega
 ·rw[decide_eq_false hc];have hR:=aU (K:=Zq s) (rank:=rank) (now:=now) (exp:=exp) hc;rw[←hP2,hR];have hus:=h.q.us hnb.2.1 hnb.1;refine zo rfl (zZ (zA (zA (Z0 (za (ze (Z6 (zi (pP rfl) (zi (zX rfl) (zi (zx rfl) (Zb rfl rfl (zi (pP rfl) (zi (zX rfl) (zi (zx rfl) (Zb rfl rfl (vO rfl rfl ?_))))))))))))))));refine zO (zk (FI (S:=Es W++S0) h.t h.a h.q.pk.inn h.q.pk.pos h.q.pk.hs hus hs hv') rfl rfl fun r S' hp=>?_) zN;have hfit:fits N D L s:=by
   unfold fits;rw[h.q.cost];have:=h.q.left (N:=N);omega
  rcases hp with⟨hp,_⟩ | ⟨_,hp,_⟩ | ⟨_,_,HT1,HA1,D1,rfl,hT1,hA1,hI1,hB1,_,rfl⟩
  ·exact absurd hE hp
  ·exact absurd hfit hp
  have hex:=(QB hE hnb.2.1 ⟨by have:=dU (U7 hE).1; omega,(U7 hE).2⟩ (kJ (U7 hE).1)).1 hfit;refine zi (pU rfl) (zi (pExt rfl rfl) (zi (pExt rfl rfl) (zi (pI rfl) (zi (pI rfl) (zH (za (ze (ze (z8 (yp (pI rfl) (yp (WU rfl rfl) (zf (za (zo rfl (zl (za (ze (Z6 (zi (pP rfl) (zi (zX rfl) (zi (zx rfl) (Zb rfl rfl (vO rfl rfl (zi (pI rfl) (zi (pI rfl) (zi (pI rfl) (zi (pI rfl) (zi (v:= .agg #[.int .i64 ((hnd (Wq N D L (Ze s)).D:Nat):Int),.int .i64 rank,.int .i64 now,.int .i64 exp,.int .i64 0]) rfl ?_))))))))))))))))))))))))))));refine Zd (ZC rfl fun p112=>⟨(by first | exact fun _ h=>List.mem_cons_of_mem _ h | simp),?_⟩) zN;refine zO (D7 h.m (Zq s) (⟨some p112⟩:Ptr) xU Cj rfl rfl rfl fun HM1 hM1=>?_) zN;refine zH (za (ze (Z6 (zi (pP rfl) (zi (zX rfl) (zi (zx rfl) (Zb rfl rfl (vO rfl rfl ?_))))))));refine zO (zk (Mc h.l (by omega) (by omega) (Zq s)) rfl rfl fun r S' h=>?_) zN;obtain⟨rfl,HL1,hL1,rfl⟩:=h;refine zH (za (ze (Z6 (zi (pP rfl) (zi (zX rfl) (zi (zx rfl) (Zb rfl rfl (vO rfl rfl (zi (pI rfl) ?_)))))))));refine zO (zk (Md h.d (by rw[List.length_map]; omega) (Zq s) exp) rfl rfl fun r S' h=>?_) zN;obtain⟨rfl,HD1,hD1,rfl⟩:=h;refine zH (za (ze (z8 (yp pC (zf (za (zJ ?_)))))));have hfn:=JV h.q hb2;have hnk:=vg.1 hb2;have hnP:¬(Zq s∈S2.P∨Zq s∈S2.Q):=fun hm=>hnk (h.q.pq.mem_iff.1 (List.mem_append.2 hm))
  rw[AA,if_neg hnP] at hL1;rw[bU hb2] at hD1;have hq:=h.q.put hE hs hex.1 hI1 hB1 hb2 rank now exp p112;generalize hen:(⟨⟨Zq s,s,rank,now,exp,0⟩,((hnd (Wq N D L (Ze s)).D:Nat):Int),(Wq N D L (Ze s)).ids,p112⟩:En)=en at hq;have hM2:Mp mb (KC (W++[en])) (W++[en]).length HM1:=by
   have e1:KC (W++[en])=Wy (KC W) (Zq s) (some (⟨some p112⟩:Ptr)):=by rw[CF (by rw[←hen]; exact hfn), ←hen]
   have e2:Y8 (KC W) (Zq s) W.length=(W++[en]).length:=by
    unfold Y8 KC;rw[hfn,List.length_append]; rfl
   rw[e1, ←e2]; exact hM1
  have hD2:Du db ((S2.I++[(⟨Zq s,s,rank,now,exp,0⟩:It)]).map It.de) HD1:=by rw[List.map_append]; exact hD1
  have hse:QE en=[(p112,.cells #[.int .i64 ((hnd (Wq N D L (Ze s)).D:Nat):Int),.int .i64 rank,.int .i64 now,.int .i64 exp,.int .i64 0] 184)]:=by rw[←hen]
  refine zI (rI rfl) ⟨_,?_,rfl,_,Sr.mk ⟨hq,hA1,hT1,hM2,hL1,hD2,h.v⟩,rfl⟩;exact zG.add hse.symm
def swp(f:Ss × Nat)(k:Ky):Ss × Nat:=if free f.1.I k=true then(KA k f.1,f.2+1) else f
def Xu(now:Int)(S:Ss)(n:Nat):Ss × Nat:=((due now S.I).take n).foldl swp (S,0)
def VY(now:Int)(S:Ss):Ss × Nat:=(due now S.I).foldl swp (S,0)
theorem yI{now:Int}{I:List It}(h:(keys I).Nodup):(due now I).Nodup:=by
 unfold due upto;have h1:=((Xe (key:=xQ) (I.map It.de)).map (·.k)).nodup_iff.2 (by rw[List.map_map]; exact h);exact(List.filter_sublist.map De.k).nodup h1
theorem JZ{now:Int}{I:List It}{k:Ky}(h:k∈due now I):k∈keys I:=by
 obtain⟨e,he,rfl⟩:=List.mem_map.1 h;exact qV he
structure SwI(now:Int)(S:Ss)(n:Nat)(R:Ss × Nat):Prop where
 kn:(keys R.1.I).Nodup
 mem:∀x∈(due now S.I).drop n,x∈keys R.1.I
 len:R.1.V.length+R.1.I.length=S.V.length+S.I.length
 cnt:R.2≤n
theorem Cy{S:Ss}{k:Ky}{i:It}(hn:(keys S.I).Nodup)(h:wG S.I k=some i):(KA k S).V.length+(KA k S).I.length=S.V.length+S.I.length:=by
 have:=uZ hn h;show(S.V++[k]).length+(vS S.I k).length=_;rw[List.length_append,List.length_singleton]; omega
theorem gF{I:List It}{k:Ky}(h:free I k=true):∃i,wG I k=some i∧i.pins=0:=by
 unfold free at h;cases hb:wG I k with
 | none=>rw[hb] at h; cases h
 | some i=>rw[hb] at h; exact⟨i,rfl,of_decide_eq_true h⟩
theorem swI{now:Int}{S:Ss}(hn:(keys S.I).Nodup):∀n,n≤(due now S.I).length→SwI now S n (Xu now S n)
 | 0,_=>⟨hn,fun x hx=>JZ hx,rfl,Nat.le_refl 0⟩
 | n+1,hl=>by
  have ih:=swI (now:=now) hn n (by omega);have hl':n<(due now S.I).length:=by omega
  have e1:Xu now S (n+1)=swp (Xu now S n) (due now S.I)[n]:=by
   unfold Xu;rw[List.take_succ_eq_append_getElem hl',List.foldl_append]; rfl
  have hd:(due now S.I).drop n=(due now S.I)[n]::(due now S.I).drop (n+1):=List.drop_eq_getElem_cons hl';have hnd:=(List.drop_sublist n _).nodup (yI (now:=now) hn);rw[hd] at hnd;have hnd:=(List.nodup_cons.1 hnd).1;have hm:=ih.mem;rw[hd] at hm;rw[e1];generalize (due now S.I)[n]=k at*
  generalize Xu now S n=R at*
  unfold swp;split
  ·next hf=>
   obtain⟨i,hb,_⟩:=gF hf;refine⟨((vR R.1.I k).map _).nodup ih.kn,fun x hx=>?_,(Cy ih.kn hb).trans ih.len,by show R.2+1≤n+1; have:=ih.cnt; omega⟩;show x∈keys (vS R.1.I k);rw[U0,List.mem_filter];refine⟨hm x (List.mem_cons_of_mem _ hx),?_⟩;have:x≠k:=fun e=>hnd (e▸hx)
   simpa using this
  ·exact⟨ih.kn,fun x hx=>hm x (List.mem_cons_of_mem _ hx),ih.len,by have:=ih.cnt; omega⟩
theorem nP{now:Int}{S:Ss}{n:Nat}(h:n<(due now S.I).length):Xu now S (n+1)=swp (Xu now S n) (due now S.I)[n]:=by
 unfold Xu;rw[List.take_succ_eq_append_getElem h,List.foldl_append]; rfl
theorem Em:isAgg? Tryz.prog 3=some false:=by kernel_rfl
theorem zG.op2{x y:List Chunk}{sb ab tb mb lb db:Nat}{ev:Value}{HA HT HM HL HD HV:List Chunk}{W:List En}:zG [x,y,sH sb ab tb mb lb db ev HA HT HM HL HD HV W] (x::y::wX sb ab tb mb lb db ev::HA::HT::HM::HL::HD::HV::Es W):=⟨[],by simp[sH]⟩
theorem zG.clx{x y:List Chunk}{S G:zL}{sb ab tb mb lb db:Nat}{ev:Value}{HA HT HM HL HD HV:List Chunk}{W:List En}[h:Sub S (x::y::wX sb ab tb mb lb db ev::HA::HT::HM::HL::HD::HV::Es W) G]:zG S [x,y,sH sb ab tb mb lb db ev HA HT HM HL HD HV W]:=zG.trans (zG.of (h:=h)) ⟨[],by simp[sH]⟩
theorem nS(now:Int):Tri Tryz.prog 87 #[.pointer none,.int .i64 now] [] (fun r S'=>r= .int .i64 0∧S'=[]):=by
 refine Tri.forget (zq Tryz.Mv (Nat.le_of_ble_eq_true rfl) ?_);unfold Tryz.Pp;refine ze (z8 ?_);refine zh (mI (qE rfl) fun p2=>?_);refine zh (Z5 fun p4=>?_);refine zf (za (ze (ze (z8 ?_))));refine zh (zy rfl rfl ?_);refine yp (wh rfl rfl) (zf (za (zC rfl (ze (z8 ?_)))));refine zh (ZU rfl rfl (vH rfl) ?_);refine zf (za (zJ (zV ?_)));exact zI (jd (Lu (b:=p4) Em rfl)) ⟨[],.of,rfl,rfl⟩
abbrev Bg(p2 p4 sb c:Nat):zL:=[[(p2,.cells #[.pointer (some ⟨sb,0,none⟩)] 82)],[(p4,.cells #[.int .i64 (c:Int)] 3)]]
theorem Bh{sb N:Nat}{S:Ss}{H:List Chunk}(hS:Sr sb N S H)(now:Int)(hV:S.V.length+S.I.length<2 ^ 30):
 Tri Tryz.prog 87 #[.pointer (some ⟨sb,0,none⟩),.int .i64 now] [H] (fun r S'=>r= .int .i64 ((VY now S).2:Nat)∧∃H',Sr sb N (VY now S).1 H'∧S'=[H']):=by
 have hnb:=hS.nb;have hS0:=hS;have hkn:=hS.kn;obtain⟨W,D,L,ab,tb,mb,lb,db,ev,HA,HT,HM,HL,HD,HV,h,rfl⟩:=hS;refine Tri.forget (Tri.EW (zq Tryz.Mv (Nat.le_of_ble_eq_true rfl) ?_));unfold Tryz.Pp;refine ze (z8 ?_);refine zh (mI (qE rfl) fun p2=>?_);refine zh (Z5 fun p4=>?_);refine zf (za (ze (ze (z8 ?_))));refine zh (zy rfl rfl ?_);refine yp (wh rfl rfl) (zf (za (zo rfl (zl (za (ze (ze (z8 ?_))))))));refine zh (zy rfl rfl ?_);refine yp (zX rfl) (yp (zx rfl) ?_);refine zh (zy rfl rfl ?_);refine yp (pI rfl) ?_;refine zh (zk rV rfl rfl fun r S' h=>?_);obtain⟨bd,ba,rfl,rfl⟩:=h;refine zf (za (zu ?_));have hdl:(S.I.map It.de).length<2 ^ 38:=by rw[List.length_map]; omega
 have hdue:(due now S.I).length=(upto now (S.I.map It.de)).length:=by unfold due; rw[List.length_map]
 refine YJ (fun pre T=>pre.length≤(due now S.I).length∧∃H',Sr sb N (Xu now S pre.length).1 H'∧zG T (Bg p2 p4 sb (Xu now S pre.length).2++[H']))
  (fun e pre T=>False)
  rfl rfl (Qq (db:=db) (bd:=bd) (ba:=ba) (S0:=Bg p2 p4 sb 0++(wX sb ab tb mb lb db ev::HA::HT::HM::HL::HV::Es W)) h.d hdl now) ⟨Nat.zero_le _,_,hS0,(show(Bg p2 p4 sb (Xu now S ([]:List (Array Value)).length).2)=Bg p2 p4 sb 0 from rfl)▸zG.clx⟩ ?_ ?_ ?_ ?_
 ·intro pre x hx;obtain⟨_,rfl⟩:=pfx hx;rfl
 ·rintro l pre x T hx ⟨hle,H1,hS1,hJ⟩;obtain⟨hl,rfl⟩:=pfx hx;have hl2:pre.length<(due now S.I).length:=by omega
  have hI:=swI (now:=now) hkn pre.length hle;have hst:=nP hl2;have hmem:=hI.mem;rw[List.drop_eq_getElem_cons hl2] at hmem;have hk0:(due now S.I)[pre.length]=(upto now (S.I.map It.de))[pre.length].k:=by simp only[due,List.getElem_map]
  rw[hk0] at hst hmem;generalize (upto now (S.I.map It.de))[pre.length]=d at hst hmem;have hkm:=hmem d.k (by simp);have hcnt:=hI.cnt;have hlen:=hI.len;have hpl:(pre++[mo d]).length=pre.length+1:=by rw[List.length_append]; rfl
  generalize Xu now S pre.length=R at hS1 hJ hst hkm hcnt hlen;have hle2:(pre++[mo d]).length≤(due now S.I).length:=by omega
  have hS1':=hS1;obtain⟨W1,D1,L1,ab1,tb1,mb1,lb1,db1,ev1,HA1,HT1,HM1,HL1,HD1,HV1,h1,rfl⟩:=hS1;obtain⟨e,hf,he,hb,hfr⟩:=JW h1.q hkm;refine zn hJ (zn zG.op2 (z8 ?_));refine zh (Z5 fun p5=>?_);refine zh (Zv rfl rfl rfl rfl rfl ?_);refine zf (za (zu (ze (Z6 (Zb rfl rfl (zi (zX rfl) (zi (zx rfl) (Zb rfl rfl (vO rfl rfl ?_)))))))));refine Zd (uM h1.m (by repeat (first | exact List.mem_cons_self | apply List.mem_cons_of_mem)) d.k xU Cj Et rfl rfl (QF hf) ⟨fun _ h=>h,?_⟩) zN;refine zi (zX rfl) (zi (zx rfl) (iw (v:= .int .i64 e.i.pins) (by repeat (first | exact Kv he | apply List.mem_cons_of_mem)) rfl rfl (zi (wB rfl rfl) (zH (za ?_)))));by_cases hp:e.i.pins=0
  ·rw[decide_eq_true hp] at hfr ⊢;have e1:swp R d.k=(KA d.k R.1,R.2+1):=by unfold swp; rw[if_pos hfr]
   refine zC rfl (ze (z8 ?_));refine zh (zy rfl rfl ?_);refine zh (ZP rfl rfl ?_);refine zh (zk (Tri.op (dS hS1' hb (by omega))) rfl rfl fun r S' h=>?_);obtain⟨rfl,H2,hS2,rfl⟩:=h;have hR2:R.2<2 ^ 40:=by
    have:(due now S.I).length≤S.I.length:=by
     have:=(yI (now:=now) hkn).length_le_of_subset (fun x hx=>JZ hx:due now S.I ⊆ keys S.I);unfold keys at this;rw[List.length_map] at this;exact this
    omega
   refine zf (za (z8 ?_));refine zh (zy rfl rfl ?_);refine yp (Z8 rfl rfl (by omega)) ?_;refine zh (ZU rfl rfl (vH rfl) ?_);refine zf (zW ?_);refine⟨hle2,H2,?_,?_⟩
   ·rw[hpl,hst,e1]; exact hS2
   ·rw[hpl,hst,e1]; exact .of
  ·rw[decide_eq_false hp] at hfr ⊢;have e1:swp R d.k=R:=by unfold swp; rw[if_neg (by rw[hfr]; decide)]
   refine zo rfl (zl (zW ?_));refine⟨hle2,sH sb ab1 tb1 mb1 lb1 db1 ev1 HA1 HT1 HM1 HL1 HD1 HV1 W1,?_,?_⟩
   ·rw[hpl,hst,e1]; exact hS1'
   ·rw[hpl,hst,e1]; exact zG.clx
 ·rintro xs S' hd ⟨hn,H1,hS1,hJ⟩;have hxl:xs.length=(due now S.I).length:=by rw[hd,List.length_map,hdue]
  have e1:Xu now S xs.length=VY now S:=by unfold Xu VY; rw[hxl,List.take_length]
  rw[e1] at hS1 hJ;refine zW (za ?_);refine zn hJ (ze (z8 ?_));refine zh (zy rfl rfl ?_);refine zh (ZU rfl rfl (vH rfl) ?_);refine zf (za (zJ ?_));exact zI (jd (Lu (b:=p4) Em rfl)) ⟨[H1],.of,rfl,_,hS1,rfl⟩
 ·rintro e pre S' _ h;exact h.elim
end Go.Proofs.YtekgciopamkjlaaGreat
