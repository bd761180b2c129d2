/- Stores (chapter 10), plainly: what is there, who goes next, what each act makes of it. Stores (chapter 10): their memory; New, Used, Left, Count, Evicted. Stores (chapter 10): find, item, gone, evict. Stores (chapter 10): gone, evict, Drop, pin, Peek, Get. Stores (chapter 10): Drop, Pin, Unpin, Peek, Get. Stores (chapter 10): Peek, Get. Stores (chapter 10): who goes next. Stores (chapter 10): Put. Stores (chapter 10): Sweep. -/
import Derived.Test.YtekgciopamkjlaaGreatP4
import Derived.Test.YtekgciopamkjlaaGreatL1
import Derived.Test.YtekgciopamkjlaaGreatI1
import Derived.Test.YtekgciopamkjlaaGreatFStore
namespace Go.Proofs.YtekgciopamkjlaaGreat
open Go.Xs
open Enc (enc)
structure Ptr where
 a:Option Nat
instance:Vv Ptr:=⟨fun p=> .pointer (p.a.map fun b=>⟨b,0,none⟩)⟩
/-- an item -/
structure It where
 k:Ky
 s:St
 rank:Int
 came:Int
 exp:Int
 pins:Int
/-- .. its handle, its names' handles, its place -/
structure En where
 i:It
 h:Int
 ids:List Int
 eb:Nat
def En.z(e:En):LS:=⟨e.h,e.i.s,e.ids⟩
def It.de(i:It):De:=⟨i.k,i.exp⟩
def fk(k:Ky):Ky:=⟨zx k.n,k.t⟩
structure Ss where
 I:List It
 P:List Ky
 Q:List Ky
 V:List Ky
def keys(I:List It):List Ky:=I.map (·.k)
def sets(I:List It):List St:=I.map (·.s)
def VE(I:List It)(k:Ky):Option It:=I.find? fun i=>decide (i.k=k)
def Vy(I:List It)(k:Ky):List It:=I.filter fun i=> !decide (i.k=k)
def free(I:List It)(k:Ky):Bool:=match VE I k with | some i=>decide (i.pins=0) | none=>false
def Xe(k:Ky)(S:Ss):Ss:=⟨Vy S.I k,S.P.erase k,S.Q.erase k,S.V⟩
def pR(k:Ky)(S:Ss):Ss:=⟨Vy S.I k,S.P.erase k,S.Q.erase k,S.V++[k]⟩
def due(now:Int)(I:List It):List Ky:=(upto now (I.map It.de)).map (·.k)
def VR(now:Int)(S:Ss):Option Ky:=(due now S.I++(S.P++S.Q)).find? (free S.I)
def uT(N:Nat)(S:Ss):Int:=((N-uP (sets S.I):Nat):Int)
def uR(N:Nat)(now:Int)(s:St):Nat→Ss→Ss × Bool
 | 0,S=>(S,decide (Vr (sets S.I) s≤uT N S))
 | f+1,S=>if uT N S<Vr (sets S.I) s then(match VR now S with | none=>(S,false) | some k=>uR N now s f (pR k S)) else(S,true)
def UG(N:Nat)(k:Ky)(s:St)(rank now exp:Int)(S:Ss):Ss × Int:=match uR N now s S.I.length S with
 | (S',true)=>(⟨S'.I++[⟨k,s,rank,now,exp,0⟩],S'.P++[k],S'.Q,S'.V⟩,0)
 | (S',false)=>(S',4)
def lC(n most:Int):Bool:=decide (0≤n) && decide (n≤most)
def Qp(rank now exp:Int):Bool:=lC now 1099511627776 && lC exp 1099511627776 && !decide (exp≤now) && lC rank 9
def Zk(s:St):Ky:=fk ⟨s.name,s.typ⟩
def aG(N:Nat)(s:St)(rank now exp:Int)(S:Ss):Ss × Int:=match VE S.I (Zk s) with
 | some i=>if 0<i.pins then(S,6) else UG N (Zk s) s rank now exp (Xe (Zk s) S)
 | none=>UG N (Zk s) s rank now exp S
theorem Yt{N:Nat}{s:St}{rank now exp:Int}{S:Ss}{i:It}(h:VE S.I (Zk s)=some i):aG N s rank now exp S=if 0<i.pins then(S,6) else UG N (Zk s) s rank now exp (Xe (Zk s) S):=by unfold aG; rw[h]
theorem Yu{N:Nat}{s:St}{rank now exp:Int}{S:Ss}(h:VE S.I (Zk s)=none):aG N s rank now exp S=UG N (Zk s) s rank now exp S:=by unfold aG; rw[h]
def uL(N:Nat)(s:St)(rank now exp:Int)(S:Ss):Ss × Int:=
 if ZT s≠0 then(S,ZT s) else if Qp rank now exp=false then(S,1) else aG N s rank now exp S
/-! ### who is there -/
def Y7(W:List En)(k:Ky):Option En:=W.find? fun e=>decide (e.i.k=k)
def yZ(W:List En)(k:Ky):Option Ptr:=(Y7 W k).map fun e=>⟨some e.eb⟩
def UN(W:List En)(k:Ky):List En:=W.filter fun e=> !decide (e.i.k=k)
theorem jN{W:List En}{k:Ky}{e:En}(h:Y7 W k=some e):e∈W∧e.i.k=k:=⟨List.mem_of_find?_eq_some h,by simpa using List.find?_some h⟩
theorem QJ(W:List En)(k:Ky):VE (W.map (·.i)) k=(Y7 W k).map (·.i):=by
 unfold VE Y7;rw[List.find?_map];rfl
theorem jY{I:List It}{k:Ky}{i:It}(h:VE I k=some i):i∈I∧i.k=k:=⟨List.mem_of_find?_eq_some h,by simpa using List.find?_some h⟩
theorem vM{I:List It}{k:Ky}:VE I k=none↔k ∉ keys I:=by
 unfold VE;rw[List.find?_eq_none];constructor
 ·intro h hk;obtain⟨i,hi,rfl⟩:=List.mem_map.1 hk;have:=h i hi;simp at this
 ·intro h i hi;have:i.k≠k:=fun e=>h (List.mem_map.2 ⟨i,hi,e⟩)
  simpa using this
theorem tY(W:List En)(k:Ky):(UN W k).map (·.i)=Vy (W.map (·.i)) k:=by
 unfold UN Vy;rw[List.filter_map];rfl
theorem xL(I:List It)(k:Ky):keys (Vy I k)=(keys I).filter fun x=> !decide (x=k):=by
 unfold Vy keys;rw[List.filter_map];rfl
theorem gY{W:List En}{k x:Ky}(h:x≠k):Y7 (UN W k) x=Y7 W x:=by
 unfold Y7 UN
 induction W with
 | nil=>rfl
 | cons e W ih=>
  rw[List.filter_cons,List.find?_cons];by_cases hk:e.i.k=k
  ·rw[if_neg (by simp[hk]),ih,decide_eq_false (show ¬e.i.k=x from fun q=>h (q.symm.trans hk))]
  ·rw[if_pos (by simp[hk]),List.find?_cons,ih]
theorem aV(W:List En)(k:Ky):Y7 (UN W k) k=none:=by
 unfold Y7;rw[List.find?_eq_none];intro e he;have:=(List.mem_filter.1 he).2;simpa using this
theorem nJ(W:List En)(k:Ky):yZ (UN W k)=wQ (yZ W) k none:=by
 funext x;unfold yZ wQ;split
 ·next e=>rw[e,aV]; rfl
 ·next e=>rw[gY e]
theorem nK{W:List En}{e:En}(h:Y7 W e.i.k=none):yZ (W++[e])=wQ (yZ W) e.i.k (some ⟨some e.eb⟩):=by
 funext x;unfold yZ wQ Y7;rw[List.find?_append,List.find?_singleton];by_cases q:x=e.i.k
 ·subst q;have h2:W.find? (fun y=>decide (y.i.k=e.i.k))=none:=h;rw[if_pos rfl,if_pos (decide_eq_true rfl),h2];rfl
 ·rw[if_neg q,if_neg (by simpa using fun r=>q r.symm),Option.or_none]
theorem fD{W:List En}{k:Ky}(h:∀e∈W,e.i.k≠k):UN W k=W:=List.filter_eq_self.2 fun e he=>by simpa using h e he
/-- one of them, and the others -/
theorem VN:∀{W:List En} {e:En},(keys (W.map (·.i))).Nodup→e∈W→∃A B,W=A++e::B∧UN W e.i.k=A++B
 | y::W,e,hn,he=>by
  have hn2:=List.nodup_cons.1 hn;rcases List.mem_cons.1 he with rfl | he
  ·refine⟨[],W,rfl,?_⟩;unfold UN;rw[List.filter_cons,if_neg (by simp)];exact fD fun x hx q=>hn2.1 (List.mem_map.2 ⟨x.i,List.mem_map.2 ⟨x,hx,rfl⟩,q⟩)
  ·obtain⟨A,B,h1,h2⟩:=VN hn2.2 he;refine⟨y::A,B,by rw[h1]; rfl,?_⟩;have:y.i.k≠e.i.k:=fun q=>hn2.1 (List.mem_map.2 ⟨e.i,List.mem_map.2 ⟨e,he,rfl⟩,q.symm⟩)
   unfold UN at h2 ⊢;rw[List.filter_cons,if_pos (by simpa using this),h2]; rfl
theorem YI:∀{I:List It} {k:Ky},(keys I).Nodup→Vp k (I.map It.de)=(Vy I k).map It.de
 | [],_,_=>rfl
 | i::I,k,hn=>by
  have hn2:=List.nodup_cons.1 hn;have ih:=YI (k:=k) hn2.2;unfold Vp at ih ⊢;unfold Vy at ih ⊢;rw[List.map_cons,idx];by_cases hk:i.k=k
  ·rw[if_pos (show i.de.k=k from hk),List.filter_cons,if_neg (by simp[hk])];have:I.filter (fun i=> !decide (i.k=k))=I:=List.filter_eq_self.2 fun j hj=>by
    have:j.k≠k:=fun e=>hn2.1 (List.mem_map.2 ⟨j,hj,e.trans hk.symm⟩)
    simpa using this
   rw[this]; rfl
  ·rw[if_neg (show ¬i.de.k=k from hk),List.filter_cons,if_pos (by simp[hk])];cases hx:idx k (I.map It.de) with
   | none=>rw[hx] at ih; simp only[Option.map_none,List.map_cons]; rw[←ih]
   | some j=>rw[hx] at ih; simp only[Option.map_some,List.map_cons,List.eraseIdx_cons_succ]; rw[←ih]
theorem JZ{I:List It}{k:Ky}(h:VE I k=none):Vp k (I.map It.de)=I.map It.de:=by
 have:∀J:List It,k ∉ keys J→idx k (J.map It.de)=none:=fun J=>by
  induction J with
  | nil=>intro _; rfl
  | cons i J ih=>
   intro hk;have h1:i.de.k≠k:=fun e=>hk (List.mem_map.2 ⟨i,by simp,e⟩)
   rw[List.map_cons,idx,if_neg h1,ih fun hj=>hk (List.mem_cons_of_mem _ hj)]; rfl
 unfold Vp;rw[this I (vM.1 h)]
theorem JW{P Q:List Ky}{I:List It}{k:Ky}(hn:(keys I).Nodup)(h:(P++Q).Perm (keys I)):(P.erase k++Q.erase k).Perm (keys (Vy I k)):=by
 have hp:=h.nodup_iff.2 hn;obtain⟨h1,h2,_⟩:=List.nodup_append.1 hp;rw[xL,h1.erase_eq_filter,h2.erase_eq_filter, ←List.filter_append];have:=h.filter fun x=> !decide (x=k)
 refine .trans (.of_eq ?_) this;congr 1
/-! ### what is there, by the arena's blocks -/
theorem Pk.MQ{D:List (Option Bt)}{L:List Nm}{Z Z':List LS}(h:Pk D L Z)(p:Z.Perm Z'):Pk D L Z':=by
 have pB:(yU Z).Perm (yU Z'):=p.map _;refine⟨⟨h.inn.dis,h.inn.blk,fun x hx=>h.inn.oth x (pB.mem_iff.2 hx),fun i b hb=>(h.inn.all i b hb).imp id fun⟨x,hx,h2⟩=>⟨x,pB.mem_iff.1 hx,h2⟩,h.inn.us,h.inn.fold⟩,⟨h.liv.dis,fun e he=>?_,h.liv.pos,fun i hi=>h.liv.ids i ?_⟩,?_,fun z hz=>h.ok z (p.mem_iff.2 hz)⟩
 ·rw[h.liv.us e he];exact((p.map _).flatten).count_eq _
 ·exact((p.map _).flatten).mem_iff.2 hi
 ·exact(pB.map _).nodup_iff.1 h.hs
structure Sq(S:Ss)(W:List En)(D:List (Option Bt))(L:List Nm):Prop where
 its:W.map (·.i)=S.I
 pk:Pk D L (W.map En.z)
 kn:(keys S.I).Nodup
 kz:∀i∈S.I,i.k=Zk i.s
 pq:(S.P++S.Q).Perm (keys S.I)
 pn:∀i∈S.I,0≤i.pins∧i.pins≤1000
theorem Sq.sets{S:Ss}{W:List En}{D:List (Option Bt)}{L:List Nm}(h:Sq S W D L):(W.map En.z).map (·.s)=sets S.I:=by
 unfold Go.Proofs.YtekgciopamkjlaaGreat.sets;rw[←h.its,List.map_map,List.map_map];rfl
theorem Sq.used{S:Ss}{W:List En}{D:List (Option Bt)}{L:List Nm}(h:Sq S W D L):Zd D=uP (Go.Proofs.YtekgciopamkjlaaGreat.sets S.I):=by rw[h.pk.use,h.sets]
theorem Sq.left{N:Nat}{S:Ss}{W:List En}{D:List (Option Bt)}{L:List Nm}(h:Sq S W D L):((N-Zd D:Nat):Int)=uT N S:=by rw[h.used]; rfl
theorem Sq.cost{S:Ss}{W:List En}{D:List (Option Bt)}{L:List Nm}(h:Sq S W D L)(s:St):uV L s=Vr (Go.Proofs.YtekgciopamkjlaaGreat.sets S.I) s:=by rw[h.pk.cst,h.sets]
theorem Sq.few{N:Nat}{S:Ss}{W:List En}{D:List (Option Bt)}{L:List Nm}(h:Sq S W D L)(hN:Zd D≤N):16*W.length≤N:=by
 have h1:=h.pk.inn.used h.pk.hs;have h2:∀B:List (Int × Bs),16*B.length≤(B.map fun x=>zT x.2.length).sum:=fun B=>by
  induction B with
  | nil=>exact Nat.le_refl _
  | cons x B ih=>
   have:=yH x.2.length;rw[List.map_cons,List.sum_cons,List.length_cons]; omega
 have h3:=h2 (yU (W.map En.z));have h4:(yU (W.map En.z)).length=W.length:=by unfold yU; simp
 omega
theorem AY{L:List Nm}{Z:List LS}(h:∀z∈Z,ZT z.s=0∧Y8 z.s∧Al L z.ids ((Z7 z.s).map zx)):(KQ Z).length≤66*Z.length:=by
 induction Z with
 | nil=>exact Nat.le_refl _
 | cons z Z ih=>
  have h1:=ih fun y hy=>h y (List.mem_cons_of_mem _ hy)
  obtain⟨h2,_,h3⟩:=h z (by simp);have h4:=h3.len;have h5:=VP z.s;have h6:=(VU (VZ h2).1).2.2.2.2.2.2.1;rw[List.length_map] at h4;unfold KQ at h1 ⊢;rw[List.map_cons,List.flatten_cons,List.length_append,List.length_cons];omega
theorem Sq.us{N:Nat}{S:Ss}{W:List En}{D:List (Option Bt)}{L:List Nm}(h:Sq S W D L)(hN:Zd D≤N)(hb:N≤1048576):∀e∈L,e.u<2 ^ 50:=fun e he=>by
 have h1:=h.few hN;have h2:=AY (L:=L) h.pk.ok;rw[List.length_map] at h2;have:=h.pk.us h2 e he;omega
theorem Sq.len{S:Ss}{W:List En}{D:List (Option Bt)}{L:List Nm}(h:Sq S W D L):W.length=S.I.length∧S.P.length+S.Q.length=S.I.length:=by
 refine⟨by rw[←h.its,List.length_map],?_⟩;have:=h.pq.length_eq;rw[List.length_append] at this;unfold keys at this;rw[List.length_map] at this;exact this
theorem Sq.GJ{S:Ss}{W:List En}{D:List (Option Bt)}{L:List Nm}(h:Sq S W D L):(keys (W.map (·.i))).Nodup:=by rw[h.its]; exact h.kn
theorem Sq.GN{S:Ss}{W:List En}{D:List (Option Bt)}{L:List Nm}(h:Sq S W D L){e:En}(he:e∈W):um (W.map En.z) e.h=(UN W e.i.k).map En.z:=by
 obtain⟨A,B,h1,h2⟩:=VN h.GJ he;rw[h2,h1];have hh:=h.pk.hs;unfold Hs yU at hh;rw[h1,List.map_map,List.map_map,List.map_append,List.map_cons] at hh;obtain⟨_,h4,h5⟩:=List.nodup_append.1 hh;have h6:=(List.nodup_cons.1 h4).1;unfold um;rw[List.map_append,List.filter_append,List.map_cons,List.filter_cons,if_neg (by show ¬((En.z e).h !=e.h)=true; simp[En.z]),List.map_append];congr 1
 ·refine List.filter_eq_self.2 fun z hz=>?_
  obtain⟨y,hy,rfl⟩:=List.mem_map.1 hz;have:y.h≠e.h:=h5 y.h (List.mem_map.2 ⟨y,hy,rfl⟩) e.h (by show e.h∈e.h::_; exact List.mem_cons_self);simpa[En.z] using this
 ·refine List.filter_eq_self.2 fun z hz=>?_
  obtain⟨y,hy,rfl⟩:=List.mem_map.1 hz;have:y.h≠e.h:=fun q=>h6 (List.mem_map.2 ⟨y,hy,q⟩)
  simpa[En.z] using this
theorem VO(I:List It)(k:Ky):(Vy I k).Sublist I:=List.filter_sublist
theorem Sq.gone{S:Ss}{W:List En}{D D':List (Option Bt)}{L:List Nm}(h:Sq S W D L){e:En}(he:e∈W)(hI:WW D' (drops L e.ids) (jB (yU (W.map En.z)) e.h)):Sq (Xe e.i.k S) (UN W e.i.k) D' (drops L e.ids):=by
 have hz:e.z∈W.map En.z:=List.mem_map.2 ⟨e,he,rfl⟩;have h1:=h.pk.drop hz hI;have h2:um (W.map En.z) e.z.h=_:=h.GN he;rw[h2] at h1;refine⟨?_,h1,?_,fun i hi=>h.kz i ((VO _ _).subset hi),JW h.kn h.pq,fun i hi=>h.pn i ((VO _ _).subset hi)⟩
 ·rw[tY,h.its]; rfl
 ·exact((VO S.I e.i.k).map _).nodup h.kn
theorem Sq.ev{S:Ss}{W:List En}{D:List (Option Bt)}{L:List Nm}{V:List Ky}(h:Sq S W D L):Sq ⟨S.I,S.P,S.Q,V⟩ W D L:=⟨h.its,h.pk,h.kn,h.kz,h.pq,h.pn⟩
theorem Sq.nil:Sq ⟨[],[],[],[]⟩ [] [] []:=⟨rfl,Pk.nil,List.nodup_nil,fun i hi=>by simp at hi,.nil,fun i hi=>by simp at hi⟩
theorem Sq.put{N:Nat}{S:Ss}{W:List En}{D D':List (Option Bt)}{L:List Nm}(h:Sq S W D L){s:St}(hE:ZT s=0)(hs:Y8 s)(he:(wL N D L (Z7 s)).e=0)
 (hI:WW D' (wL N D L (Z7 s)).L ((((hnd (wL N D L (Z7 s)).D:Nat):Int),Wn s (wL N D L (Z7 s)).ids)::yU (W.map En.z))) (hh:Hs ((((hnd (wL N D L (Z7 s)).D:Nat):Int),Wn s (wL N D L (Z7 s)).ids)::yU (W.map En.z)))
 (hk:VE S.I (Zk s)=none) (rank came exp:Int) (eb:Nat):
 Sq ⟨S.I++[⟨Zk s,s,rank,came,exp,0⟩],S.P++[Zk s],S.Q,S.V⟩ (W++[⟨⟨Zk s,s,rank,came,exp,0⟩,((hnd (wL N D L (Z7 s)).D:Nat):Int),(wL N D L (Z7 s)).ids,eb⟩]) D' (wL N D L (Z7 s)).L:=by
 have h1:=h.pk.put hE hs he hI hh;refine⟨by rw[List.map_append,h.its]; rfl,?_,?_,?_,?_,?_⟩
 ·rw[List.map_append];exact h1.MQ (List.perm_append_singleton _ _).symm
 ·unfold keys;rw[List.map_append];refine List.nodup_append.2 ⟨h.kn,by simp,fun a ha b hb q=>?_⟩;simp at hb;exact vM.1 hk (by rw[←hb, ←q]; exact ha)
 ·intro i hi;rcases List.mem_append.1 hi with hi | hi
  ·exact h.kz i hi
  ·rw[List.mem_singleton.1 hi]
 ·unfold keys;rw[List.map_append];have:((S.P++[Zk s])++S.Q).Perm ((S.P++S.Q)++[Zk s]):=by
   rw[List.append_assoc,List.append_assoc];exact .append_left _ List.perm_append_comm
  exact this.trans (h.pq.append_right _)
 ·intro i hi;rcases List.mem_append.1 hi with hi | hi
  ·exact h.pn i hi
  ·rw[List.mem_singleton.1 hi];exact⟨Int.le_refl 0,by show(0:Int)≤1000; omega⟩
theorem X6:Tryz.prog.underlying 144=some (.map 43 182):=by kernel_rfl
theorem pG:Key.ok Ky Tryz.prog 43:=show pJ Tryz.prog 43=true by kernel_rfl
theorem Bb:(Tryz.prog.info? 182).bind (·.zero)=some (.pointer none):=by kernel_rfl
theorem nX:isAgg? Tryz.prog 43=some true:=by kernel_rfl
abbrev MV(e:En):Array Value:= #[.int .i64 e.h,.int .i64 e.i.rank,.int .i64 e.i.came,.int .i64 e.i.exp,.int .i64 e.i.pins]
abbrev JV(e:En):List Chunk:=[(e.eb,.cells (MV e) 184)]
def Es(W:List En):zw:=W.map JV
theorem qy(A B:List En):Es (A++B)=Es A++Es B:=List.map_append
theorem KN{W:List En}{e:En}(h:e∈W):JV e∈Es W:=List.mem_map.2 ⟨e,h,rfl⟩
abbrev wY(sb ab tb mb lb db:Nat)(ev:Value):List Chunk:=[(sb,.cells #[.pointer (some ⟨ab,0,none⟩),.pointer (some ⟨tb,0,none⟩),.map (some mb),.pointer (some ⟨lb,0,none⟩),.pointer (some ⟨db,0,none⟩),ev] 148)]
def sH(sb ab tb mb lb db:Nat)(ev:Value)(HA HT HM HL HD HV:List Chunk)(W:List En):List Chunk:=wY sb ab tb mb lb db ev++(HA++(HT++(HM++(HL++(HD++(HV++(Es W).flatten))))))
structure Sp(N:Nat)(S:Ss)(W:List En)(D:List (Option Bt))(L:List Nm)(ab tb mb lb db:Nat)(ev:Value)(HA HT HM HL HD HV:List Chunk):Prop where
 q:Sq S W D L
 a:Ar ab N D HA
 t:Tb tb ab L HT
 m:Mp mb (yZ W) W.length HM
 l:Lr lb ((N/512:Nat):Int) S.P S.Q HL
 d:Du db (S.I.map It.de) HD
 v:Zc 43 ev S.V HV
/-- a store of N bytes, as one piece of memory -/
def Sr(sb N:Nat)(S:Ss)(H:List Chunk):Prop:=∃(W:List En) (D:List (Option Bt)) (L:List Nm) (ab tb mb lb db:Nat) (ev:Value) (HA HT HM HL HD HV:List Chunk),Sp N S W D L ab tb mb lb db ev HA HT HM HL HD HV∧H=sH sb ab tb mb lb db ev HA HT HM HL HD HV W
theorem Sr.mk{sb N:Nat}{S:Ss}{W:List En}{D:List (Option Bt)}{L:List Nm}{ab tb mb lb db:Nat}{ev:Value}{HA HT HM HL HD HV:List Chunk}(h:Sp N S W D L ab tb mb lb db ev HA HT HM HL HD HV):Sr sb N S (sH sb ab tb mb lb db ev HA HT HM HL HD HV W):=⟨W,D,L,ab,tb,mb,lb,db,ev,HA,HT,HM,HL,HD,HV,h,rfl⟩
theorem Sp.nb{N:Nat}{S:Ss}{W:List En}{D:List (Option Bt)}{L:List Nm}{ab tb mb lb db:Nat}{ev:Value}{HA HT HM HL HD HV:List Chunk}(h:Sp N S W D L ab tb mb lb db ev HA HT HM HL HD HV):N≤1048576∧Zd D≤N∧16*S.I.length≤N∧W.length=S.I.length∧S.P.length+S.Q.length=S.I.length:=by
 obtain⟨h1,h2,h3,_⟩:=h.a.kF;obtain⟨h4,h5⟩:=h.q.len;exact⟨h3,h1,by have:=h.q.few h1; omega,h4,h5⟩
theorem Sr.nb{sb N:Nat}{S:Ss}{H:List Chunk}(h:Sr sb N S H):N≤1048576∧16*S.I.length≤N∧S.P.length+S.Q.length=S.I.length∧uP (sets S.I)≤N:=by
 obtain⟨W,D,L,ab,tb,mb,lb,db,ev,HA,HT,HM,HL,HD,HV,h,rfl⟩:=h;obtain⟨h1,h2,h3,h4,h5⟩:=h.nb;exact⟨h1,h3,h5,by rw[←h.q.used]; exact h2⟩
/-- opened, and closed again -/
theorem zP.sp{P:Program}{f:FuncId}{args:Array Value}{R:Value→zw→Prop}{S0:zw}{sb ab tb mb lb db:Nat}{ev:Value}{HA HT HM HL HD HV:List Chunk}{W:List En}(h:zP P f args (wY sb ab tb mb lb db ev::HA::HT::HM::HL::HD::HV::(Es W++S0)) R):zP P f args (sH sb ab tb mb lb db ev HA HT HM HL HD HV W::S0) R:=h.perm (by simp[sH])
theorem zP.Ii{P:Program}{f:FuncId}{args:Array Value}{R:Value→zw→Prop}{sb ab tb mb lb db:Nat}{ev:Value}{HA HT HM HL HD HV:List Chunk}{W:List En}(h:zP P f args (wY sb ab tb mb lb db ev::HA::HT::HM::HL::HD::HV::Es W) R):zP P f args [sH sb ab tb mb lb db ev HA HT HM HL HD HV W] R:=h.perm (by simp[sH])
theorem zF.sp{S G:zw}{sb ab tb mb lb db:Nat}{ev:Value}{HA HT HM HL HD HV:List Chunk}{W:List En}[h:Sub S (wY sb ab tb mb lb db ev::HA::HT::HM::HL::HD::HV::Es W) G]:zF S [sH sb ab tb mb lb db ev HA HT HM HL HD HV W]:=zF.trans (zF.of (h:=h)) ⟨[],by simp[sH]⟩
theorem zF.op{S S1 G:zw}{sb ab tb mb lb db:Nat}{ev:Value}{HA HT HM HL HD HV:List Chunk}{W:List En}[h:Sub S (sH sb ab tb mb lb db ev HA HT HM HL HD HV W::S1) G]:zF S (wY sb ab tb mb lb db ev::HA::HT::HM::HL::HD::HV::(Es W++S1)):=zF.trans (zF.of (h:=h)) ⟨[],by simp[sH]⟩
theorem QF{W:List En}{k:Ky}{e:En}(h:Y7 W k=some e):((yZ W k).map Vv.vv).getD (.pointer none)= .pointer (some ⟨e.eb,0,none⟩):=by unfold yZ; rw[h]; rfl
theorem Gm{W:List En}{k:Ky}(h:Y7 W k=none):((yZ W k).map Vv.vv).getD (.pointer none)= .pointer none:=by unfold yZ; rw[h]; rfl
set_option maxRecDepth 10000 in
theorem oH{n:Nat}(hn:2048≤n∧n≤1048576){z:Int}(hz:z=n):zP Tryz.prog 76 #[.int .i64 z] [] (fun r S=>∃sb H,r= .tuple #[.pointer (some ⟨sb,0,none⟩),.int .i64 0]∧Sr sb n ⟨[],[],[],[]⟩ H∧S=[H]):=by
 subst hz;refine zP.forget (zm Tryz.IL (Nat.le_of_ble_eq_true rfl) ?_);unfold Tryz.Ma;refine ze (z8 (yp pC (yp pC (zf (za (ze (ze (z8 (yp (pI rfl) (yp (ZN rfl rfl) (yp (pB rfl) ?_)))))))))));rw[decide_eq_false (show ¬(n:Int)<2048 from by omega)];refine zW rfl (Z6 (pI rfl) (zW rfl (Z6 (VK rfl rfl) (yp (zQ rfl rfl) (zf (za ?_))))));rw[decide_eq_false (show ¬(1048576:Int)<(n:Int) from by omega)];refine zA rfl (zq (za (ze (z8 (yp (pI rfl) ?_)))));refine zh (zk (AQ (n:=n) (by omega) rfl) rfl rfl fun r S' h=>?_);obtain⟨ab,HA,rfl,hA,rfl⟩:=h;refine yp (pU rfl) (yp (pExt rfl rfl) (yp (pExt rfl rfl) (yp (pP rfl) (yp (pI rfl) (zf (za (ze (z8 (yp (pP rfl) (yp (pP rfl) ?_))))))))));refine zh (zk (CZ (ab:=ab)) rfl rfl fun r S' h=>?_);obtain⟨tb,HT,rfl,hT,rfl⟩:=h;refine zh (ko Ky Ptr fun mb HM hM=>?_);refine yp (pI rfl) (yp (Dv rfl rfl (by decide) (by omega)) ?_);rw[show(n:Int).tdiv 512=((n/512:Nat):Int) from rfl];refine zh (zk (DL ((n/512:Nat):Int)) rfl rfl fun r S' h=>?_);obtain⟨lb,HL,rfl,hL,rfl⟩:=h;refine zh (zk DU rfl rfl fun r S' h=>?_);obtain⟨db,HD,rfl,hD,rfl⟩:=h;rw[show max ((n/512:Nat):Int) 0=((n/512:Nat):Int) from by omega] at hL;refine yp (v:= .agg #[.pointer (some ⟨ab,0,none⟩),.pointer (some ⟨tb,0,none⟩),.map (some mb),.pointer (some ⟨lb,0,none⟩),.pointer (some ⟨db,0,none⟩),.slice none 0 0]) rfl ?_;refine zh (Zt rfl fun p26=>?_);refine yp (pP rfl) (yp pC (zf (za (zJ ?_))));exact zH (GH rfl rfl) ⟨_,zF.re (S1:=[wY p26 ab tb mb lb db (.slice none 0 0),HA,HT,HM,HL,HD]) (S2:=[sH p26 ab tb mb lb db (.slice none 0 0) HA HT HM HL HD [] []]) (by simp[sH,Es]),p26,_,rfl,Sr.mk ⟨Sq.nil,hA,hT,hM,hL,hD,.nil⟩,rfl⟩
theorem qX:sizeOf? Tryz.prog 43=some 2:=by kernel_rfl
theorem KJ:isAgg? Tryz.prog 136=some true:=by kernel_rfl
theorem kL:sizeOf? Tryz.prog 136=some 9:=by kernel_rfl
theorem dN(k:Ky)(hk:k.n.length<2 ^ 62):zP Tryz.prog 125 #[.agg (WH k)] [] (fun r S=>r= .agg (WH (fk k))∧S=[]):=by
 refine zP.forget (zm Tryz.FR (Nat.le_of_ble_eq_true rfl) ?_);unfold Tryz.Cu;refine ze (z8 ?_);refine zh (Zt rfl fun p1=>?_);refine zh (Z8 fun p2=>?_);refine zf (za (ze (Z5 (zi (zn rfl) (Z9 rfl rfl (zi (zn rfl) (Z9 rfl rfl ?_)))))));refine Zj (zk (Ka k.n hk) rfl rfl fun r S' h=>?_) zO;obtain⟨rfl,rfl⟩:=h;refine⟨by simp,?_⟩;refine zi (vg (dU rfl) (uO rfl)) ?_;refine zN (wm rfl rfl rfl rfl rfl ?_) zO;refine zK (za (zJ ?_));exact zH (jo (Jw (b:=p2) nX qX rfl rfl)) ⟨[],.of,rfl,rfl⟩
theorem XJ(n most:Int):zP Tryz.prog 124 #[.int .i64 n,.int .i64 most] [] (fun r S=>r= .bool (lC n most)∧S=[]):=by
 refine zP.forget (zm Tryz.FT (Nat.le_of_ble_eq_true rfl) ?_);unfold Tryz.Cv lC;refine ze (z8 (yp pC (zf (za (ze (z8 (yp (pI rfl) (yp (Xa rfl rfl) (yp (pB rfl) ?_)))))))));by_cases h:0≤n
 ·rw[decide_eq_true h];refine zW rfl (Z6 (pI rfl) (zW rfl (Z6 (pI rfl) (zW rfl (Z6 (jy rfl rfl) (yp (zD rfl rfl) (yp (pB rfl) (zf (za (zJ ?_))))))))));exact zH (rB rfl) ⟨_,.of,rfl,rfl⟩
 ·rw[decide_eq_false h];refine zS rfl (zS rfl (zS rfl (yp (zQ rfl rfl) (yp (pB rfl) (zf (za (zJ ?_)))))));exact zH (rB rfl) ⟨_,.of,rfl,rfl⟩
def GI(o:Option En):Value:= .pointer (o.map fun e=>⟨e.eb,0,none⟩)
theorem Gl(W:List En)(k:Ky):((yZ W k).map Vv.vv).getD (.pointer none)=GI (Y7 W k):=by
 unfold yZ GI;cases Y7 W k<;>rfl
theorem sF{sb ab tb mb lb db n:Nat}{ev:Value}{W:List En}{HM:List Chunk}(hM:Mp mb (yZ W) n HM)(k:Ky)(hk:k.n.length<2 ^ 62):
 zP Tryz.prog 132 #[.pointer (some ⟨sb,0,none⟩),.agg (WH k)] [wY sb ab tb mb lb db ev,HM] (fun r S=>r=GI (Y7 W (fk k))∧S=[wY sb ab tb mb lb db ev,HM]):=by
 refine zP.forget (zm Tryz.pK (Nat.le_of_ble_eq_true rfl) ?_);unfold Tryz.rX;refine ze (z8 ?_);refine zh (Zt rfl fun p3=>?_);refine yp pC (zf (za (ze (ze (z8 (yp (pP rfl) (yp (wG rfl rfl) (zf (za (zA rfl (zq (za (ze (Z5 (zi (pP rfl) (zi (zM rfl) (zi (zn rfl) (Z9 rfl rfl (vC rfl rfl ?_)))))))))))))))))));refine Zj (zk (dN k hk) rfl rfl fun r S' h=>?_) zO;obtain⟨rfl,rfl⟩:=h;refine⟨by simp,?_⟩;refine zN (u7 hM (by repeat (first | exact List.mem_cons_self | apply List.mem_cons_of_mem)) (fk k) X6 pG Bb rfl rfl (Gl W (fk k)) ?_) zO;refine zi (v:=GI (Y7 W (fk k))) rfl (zK (za (zJ ?_)));exact zH (rP rfl) ⟨_,.of,rfl,rfl⟩
theorem lZ(k:Ky):zP Tryz.prog 132 #[.pointer none,.agg (WH k)] [] (fun r S=>r= .pointer none∧S=[]):=by
 refine zP.forget (zm Tryz.pK (Nat.le_of_ble_eq_true rfl) ?_);unfold Tryz.rX;refine ze (z8 ?_);refine zh (Zt rfl fun p3=>?_);refine yp pC (zf (za (ze (ze (z8 (yp (pP rfl) (yp (wG rfl rfl) (zf (za (zG rfl (ze (z8 (yp pC (zf (za (zJ (zX ?_)))))))))))))))));exact zH (rP rfl) ⟨_,.of,rfl,rfl⟩
/-- an item as it is told -/
abbrev lG(i:It)(v:Value):Array Value:= #[sv (Zf i.s).name,.int .i64 (Zf i.s).typ,v,.int .i64 (Zf i.s).kind,sv (Zf i.s).zone,.int .i64 i.rank,.int .i64 i.came,.int .i64 i.exp,.int .i64 i.pins]
abbrev Y5:Array Value:= #[.string ⟨#[]⟩,.int .i64 0,.slice none 0 0,.int .i64 0,.string ⟨#[]⟩,.int .i64 0,.int .i64 0,.int .i64 0,.int .i64 0]
theorem sD{sb N ab tb mb lb db:Nat}{ev:Value}{S:Ss}{W:List En}{D:List (Option Bt)}{L:List Nm}{HA HT:List Chunk}(hq:Sq S W D L)(hA:Ar ab N D HA)(hT:Tb tb ab L HT){e:En}(he:e∈W):
 zP Tryz.prog 133 #[.pointer (some ⟨sb,0,none⟩),.pointer (some ⟨e.eb,0,none⟩)] [wY sb ab tb mb lb db ev,HA,HT,JV e] (fun r S=>∃v HR,r= .agg (lG e.i v)∧Zc 89 v (Zf e.i.s).rrs HR∧S=[HR,wY sb ab tb mb lb db ev,HA,HT,JV e]):=by
 have hz:e.z∈W.map En.z:=List.mem_map.2 ⟨e,he,rfl⟩;obtain⟨hE,hs,hal⟩:=hq.pk.ok _ hz;have hC:=Dg hT hA hq.pk.inn (KL hz) hE hal;refine zP.forget (zm Tryz.FJ (Nat.le_of_ble_eq_true rfl) ?_);unfold Tryz.Cj;refine ze (z8 ?_);refine zh (Z8 fun p4=>?_);refine zf (za (ze (Wq (R:=[wY sb ab tb mb lb db ev,JV e]) (by simp) (zi (pP rfl) (zi (zM rfl) (zi (zn rfl) (Z9 rfl rfl (zi (pP rfl) (zi (zM rfl) (zi (zn rfl) (Z9 rfl rfl (zi (pP rfl) (zi (zM rfl) (zi (zn rfl) (Z9 rfl rfl ?_)))))))))))))));refine zN (zk hC rfl rfl fun r S' h=>?_) (Zj (Z8 fun p5=>⟨by simp,?_⟩) zO)
 ·obtain⟨v,HR,rfl,hR,rfl⟩:=h;obtain⟨a,c,rfl⟩:=hR.isSlice;refine zi (pU rfl) (zi (pExt rfl rfl) (zi (pExt rfl rfl) ?_));refine Zj (Z8 fun p5=>⟨(by first | exact fun _ h=>List.mem_cons_of_mem _ h | simp),?_⟩) zO;refine zN (wm rfl rfl rfl rfl rfl ?_) zO;refine zi (pI rfl) (zK (za (ze (Z5 (vC rfl rfl (zi (pP rfl) (zi (zM rfl) (zi (zn rfl) (Z9 rfl rfl (zi (pP rfl) (zi (zM rfl) (zi (zn rfl) (Z9 rfl rfl (zi (pP rfl) (zi (zM rfl) (zi (zn rfl) (Z9 rfl rfl (zi (pP rfl) (zi (zM rfl) (zi (zn rfl) (Z9 rfl rfl (zi (v:= .agg (lG e.i (.slice a (Zf e.z.s).rrs.length c))) rfl ?_))))))))))))))))))))));refine zN (wm rfl rfl rfl rfl rfl ?_) zO;refine zK (za (zJ ?_));exact zH (jo (Jw (b:=p4) KJ kL rfl rfl)) ⟨_,.of,_,HR,rfl,hR,rfl⟩
 ·refine zN (zk hC rfl rfl fun r S' h=>?_) zO;obtain⟨v,HR,rfl,hR,rfl⟩:=h;obtain⟨a,c,rfl⟩:=hR.isSlice;refine zi (pU rfl) (zi (pExt rfl rfl) (zi (pExt rfl rfl) ?_));refine zN (wm rfl rfl rfl rfl rfl ?_) zO;refine zi (pI rfl) (zK (za (ze (Z5 (vC rfl rfl (zi (pP rfl) (zi (zM rfl) (zi (zn rfl) (Z9 rfl rfl (zi (pP rfl) (zi (zM rfl) (zi (zn rfl) (Z9 rfl rfl (zi (pP rfl) (zi (zM rfl) (zi (zn rfl) (Z9 rfl rfl (zi (pP rfl) (zi (zM rfl) (zi (zn rfl) (Z9 rfl rfl (zi (v:= .agg (lG e.i (.slice a (Zf e.z.s).rrs.length c))) rfl ?_))))))))))))))))))))));refine zN (wm rfl rfl rfl rfl rfl ?_) zO;refine zK (za (zJ ?_));exact zH (jo (Jw (b:=p4) KJ kL rfl rfl)) ⟨_,.of,_,HR,rfl,hR,rfl⟩
theorem XU(X A B C:List Chunk):(X++(A++(B++C))).Perm (X++(B++(A++C))):=by
 refine .append_left X ?_;rw[←List.append_assoc, ←List.append_assoc];exact List.perm_append_comm.append_right C
theorem lq(A B:List En)(e:En):(Es (A++e::B)).flatten=(Es A).flatten++(JV e++(Es B).flatten):=by
 rw[qy,List.flatten_append]; rfl
/-- one entry taken out of the others; put back, or left -/
theorem zF.cons{x:List Chunk}{S T:zw}(h:zF S T):zF (x::S) (x::T):=by
 obtain⟨G,h⟩:=h;refine⟨G,?_⟩;rw[List.flatten_cons,List.flatten_cons,List.append_assoc];exact h.append_left x
theorem zF.em{x:List Chunk}{sb ab tb mb lb db:Nat}{ev:Value}{HA HT HM HL HD HV:List Chunk}{A B:List En}{e:En}:
 zF (x::wY sb ab tb mb lb db ev::HA::HT::HM::HL::HD::HV::Es (A++e::B)) (x::JV e::wY sb ab tb mb lb db ev::HA::HT::HM::HL::HD::HV::(Es A++Es B)):=⟨[],by
 simp only[List.flatten_cons,lq,List.flatten_append,List.append_nil];refine .append_left x ?_;have:=XU [] (wY sb ab tb mb lb db ev++(HA++(HT++(HM++(HL++(HD++(HV++(Es A).flatten))))))) (JV e) (Es B).flatten;simpa only[List.nil_append,List.append_assoc] using this⟩
theorem zF.ec{x:List Chunk}{S G:zw}{sb ab tb mb lb db:Nat}{ev:Value}{HA HT HM HL HD HV:List Chunk}{A B:List En}{e:En}[h:Sub S (x::JV e::wY sb ab tb mb lb db ev::HA::HT::HM::HL::HD::HV::(Es A++Es B)) G]:
 zF S [x,sH sb ab tb mb lb db ev HA HT HM HL HD HV (A++e::B)]:=zF.trans (zF.of (h:=h)) ⟨[],by
 simp only[sH,List.flatten_cons,List.flatten_nil,lq,List.flatten_append,List.append_nil];refine .append_left x ?_;have:=(XU [] (wY sb ab tb mb lb db ev++(HA++(HT++(HM++(HL++(HD++(HV++(Es A).flatten))))))) (JV e) (Es B).flatten).symm;simpa only[List.nil_append,List.append_assoc] using this⟩
theorem zF.sd{S G:zw}{sb ab tb mb lb db:Nat}{ev:Value}{HA HT HM HL HD HV:List Chunk}{A B:List En}[h:Sub S (wY sb ab tb mb lb db ev::HA::HT::HM::HL::HD::HV::(Es A++Es B)) G]:
 zF S [sH sb ab tb mb lb db ev HA HT HM HL HD HV (A++B)]:=zF.trans (zF.of (h:=h)) ⟨[],by simp[sH,qy]⟩
theorem zF.op1{x:List Chunk}{S G:zw}{sb ab tb mb lb db:Nat}{ev:Value}{HA HT HM HL HD HV:List Chunk}{W:List En}[h:Sub S [x,sH sb ab tb mb lb db ev HA HT HM HL HD HV W] G]:zF S (x::wY sb ab tb mb lb db ev::HA::HT::HM::HL::HD::HV::Es W):=zF.trans (zF.of (h:=h)) ⟨[],by simp[sH]⟩
theorem mX{W:List En}{e:En}(hn:(keys (W.map (·.i))).Nodup)(he:e∈W):Kc (yZ W) e.i.k W.length=(UN W e.i.k).length:=by
 obtain⟨A,B,h1,h2⟩:=VN hn he;have hf:(yZ W e.i.k).isSome=true:=by
  unfold yZ Y7;cases h:W.find? (fun x=>decide (x.i.k=e.i.k)) with
  | none=>have:=List.find?_eq_none.1 h e he; simp at this
  | some x=>rfl
 unfold Kc;rw[if_pos hf,h2,h1];simp
theorem Kn{S:Ss}{W:List En}{D:List (Option Bt)}{L:List Nm}(hq:Sq S W D L){k:Ky}{i:It}(h:VE S.I k=some i):∃e,Y7 W k=some e∧e∈W∧e.i=i∧i.k=k:=by
 rw[←hq.its,QJ] at h;obtain⟨e,he,rfl⟩:=Option.map_eq_some_iff.1 h;exact⟨e,he,(jN he).1,rfl,(jN he).2⟩
theorem JQ{S:Ss}{W:List En}{D:List (Option Bt)}{L:List Nm}(hq:Sq S W D L){k:Ky}(h:VE S.I k=none):Y7 W k=none:=by
 rw[←hq.its,QJ] at h;exact Option.map_eq_none_iff.1 h
theorem dM{sb N:Nat}{S:Ss}{H:List Chunk}(hS:Sr sb N S H){k:Ky}{i:It}(hk:VE S.I k=some i):
 zP Tryz.prog 126 #[.pointer (some ⟨sb,0,none⟩),.agg (WH k)] [H] (fun r S'=>r= .tuple #[]∧∃H',Sr sb N (Xe k S) H'∧S'=[H']):=by
 have hnb:=hS.nb;obtain⟨W,D,L,ab,tb,mb,lb,db,ev,HA,HT,HM,HL,HD,HV,h,rfl⟩:=hS;obtain⟨e,hf,he,rfl,hek⟩:=Kn h.q hk;have hz:e.z∈W.map En.z:=List.mem_map.2 ⟨e,he,rfl⟩;obtain⟨hE,hs,hal⟩:=h.q.pk.ok _ hz;have hC:=sW h.t h.a h.q.pk.inn h.q.pk.pos (KL hz) hE hal hs;have hC:zP Tryz.prog 25 #[.pointer (some ⟨ab,0,none⟩),.pointer (some ⟨tb,0,none⟩),.int .i64 e.h] _ _:=hC;obtain⟨A,B,hW,hout⟩:=VN h.q.GJ he;refine zP.forget (zP.Ii (zm Tryz.FQ (Nat.le_of_ble_eq_true rfl) ?_));unfold Tryz.Ct;have hEs:Es W=Es (A++e::B):=by rw[←hW]
 rw[hEs];refine ze (z8 ?_);refine zh (Zt rfl fun p3=>?_);refine zf (za (zo zF.em (ze (Z5 (zi (pP rfl) (zi (zM rfl) (zi (zn rfl) (Z9 rfl rfl (zi (pP rfl) (zi (zM rfl) (zi (zn rfl) (Z9 rfl rfl (zi (pP rfl) (zi (zM rfl) (zi (zn rfl) (Z9 rfl rfl (vC rfl rfl ?_)))))))))))))))));refine Zj (u7 h.m (by repeat (first | exact List.mem_cons_self | apply List.mem_cons_of_mem)) k X6 pG Bb rfl rfl (QF hf) ⟨fun _ h=>h,?_⟩) zO;refine zi (zM rfl) (zi (zn rfl) (Z9 rfl rfl ?_));refine zN (zk hC rfl rfl fun r S' h=>?_) zO;obtain⟨rfl,HT1,HA1,D1,hT1,hA1,hI1,_,rfl⟩:=h;refine zK (za (ze (Z5 (zi (pP rfl) (zi (zM rfl) (zi (zn rfl) (Z9 rfl rfl (vC rfl rfl ?_))))))));refine zN (bS h.m k X6 pG rfl rfl fun HM1 hM1=>?_) zO;refine zK (za (ze (Z5 (zi (pP rfl) (zi (zM rfl) (zi (zn rfl) (Z9 rfl rfl (vC rfl rfl ?_))))))));refine zN (zk (Ag h.l (by omega) (by omega) k) rfl rfl fun r S' h=>?_) zO;obtain⟨rfl,HL1,hL1,rfl⟩:=h;refine zK (za (Z5 (zi (pP rfl) (zi (zM rfl) (zi (zn rfl) (Z9 rfl rfl (vC rfl rfl ?_)))))));refine zN (zk (Ao h.d (by rw[List.length_map]; omega) k) rfl rfl fun r S' h=>?_) zO;obtain⟨rfl,HD1,hD1,rfl⟩:=h;refine zK ?_;subst hek;have hq1:=h.q.gone he hI1;rw[←nJ,mX h.q.GJ he] at hM1;rw[YI h.q.kn] at hD1;have hR:Sp N (Xe e.i.k S) (UN W e.i.k) D1 _ ab tb mb lb db ev HA1 HT1 HM1 HL1 HD1 HV:=⟨hq1,hA1,hT1,hM1,hL1,hD1,h.v⟩
 have hR:=Sr.mk (sb:=sb) hR;rw[hout] at hR;exact ZV ZX ⟨_,zF.sd,rfl,_,hR,rfl⟩
theorem mg{sb N:Nat}{S:Ss}{H:List Chunk}(hS:Sr sb N S H){k:Ky}{i:It}(hk:VE S.I k=some i)(hv:S.V.length<2 ^ 30):
 zP Tryz.prog 129 #[.pointer (some ⟨sb,0,none⟩),.agg (WH k)] [H] (fun r S'=>r= .tuple #[]∧∃H',Sr sb N (pR k S) H'∧S'=[H']):=by
 refine zP.forget (zm Tryz.FM (Nat.le_of_ble_eq_true rfl) ?_);unfold Tryz.Co;refine ze (z8 ?_);refine zh (Zt rfl fun p3=>?_);refine zf (za (ze (z8 (yp (pP rfl) ?_))));refine zh (wC rfl rfl ?_);refine zh (zk (dM hS hk) rfl rfl fun r S' h=>?_);obtain⟨rfl,H1,hS1,rfl⟩:=h;obtain⟨W,D,L,ab,tb,mb,lb,db,ev,HA,HT,HM,HL,HD,HV,h,rfl⟩:=hS1;refine zf (za ?_);refine zo (S0:=[(p3,.cells (WH k) 43)]::wY sb ab tb mb lb db ev::HA::HT::HM::HL::HD::HV::Es W) ?_ ?_
 ·exact zF.op1
 have hV:=h.v;obtain⟨a,c,rfl⟩:=hV.isSlice;refine Z5 (zi (pP rfl) (zi (pP rfl) (zi (zM rfl) (zi (zn rfl) (Z9 rfl rfl (vC rfl rfl ?_))))));refine Zj (vU k rfl rfl (by decide) (by decide) rfl fun p13=>⟨fun _ h=>List.mem_cons_of_mem _ h,?_⟩) zO;have hvl:(Xe k S).V.length<2 ^ 30:=hv;refine zN (uK (Y:=[k]) rfl rfl hV (.lit (by repeat (first | exact List.mem_cons_self | apply List.mem_cons_of_mem)) rfl) rfl (⟨[],0⟩:Ky) rfl (by rw[List.length_singleton]; omega) (by rw[List.length_singleton]; omega) fun v2 H2 hV2=>?_) zO;obtain⟨a2,c2,rfl⟩:=hV2.isSlice;refine zi (zM rfl) (zi (zn rfl) ?_);refine zN (rC rfl rfl (jg rfl) ?_) zO;refine zK ?_;exact ZV ZX ⟨_,zF.sp,rfl,_,Sr.mk (S:=pR k S) ⟨h.q.ev,h.a,h.t,h.m,h.l,h.d,hV2⟩,rfl⟩
theorem kE(n most:Int):lC n most=true↔0≤n∧n≤most:=by unfold lC; simp
/-- what Peek tells -/
def Gy(S:Ss)(k:Ky)(H:List Chunk)(r:Value)(S':zw):Prop:=
 (VE S.I (fk k)=none∧r= .tuple #[.agg Y5,.bool false]∧S'=[H])∨∃i v HR,VE S.I (fk k)=some i∧r= .tuple #[.agg (lG i v),.bool true]∧Zc 89 v (Zf i.s).rrs HR∧S'=[HR,H]
theorem sj{sb N:Nat}{S:Ss}{H:List Chunk}(hS:Sr sb N S H)(k:Ky)(hkl:k.n.length<2 ^ 62):
 zP Tryz.prog 79 #[.pointer (some ⟨sb,0,none⟩),.agg (WH k)] [H] (Gy S k H):=by
 obtain⟨W,D,L,ab,tb,mb,lb,db,ev,HA,HT,HM,HL,HD,HV,h,rfl⟩:=hS;refine zP.forget (zP.Ii (zm Tryz.Ea (Nat.le_of_ble_eq_true rfl) ?_));unfold Tryz.GX;refine ze (z8 ?_);refine zh (Zt rfl fun p3=>?_);refine zh (Z8 fun p4=>?_);refine yp pC (zf (za (ze (z8 (yp (pP rfl) ?_)))));refine zh (wC rfl rfl ?_);refine zh (zk (sF (ab:=ab) (tb:=tb) (lb:=lb) (db:=db) (ev:=ev) h.m k hkl) rfl rfl fun r S' h=>?_);obtain⟨rfl,rfl⟩:=h;cases hb:VE S.I (fk k) with
 | none=>
  rw[JQ h.q hb];refine yp (v:= .pointer none) rfl (zf (za (ze (ze (z8 (yp (pP rfl) (yp (wG rfl rfl) (zf (za (zG rfl (ze (z8 (yp vw ?_)))))))))))));refine zh (wm rfl rfl rfl rfl rfl ?_);refine yp pC (zf (za (zJ (zX ?_))));exact zH (vV (Jw (b:=p4) KJ kL rfl rfl) (KP rfl)) ⟨_,zF.sp,.inl ⟨hb,rfl,rfl⟩⟩
 | some i=>
  obtain⟨e,hf,he,rfl,hek⟩:=Kn h.q hb;rw[hf];have hC:=sD (sb:=sb) (mb:=mb) (lb:=lb) (db:=db) (ev:=ev) h.q h.a h.t he;obtain⟨A,B,rfl,hout⟩:=VN h.q.GJ he;refine yp (v:= .pointer (some ⟨e.eb,0,none⟩)) rfl (zf (za ?_));refine zo (S0:=[(p4,.cells Y5 136)]::[(p3,.cells (WH k) 43)]::wY sb ab tb mb lb db ev::HA::HT::HM::HL::HD::HV::Es (A++e::B)) ?_ ?_
  ·exact zF.of
  refine zo (zF.cons zF.em) (ze (ze (z8 (yp (pP rfl) (yp (wG rfl rfl) (zf (za (zA rfl (zq (za (ze (z8 (yp (pP rfl) (yp (pP rfl) ?_))))))))))))));refine zh (zk hC rfl rfl fun r S' h=>?_);obtain⟨v,HR,rfl,hR,rfl⟩:=h;obtain⟨a,c,rfl⟩:=hR.isSlice;refine zh (wm rfl rfl rfl rfl rfl ?_);refine yp pC (zf (za (zJ ?_)));exact zH (vV (Jw (b:=p4) KJ kL rfl rfl) (KP rfl)) ⟨_,zF.ec (x:=HR) (e:=e),.inr ⟨e.i,_,HR,hb,rfl,hR,rfl⟩⟩
theorem AV:isAgg? Tryz.prog 4=some false:=by kernel_rfl
theorem pfx{α:Type}{L:List α}{f:α→Array Value}{pre:List (Array Value)}{x:Array Value}(h:pre++[x]<+:L.map f):∃(hl:pre.length<L.length),x=f L[pre.length]:=by
 obtain⟨t,ht⟩:=h;have h1:(L.map f)[pre.length]?=some x:=by
  rw[←ht,List.append_assoc,List.getElem?_append_right (Nat.le_refl _),Nat.sub_self]; rfl
 rw[List.getElem?_map] at h1;obtain⟨y,hy,rfl⟩:=Option.map_eq_some_iff.1 h1;obtain⟨hl,rfl⟩:=List.getElem?_eq_some_iff.1 hy;exact⟨hl,rfl⟩
theorem yD{f:Ky→Bool}:∀{l:List Ky} {n:Nat} {k:Ky},(∀x∈l.take n,f x=false)→l[n]?=some k→f k=true→l.find? f=some k
 | y::l,0,k,_,hk,hf=>by
  rw[List.getElem?_cons_zero] at hk;obtain rfl:=Option.some.inj hk;rw[List.find?_cons,hf]
 | y::l,n+1,k,hn,hk,hf=>by
  rw[List.getElem?_cons_succ] at hk;rw[List.find?_cons,hn y (by simp)];exact yD (fun x hx=>hn x (by rw[List.take_succ_cons]; exact List.mem_cons_of_mem _ hx)) hk hf
theorem YE{f:Ky→Bool}{l:List Ky}(h:∀x∈l,f x=false):l.find? f=none:=by
 rw[List.find?_eq_none];intro x hx;rw[h x hx]; decide
theorem dw{now:Int}{I:List It}{e:De}(h:e∈upto now (I.map It.de)):e.k∈keys I:=by
 unfold upto at h;have h1:=(List.mem_filter.1 h).1;have h2:=(JL (key:=xA) (I.map It.de)).mem_iff.1 h1;obtain⟨i,hi,rfl⟩:=List.mem_map.1 h2;exact List.mem_map.2 ⟨i,hi,rfl⟩
theorem QD{S:Ss}{W:List En}{D:List (Option Bt)}{L:List Nm}(hq:Sq S W D L){k:Ky}(h:k∈keys S.I):∃e,Y7 W k=some e∧e∈W∧VE S.I k=some e.i∧free S.I k=decide (e.i.pins=0):=by
 cases hb:VE S.I k with
 | none=>exact absurd h (vM.1 hb)
 | some i=>
  obtain⟨e,hf,he,rfl,_⟩:=Kn hq hb;exact⟨e,hf,he,rfl,by unfold free; rw[hb]⟩
theorem fQ{now:Int}{S:Ss}{n:Nat}{e:De}(hn:∀x∈(upto now (S.I.map It.de)).take n,free S.I x.k=false)(he:(upto now (S.I.map It.de))[n]?=some e)(hf:free S.I e.k=true):VR now S=some e.k:=by
 unfold VR due;rw[List.find?_append];have:((upto now (S.I.map It.de)).map (·.k)).find? (free S.I)=some e.k:=yD (n:=n) (fun x hx=>by
  rw[←List.map_take] at hx;obtain⟨y,hy,rfl⟩:=List.mem_map.1 hx;exact hn y hy) (by rw[List.getElem?_map,he]; rfl) hf
 rw[this]; rfl
theorem fP{now:Int}{S:Ss}(hn:∀x∈upto now (S.I.map It.de),free S.I x.k=false):VR now S=(S.P++S.Q).find? (free S.I):=by
 unfold VR due;rw[List.find?_append];have:((upto now (S.I.map It.de)).map (·.k)).find? (free S.I)=none:=YE fun x hx=>by
  obtain⟨y,hy,rfl⟩:=List.mem_map.1 hx;exact hn y hy
 rw[this]; rfl
theorem Yg{α:Type}{L:List α}{n:Nat}(h:n<L.length){p:α→Prop}(hp:∀x∈L.take n,p x)(hx:p L[n]):∀x∈L.take (n+1),p x:=fun x hx'=>by
 rw[List.take_succ_eq_append_getElem h] at hx';rcases List.mem_append.1 hx' with h1 | h1
 ·exact hp x h1
 ·rw[List.mem_singleton.1 h1]; exact hx
abbrev Bg(p2 p4 p5 sb:Nat)(k:Ky)(b:Bool):zw:=[[(p2,.cells #[.pointer (some ⟨sb,0,none⟩)] 82)],[(p4,.cells (WH k) 43)],[(p5,.cells #[.bool b] 4)]]
theorem su{sb N:Nat}{S:Ss}{H:List Chunk}(hS:Sr sb N S H)(now:Int):
 zP Tryz.prog 128 #[.pointer (some ⟨sb,0,none⟩),.int .i64 now] [H] (fun r S'=>r= .tuple #[.agg (WH ((VR now S).getD ⟨[],0⟩)),.bool (VR now S).isSome]∧S'=[H]):=by
 have hnb:=hS.nb;obtain⟨W,D,L,ab,tb,mb,lb,db,ev,HA,HT,HM,HL,HD,HV,h,rfl⟩:=hS;refine zP.forget (zP.Ii (zm Tryz.FN (Nat.le_of_ble_eq_true rfl) ?_));unfold Tryz.Cq;refine ze (z8 ?_);refine zh (lu (jh rfl) fun p2=>?_);refine zh (Z8 fun p4=>?_);refine zh (Z8 fun p5=>?_);refine zf (za (ze (ze (z8 ?_))));refine zh (zC rfl rfl ?_);refine yp (zM rfl) (yp (zn rfl) ?_);refine zh (zC rfl rfl ?_);refine yp (pI rfl) ?_;refine zh (zk Ah rfl rfl fun r S' h=>?_);obtain⟨bd,ba,rfl,rfl⟩:=h;refine zf (za (zy ?_));have hdl:(S.I.map It.de).length<2 ^ 38:=by rw[List.length_map]; omega
 have hmemT:∀{e:En},e∈W→∀{X:zw},JV e∈X++Es W:=fun he X=>List.mem_append.2 (.inr (KN he))
 refine YZ (fun pre T=>(∀x∈(upto now (S.I.map It.de)).take pre.length,free S.I x.k=false)∧zF T (Bg p2 p4 p5 sb ⟨[],0⟩ false++(wY sb ab tb mb lb db ev::HA::HT::HM::HL::HD::HV::Es W)))
  (fun e pre T=>e= .ret∧∃k,VR now S=some k∧zF T (Bg p2 p4 p5 sb k true++(wY sb ab tb mb lb db ev::HA::HT::HM::HL::HD::HV::Es W)))
  rfl rfl (gq (db:=db) (bd:=bd) (ba:=ba) (S0:=Bg p2 p4 p5 sb ⟨[],0⟩ false++(wY sb ab tb mb lb db ev::HA::HT::HM::HL::HV::Es W)) h.d hdl now) ⟨by simp,.of⟩ ?_ ?_ ?_ ?_
 ·intro pre x hx;obtain⟨_,rfl⟩:=pfx hx;rfl
 ·rintro l pre x T hx ⟨hn,hJ⟩;obtain⟨hl,rfl⟩:=pfx hx;have hm:=List.getElem_mem hl;have hg:(upto now (S.I.map It.de))[pre.length]?=some (upto now (S.I.map It.de))[pre.length]:=List.getElem?_eq_getElem hl;have hst:=Yg hl hn;generalize (upto now (S.I.map It.de))[pre.length]=d at hm hg hst;obtain⟨e,hf,he,hb,hfr⟩:=QD h.q (dw hm);refine zo hJ (z8 ?_);refine zh (Z8 fun p6=>?_);refine zh (wm rfl rfl rfl rfl rfl ?_);refine zf (za (zy (ze (Z5 (Z9 rfl rfl (zi (zM rfl) (zi (zn rfl) (Z9 rfl rfl (vC rfl rfl ?_)))))))));refine Zj (u7 h.m (by repeat (first | exact List.mem_cons_self | apply List.mem_cons_of_mem)) d.k X6 pG Bb rfl rfl (QF hf) ⟨fun _ h=>h,?_⟩) zO;refine zi (zM rfl) (zi (zn rfl) (bP (v:= .int .i64 e.i.pins) (by repeat (first | exact KN he | apply List.mem_cons_of_mem)) rfl rfl (zi (WZ rfl rfl) (zK (za ?_)))));by_cases hp:e.i.pins=0
  ·rw[decide_eq_true hp] at hfr ⊢;have hnx:=fQ hn hg hfr;refine zG rfl (ze (z8 ?_));refine zh (wC rfl rfl ?_);refine zh (wm rfl rfl rfl rfl rfl ?_);refine zh (ZP rfl rfl (Bd rfl) ?_);refine zf (za (zJ (bret ?_)));exact⟨rfl,d.k,hnx,.of⟩
  ·rw[decide_eq_false hp] at hfr ⊢;refine zA rfl (zq (zU ?_));exact⟨by rw[List.length_append]; exact hst hfr,.of⟩
 ·rintro xs S' hd ⟨hn,hJ⟩;have hxl:xs.length=(upto now (S.I.map It.de)).length:=by rw[hd,List.length_map]
  rw[hxl,List.take_length] at hn;have hnx:=fP (now:=now) (S:=S) hn;refine zU (za ?_);refine zo hJ (ze (ze (z8 ?_)));refine zh (zC rfl rfl ?_);refine yp (zM rfl) (yp (zn rfl) ?_);refine zh (zC rfl rfl ?_);refine zh (zk ny rfl rfl fun r S' h=>?_);obtain⟨bl,rfl,rfl⟩:=h;refine zf (za (zy ?_));refine YZ (fun pre T=>(∀x∈(S.P++S.Q).take pre.length,free S.I x=false)∧zF T (Bg p2 p4 p5 sb ⟨[],0⟩ false++(wY sb ab tb mb lb db ev::HA::HT::HM::HL::HD::HV::Es W)))
   (fun e pre T=>e= .ret∧∃k,VR now S=some k∧zF T (Bg p2 p4 p5 sb k true++(wY sb ab tb mb lb db ev::HA::HT::HM::HL::HD::HV::Es W)))
   rfl rfl (aN (bl:=bl) (S0:=Bg p2 p4 p5 sb ⟨[],0⟩ false++(wY sb ab tb mb lb db ev::HA::HT::HM::HD::HV::Es W)) h.l (by omega) (by omega)) ⟨by simp,.of⟩ ?_ ?_ ?_ ?_
  ·intro pre x hx;obtain⟨_,rfl⟩:=pfx hx;rfl
  ·rintro l pre x T hx ⟨hn2,hJ⟩;obtain⟨hl,rfl⟩:=pfx hx;have hm:=List.getElem_mem hl;have hg:(S.P++S.Q)[pre.length]?=some (S.P++S.Q)[pre.length]:=List.getElem?_eq_getElem hl;have hst:=Yg hl hn2;generalize (S.P++S.Q)[pre.length]=d at hm hg hst;obtain⟨e,hf,he,hb,hfr⟩:=QD h.q (h.q.pq.mem_iff.1 hm);refine zo hJ (z8 ?_);refine zh (Z8 fun p7=>?_);refine zh (wm rfl rfl rfl rfl rfl ?_);refine zf (za (zy (ze (Z5 (Z9 rfl rfl (zi (zM rfl) (zi (zn rfl) (Z9 rfl rfl (vC rfl rfl ?_)))))))));refine Zj (u7 h.m (by repeat (first | exact List.mem_cons_self | apply List.mem_cons_of_mem)) d X6 pG Bb rfl rfl (QF hf) ⟨fun _ h=>h,?_⟩) zO;refine zi (zM rfl) (zi (zn rfl) (bP (v:= .int .i64 e.i.pins) (by repeat (first | exact KN he | apply List.mem_cons_of_mem)) rfl rfl (zi (WZ rfl rfl) (zK (za ?_)))));by_cases hp:e.i.pins=0
   ·rw[decide_eq_true hp] at hfr ⊢;refine zG rfl (ze (z8 ?_));refine zh (wC rfl rfl ?_);refine zh (wm rfl rfl rfl rfl rfl ?_);refine zh (ZP rfl rfl (Bd rfl) ?_);refine zf (za (zJ (bret ?_)));exact⟨rfl,d,by rw[hnx]; exact yD hn2 hg hfr,.of⟩
   ·rw[decide_eq_false hp] at hfr ⊢;refine zA rfl (zq (zU ?_));exact⟨by rw[List.length_append]; exact hst hfr,.of⟩
  ·rintro xs S' hd ⟨hn2,hJ⟩;have hxl:xs.length=(S.P++S.Q).length:=by rw[hd,List.length_map]
   rw[hxl,List.take_length] at hn2;rw[YE hn2] at hnx;refine zU (za ?_);refine zo hJ (ze (z8 (yp vw ?_)));refine zh (wm rfl rfl rfl rfl rfl ?_);refine zh (ZP rfl rfl (Bd rfl) ?_);refine zf (za (zJ ?_));rw[hnx];exact zH (vV (Jw (b:=p4) nX qX rfl rfl) (GD (b:=p5) AV rfl)) ⟨_,zF.sp,rfl,rfl⟩
  ·rintro e pre S' _ ⟨rfl,k,hk,hJ⟩;rw[hk];refine bret (zX ?_);exact zH (Yp hJ (vV (Jw (b:=p4) nX qX rfl rfl) (GD (b:=p5) AV rfl))) ⟨_,hJ.trans zF.sp,rfl,rfl⟩
 ·rintro e pre S' _ ⟨rfl,k,hk,hJ⟩;rw[hk];refine bret (zX ?_);exact zH (Yp hJ (vV (Jw (b:=p4) nX qX rfl rfl) (GD (b:=p5) AV rfl))) ⟨_,hJ.trans zF.sp,rfl,rfl⟩
instance (priority:=low) Sub.appSuf{A S:zw}:Sub (A++S) S A:=⟨by rw[List.flatten_append]; exact List.perm_append_comm⟩
theorem zF.MN{sb ab tb mb lb db:Nat}{ev:Value}{HA HT HM HL HD HV:List Chunk}{W:List En}{S0:zw}:zF (sH sb ab tb mb lb db ev HA HT HM HL HD HV W::S0) (wY sb ab tb mb lb db ev::HA::HT::HM::HL::HD::HV::(Es W++S0)):=⟨[],by simp[sH]⟩
theorem zF.add{x:List Chunk}{S G S0:zw}{sb ab tb mb lb db:Nat}{ev:Value}{HA HT HM HL HD HV:List Chunk}{W:List En}{e:En}(hx:x=JV e)[h:Sub S (x::wY sb ab tb mb lb db ev::HA::HT::HM::HL::HD::HV::(Es W++S0)) G]:
 zF S (sH sb ab tb mb lb db ev HA HT HM HL HD HV (W++[e])::S0):=zF.trans (zF.of (h:=h)) ⟨[],by
 subst hx;have e1:Es (W++[e])=Es W++[JV e]:=qy W [e];simp only[sH,e1,List.flatten_cons,List.flatten_nil,List.flatten_append,List.append_nil,List.append_assoc];have:=(XU [] (wY sb ab tb mb lb db ev++(HA++(HT++(HM++(HL++(HD++(HV++(Es W).flatten))))))) (JV e) S0.flatten).symm;simpa only[List.nil_append,List.append_assoc] using this⟩
theorem zF.MO{x y:List Chunk}{S G S0:zw}{sb ab tb mb lb db:Nat}{ev:Value}{HA HT HM HL HD HV:List Chunk}{W:List En}[h:Sub S (x::y::wY sb ab tb mb lb db ev::HA::HT::HM::HL::HD::HV::(Es W++S0)) G]:zF S (x::y::sH sb ab tb mb lb db ev HA HT HM HL HD HV W::S0):=zF.trans (zF.of (h:=h)) ⟨[],by simp[sH]⟩
theorem zF.MW{S G S0:zw}{sb ab tb mb lb db:Nat}{ev:Value}{HA HT HM HL HD HV:List Chunk}{W:List En}[h:Sub S (wY sb ab tb mb lb db ev::HA::HT::HM::HL::HD::HV::(Es W++S0)) G]:zF S (sH sb ab tb mb lb db ev HA HT HM HL HD HV W::S0):=zF.trans (zF.of (h:=h)) ⟨[],by simp[sH]⟩
theorem zP.op{P:Program}{f:FuncId}{args:Array Value}{R:Value→zw→Prop}{sb ab tb mb lb db:Nat}{ev:Value}{HA HT HM HL HD HV:List Chunk}{W:List En}(h:zP P f args [sH sb ab tb mb lb db ev HA HT HM HL HD HV W] R):zP P f args (wY sb ab tb mb lb db ev::HA::HT::HM::HL::HD::HV::Es W) R:=h.perm (by simp[sH])
theorem lY{sb ab tb mb lb db N:Nat}{ev:Value}{D:List (Option Bt)}{HA:List Chunk}(hA:Ar ab N D HA):zP Tryz.prog 127 #[.pointer (some ⟨sb,0,none⟩)] [wY sb ab tb mb lb db ev,HA] (fun r S'=>r= .int .i64 ((N-Zd D:Nat):Int)∧S'=[wY sb ab tb mb lb db ev,HA]):=by
 refine zP.forget (zm Tryz.FP (Nat.le_of_ble_eq_true rfl) ?_);unfold Tryz.Cr;refine ze (z8 (yp pC (zf (za (ze (ze (z8 (yp (pP rfl) (yp (wG rfl rfl) (zf (za (zA rfl (zq (za (ze (z8 (yp (pP rfl) (yp (zM rfl) (yp (zn rfl) ?_)))))))))))))))))));refine zh (zC rfl rfl ?_);refine zh (zk (nW hA) rfl rfl fun r S' h=>?_);obtain⟨rfl,rfl⟩:=h;refine yp (pI rfl) (zf (za (zJ ?_)));exact zH (rI rfl) ⟨_,.of,rfl,rfl⟩
theorem ng{now:Int}{S:Ss}{k:Ky}(h:VR now S=some k):∃i,VE S.I k=some i∧i.pins=0:=by
 have hf:=List.find?_some h;unfold free at hf;cases hb:VE S.I k with
 | none=>rw[hb] at hf; cases hf
 | some i=>rw[hb] at hf; exact⟨i,rfl,of_decide_eq_true hf⟩
theorem XZ{I:List It}(hn:(keys I).Nodup){k:Ky}{i:It}(h:VE I k=some i):I.length=(Vy I k).length+1:=by
 obtain⟨hi,rfl⟩:=jY h;clear h
 induction I with
 | nil=>simp at hi
 | cons j I ih=>
  have hn2:=List.nodup_cons.1 hn;unfold Vy at ih ⊢;rw[List.filter_cons];by_cases hj:j.k=i.k
  ·rw[if_neg (by simp[hj]),List.filter_eq_self.2,List.length_cons];intro y hy;have:y.k≠i.k:=fun q=>hn2.1 (List.mem_map.2 ⟨y,hy,q.trans hj.symm⟩)
   simpa using this
  ·rw[if_pos (by simp[hj]),List.length_cons,List.length_cons,ih hn2.2 ?_];rcases List.mem_cons.1 hi with rfl | hi
   ·exact absurd rfl hj
   ·exact hi
theorem nP{I:List It}{k k':Ky}(h:VE I k=none):VE (Vy I k') k=none:=by
 rw[vM] at h ⊢;rw[xL];exact fun hm=>h (List.mem_filter.1 hm).1
theorem iK(I:List It)(k:Ky):VE (Vy I k) k=none:=by
 rw[vM,xL];intro hm;have:=(List.mem_filter.1 hm).2;simp at this
theorem dR{N:Nat}{K k:Ky}{s:St}{rank now exp:Int}{S:Ss}{i:It}(hn:(keys S.I).Nodup)(h:uT N S<Vr (sets S.I) s)(hk:VR now S=some k)(hb:VE S.I k=some i):UG N K s rank now exp S=UG N K s rank now exp (pR k S):=by
 have hl:=XZ hn hb;unfold UG;have e1:uR N now s S.I.length S=uR N now s (pR k S).I.length (pR k S):=by
  rw[hl,uR,if_pos h,hk]; rfl
 rw[e1]
theorem sJ{N:Nat}{K:Ky}{s:St}{rank now exp:Int}{S:Ss}(h:uT N S<Vr (sets S.I) s)(hk:VR now S=none):UG N K s rank now exp S=(S,4):=by
 unfold UG;have e1:uR N now s S.I.length S=(S,false):=by
  cases S.I.length with
  | zero=>rw[uR,decide_eq_false (by omega)]
  | succ n=>rw[uR,if_pos h,hk]
 rw[e1]
theorem Jr{N:Nat}{K:Ky}{s:St}{rank now exp:Int}{S:Ss}(h:¬uT N S<Vr (sets S.I) s):UG N K s rank now exp S=(⟨S.I++[⟨K,s,rank,now,exp,0⟩],S.P++[K],S.Q,S.V⟩,0):=by
 unfold UG;have e1:uR N now s S.I.length S=(S,true):=by
  cases S.I.length with
  | zero=>rw[uR,decide_eq_true (by omega)]
  | succ n=>rw[uR,if_neg h]
 rw[e1]
theorem Sr.kn{sb N:Nat}{S:Ss}{H:List Chunk}(h:Sr sb N S H):(keys S.I).Nodup:=by
 obtain⟨W,D,L,ab,tb,mb,lb,db,ev,HA,HT,HM,HL,HD,HV,h,rfl⟩:=h;exact h.q.kn
abbrev K5(p6:Nat)(s:St)(v:Value):List Chunk:=[(p6,.cells (Jt s v) 46)]
abbrev aP(p:Nat)(k:Ky):List Chunk:=[(p,.cells (WH k) 43)]
set_option maxRecDepth 10000 in
set_option maxHeartbeats 1000000 in
theorem D7{sb N:Nat}{S:Ss}{H:List Chunk}{S0:zw}{s:St}{v:Value}(hS:Sr sb N S H)(hs:Y8 s)(hv:Src S0 v s.rrs)(hV:S.V.length+S.I.length<2 ^ 30)(rank now exp:Int):
 zP Tryz.prog 77 #[.pointer (some ⟨sb,0,none⟩),.agg (Jt s v),.int .i64 rank,.int .i64 now,.int .i64 exp] (H::S0) (fun r S'=>r= .int .i64 (uL N s rank now exp S).2∧∃H',Sr sb N (uL N s rank now exp S).1 H'∧S'=H'::S0):=by
 have hsn:=hs.name;refine zP.forget (zm Tryz.IK (Nat.le_of_ble_eq_true rfl) ?_);unfold Tryz.M9;obtain⟨va,vc,rfl⟩:=hv.isSlice;refine ze (z8 ?_);refine zh (Zt rfl fun p6=>?_);refine yp pC (zf (za (ze (ze (z8 ?_)))));refine zh (wC rfl rfl ?_);refine zh (zk (kZ hs hv) rfl rfl fun r S' h=>?_);obtain⟨rfl,h⟩:=h;have h:=h.symm;subst h;rcases Decidable.em (ZT s≠0) with hE | hE
 ·have hP:uL N s rank now exp S=(S,ZT s):=by unfold uL; rw[if_pos hE]
  rw[hP];refine yp (pU rfl) (yp (pExt rfl rfl) (yp (pExt rfl rfl) (yp (pI rfl) (yp (pI rfl) (zf (za (ze (z8 (yp (pI rfl) (yp (UL rfl rfl) (zf (za ?_))))))))))));rw[decide_eq_false hE];refine zG rfl (ze (z8 (yp (pI rfl) (yp (pI rfl) (zf (za (zJ (zX ?_))))))));exact zH (rI rfl) ⟨_,.of,rfl,_,hS,rfl⟩
 have hE:=Decidable.not_not.1 hE;have hP0:uL N s rank now exp S=if Qp rank now exp=false then(S,1) else aG N s rank now exp S:=by unfold uL; rw[if_neg (by rw[hE]; decide)]
 rw[hE];refine yp (pU rfl) (yp (pExt rfl rfl) (yp (pExt rfl rfl) (yp (pI rfl) (yp (pI rfl) (zf (za (ze (z8 (yp (pI rfl) (yp (UL rfl rfl) (zf (za (zA rfl (zq (za ?_)))))))))))))));refine X3 (fun E S'=>Has E [(0,.pointer (some ⟨sb,0,none⟩)),(2,.int .i64 rank),(3,.int .i64 now),(4,.int .i64 exp),(6,.pointer (some ⟨p6,0,none⟩))]∧Qp rank now exp=true∧zF S' (K5 p6 s (.slice va s.rrs.length vc)::H::S0)) ?_ fun E S' ⟨hE2,hok,hJ⟩=>?_
 ·have hbad:Qp rank now exp=false→uL N s rank now exp S=(S,1):=fun h=>by rw[hP0,if_pos h]
  refine ze (z8 (yp (pI rfl) ?_));refine zh (zk (XJ now 1099511627776) rfl rfl fun r S' h=>?_);obtain⟨rfl,rfl⟩:=h;cases h1:lC now 1099511627776 with
  | false=>
   rw[hbad (by unfold Qp; rw[h1]; rfl)];refine yp (Ze rfl) (yp (pB rfl) (zS rfl (zS rfl (zS rfl (yp (zD rfl rfl) (yp (pB rfl) (zS rfl (zS rfl (zS rfl (yp (zD rfl rfl) (yp (pB rfl) (zS rfl (zS rfl (zS rfl (yp (zD rfl rfl) (zf (za (zG rfl (ze (z8 (yp pC (zf (za (zJ (zX ?_)))))))))))))))))))))))));exact zH (rI rfl) ⟨_,.of,rfl,_,hS,rfl⟩
  | true=>
   refine yp (Ze rfl) (yp (pB rfl) (zW rfl (Z6 (pI rfl) (zW rfl ?_))));refine zk (XJ exp 1099511627776) rfl rfl fun r S' h=>?_
   obtain⟨rfl,rfl⟩:=h;cases h2:lC exp 1099511627776 with
   | false=>
    rw[hbad (by unfold Qp; rw[h1,h2]; rfl)];refine zW rfl (Z6 (Ze rfl) (yp (zQ rfl rfl) (yp (pB rfl) (zS rfl (zS rfl (zS rfl (yp (zD rfl rfl) (yp (pB rfl) (zS rfl (zS rfl (zS rfl (yp (zD rfl rfl) (zf (za (zG rfl (ze (z8 (yp pC (zf (za (zJ (zX ?_))))))))))))))))))))));exact zH (rI rfl) ⟨_,.of,rfl,_,hS,rfl⟩
   | true=>
    refine zW rfl (Z6 (Ze rfl) (yp (zQ rfl rfl) (yp (pB rfl) (zW rfl (Z6 (pI rfl) (zW rfl (Z6 (pI rfl) (zW rfl (Z6 (jy rfl rfl) (yp (zQ rfl rfl) (yp (pB rfl) ?_)))))))))));by_cases h3:exp≤now
    ·rw[hbad (by unfold Qp; rw[h1,h2,decide_eq_true h3]; rfl)];rw[decide_eq_true h3];refine zS rfl (zS rfl (zS rfl (yp (zD rfl rfl) (zf (za (zG rfl (ze (z8 (yp pC (zf (za (zJ (zX ?_)))))))))))));exact zH (rI rfl) ⟨_,.of,rfl,_,hS,rfl⟩
    ·rw[decide_eq_false h3];refine zW rfl (Z6 (pI rfl) (zW rfl ?_));refine zk (XJ rank 9) rfl rfl fun r S' h=>?_
     obtain⟨rfl,rfl⟩:=h;cases h4:lC rank 9 with
     | false=>
      rw[hbad (by unfold Qp; rw[h4]; simp)];refine zW rfl (Z6 (Ze rfl) (yp (zQ rfl rfl) (zf (za (zG rfl (ze (z8 (yp pC (zf (za (zJ (zX ?_))))))))))));exact zH (rI rfl) ⟨_,.of,rfl,_,hS,rfl⟩
     | true=>
      refine zW rfl (Z6 (Ze rfl) (yp (zQ rfl rfl) (zf (za (zA rfl (zq (za ?_)))))));exact⟨⟨rfl,rfl,rfl,rfl,rfl,trivial⟩,by unfold Qp; rw[h1,h2,decide_eq_false h3,h4]; rfl,.of⟩
 rw[hok,if_neg (by decide)] at hP0;obtain⟨E0,e0⟩:=zu hE2; subst e0; clear hE2;refine zo hJ (ze (ze (z8 (yp (pP rfl) (yp (wG rfl rfl) (zf (za (zA rfl (zq (za (ze (z8 (yp (zn rfl) ?_)))))))))))));refine zh (wo (l:=[sv s.name,.int .i64 s.typ]) rfl rfl rfl ?_);refine zh (zk (dN ⟨s.name,s.typ⟩ (by show s.name.length<_; omega)) rfl rfl fun r S' h=>?_);obtain⟨rfl,rfl⟩:=h;show YL _ _ _ _ _ (Zg _ (.agg (WH (Zk s))) _) _;refine zh (Z8 fun p13=>?_);refine zh (wm rfl rfl rfl rfl rfl ?_);refine zf (za ?_);refine X3 (fun E S'=>Has E [(0,.pointer (some ⟨sb,0,none⟩)),(2,.int .i64 rank),(3,.int .i64 now),(4,.int .i64 exp),(6,.pointer (some ⟨p6,0,none⟩)),(13,.pointer (some ⟨p13,0,none⟩))]∧∃S1 H1,Sr sb N S1 H1∧VE S1.I (Zk s)=none∧uL N s rank now exp S=UG N (Zk s) s rank now exp S1∧S1.V.length+S1.I.length<2 ^ 30∧zF S' (aP p13 (Zk s)::K5 p6 s (.slice va s.rrs.length vc)::H1::S0)) ?_ fun E S' ⟨hE2,S1,H1,hS1,hb1,hP1,hV1,hJ⟩=>?_
 ·have hS':=hS;obtain⟨W,D,L,ab,tb,mb,lb,db,ev,HA,HT,HM,HL,HD,HV,h,rfl⟩:=hS;refine zo (S0:=aP p13 (Zk s)::K5 p6 s (.slice va s.rrs.length vc)::sH sb ab tb mb lb db ev HA HT HM HL HD HV W::S0) zF.of (zo (zF.cons (zF.cons zF.MN)) (ze (Z5 (zi (pP rfl) (zi (zM rfl) (zi (zn rfl) (Z9 rfl rfl (vC rfl rfl ?_))))))));cases hb:VE S.I (Zk s) with
  | none=>
   refine zN (u7 h.m (by repeat (first | exact List.mem_cons_self | apply List.mem_cons_of_mem)) (Zk s) X6 pG Bb rfl rfl (Gm (JQ h.q hb)) ?_) zO;refine zi (pP rfl) (zK (za (ze (z8 (yp (pP rfl) (yp (XY rfl rfl) (zf (za (zA rfl (zq (za ?_)))))))))));exact⟨⟨rfl,rfl,rfl,rfl,rfl,rfl,trivial⟩,S,_,hS',hb,hP0.trans (Yu hb),hV,zF.MO⟩
  | some i=>
   have hP1:=hP0.trans (Yt hb);obtain⟨e,hf,he,rfl,hek⟩:=Kn h.q hb;refine zN (u7 h.m (by repeat (first | exact List.mem_cons_self | apply List.mem_cons_of_mem)) (Zk s) X6 pG Bb rfl rfl (QF hf) ?_) zO;refine zi (pP rfl) (zK (za (ze (z8 (yp (pP rfl) (yp (XY rfl rfl) (zf (za (zG rfl (ze (ze (z8 (yp (pP rfl) (yp (zM rfl) (yp (zn rfl) ?_)))))))))))))));refine zh (kr (v:= .int .i64 e.i.pins) (by repeat (first | exact List.mem_append.2 (.inl (KN he)) | apply List.mem_cons_of_mem)) rfl rfl ?_);refine yp (VK rfl rfl) (zf (za ?_));by_cases hp:0<e.i.pins
   ·rw[decide_eq_true hp];rw[if_pos hp] at hP1;rw[hP1];refine zG rfl (ze (z8 (yp pC (zf (za (zJ (zX (zX ?_))))))));exact zH (rI rfl) ⟨_,zF.MW,rfl,_,hS',rfl⟩
   ·rw[decide_eq_false hp];rw[if_neg hp] at hP1;refine zA rfl (zq (za (z8 (yp (pP rfl) ?_))));refine zh (wC rfl rfl ?_);refine zh (zk (zP.op (dM hS' hb)) rfl rfl fun r S' h=>?_);obtain⟨rfl,H1,hS1,rfl⟩:=h;refine zf (za ?_);have hol:=XZ hS'.kn hb;exact⟨⟨rfl,rfl,rfl,rfl,rfl,rfl,trivial⟩,_,H1,hS1,iK _ _,hP1,by show S.V.length+(Vy S.I (Zk s)).length<_; omega,.of⟩
 rw[hP1];clear hP1 hP0 hS hV;obtain⟨E0,e0⟩:=zu hE2; subst e0; clear hE2;refine zo hJ ?_;generalize hR:UG N (Zk s) s rank now exp S1=R;refine ze (zy ?_);refine Zb (σ:=Ss) (fun S2 E S'=>Has E [(0,.pointer (some ⟨sb,0,none⟩)),(2,.int .i64 rank),(3,.int .i64 now),(4,.int .i64 exp),(6,.pointer (some ⟨p6,0,none⟩)),(13,.pointer (some ⟨p13,0,none⟩))]∧VE S2.I (Zk s)=none∧UG N (Zk s) s rank now exp S2=R∧S2.V.length+S2.I.length<2 ^ 30∧∃H2,Sr sb N S2 H2∧zF S' (aP p13 (Zk s)::K5 p6 s (.slice va s.rrs.length vc)::H2::S0)) (fun S2=>S2.I.length) S1 ⟨⟨rfl,rfl,rfl,rfl,rfl,rfl,trivial⟩,hb1,hR,hV1,H1,hS1,.of⟩ fun S2 E S' ⟨hE2,hb2,hP2,hV2,H2,hS2,hJ⟩=>?_
 clear hS1 hb1 hV1 hR;have hS2':=hS2;obtain⟨W,D,L,ab,tb,mb,lb,db,ev,HA,HT,HM,HL,HD,HV,h,rfl⟩:=hS2;have hnb:=h.nb;obtain⟨E0,e0⟩:=zu hE2; subst e0; clear hE2;refine zo hJ (zo (zF.cons (zF.cons zF.MN)) (ze (ze (Z5 (zi (pP rfl) (zi (zM rfl) (zi (zn rfl) (Z9 rfl rfl (vC rfl rfl (zi (pP rfl) ?_))))))))));have hv':Src (Es W++S0) (.slice va s.rrs.length vc) s.rrs:=Src.mono hv fun _ hs=>List.mem_append.2 (.inr hs)
 refine zN (zk (sZ (S:=Es W++S0) h.t hs hv') rfl rfl fun r S' h=>?_) zO;obtain⟨rfl,rfl⟩:=h;refine zN (zk (lY (sb:=sb) (tb:=tb) (mb:=mb) (lb:=lb) (db:=db) (ev:=ev) h.a) rfl rfl fun r S' h=>?_) zO;obtain⟨rfl,rfl⟩:=h;rw[h.q.cost,h.q.left];refine zi (VK rfl rfl) (zK (za ?_));by_cases hc:uT N S2<Vr (sets S2.I) s
 ·rw[decide_eq_true hc];refine zG rfl (zq (za (zy ?_)));refine zo (S0:=aP p13 (Zk s)::K5 p6 s (.slice va s.rrs.length vc)::sH sb ab tb mb lb db ev HA HT HM HL HD HV W::S0) ?_ ?_
  ·exact zF.MO
  refine ze (z8 (yp (pP rfl) (yp (pI rfl) ?_)));refine zh (zk (su hS2' now) rfl rfl fun r S' h=>?_);obtain⟨rfl,rfl⟩:=h;cases hn:VR now S2 with
  | none=>
   rw[←hP2,sJ hc hn];refine yp (pU rfl) (yp (pExt rfl rfl) (yp (pExt rfl rfl) ?_));refine zh (Z8 fun p15=>?_);refine zh (wm rfl rfl rfl rfl rfl ?_);refine yp (pB rfl) (zf (za (ze (ze (z8 (yp (pB rfl) (yp (Ze rfl) (zf (za (zG rfl (ze (z8 (yp pC (zf (za (zJ (zX (bret (zX (bret (zX ?_)))))))))))))))))))));exact zH (rI rfl) ⟨_,.of,rfl,_,hS2',rfl⟩
  | some k=>
   obtain⟨i,hi,_⟩:=ng hn;refine yp (pU rfl) (yp (pExt rfl rfl) (yp (pExt rfl rfl) ?_));refine zh (Z8 fun p15=>?_);refine zh (wm rfl rfl rfl rfl rfl ?_);refine yp (pB rfl) (zf (za (ze (ze (z8 (yp (pB rfl) (yp (Ze rfl) (zf (za (zA rfl (zq (za (z8 (yp (pP rfl) ?_))))))))))))));refine zh (wC rfl rfl ?_);refine zh (zk (mg hS2' hi (by omega)) rfl rfl fun r S' h=>?_);obtain⟨rfl,H3,hS3,rfl⟩:=h;refine zf (zU (za ?_));have hol:=XZ hS2'.kn hi;refine⟨pR k S2,⟨⟨rfl,rfl,rfl,rfl,rfl,rfl,trivial⟩,nP hb2,(dR hS2'.kn hc hn hi).symm.trans hP2,?_,H3,hS3,.of⟩,?_⟩
   ·show(S2.V++[k]).length+(Vy S2.I k).length<_;rw[List.length_append,List.length_singleton]; omega
   ·show(Vy S2.I k).length<_;omega
 ·rw[decide_eq_false hc];have hR:=Jr (K:=Zk s) (rank:=rank) (now:=now) (exp:=exp) hc;rw[←hP2,hR];have hus:=h.q.us hnb.2.1 hnb.1;refine zA rfl (Z0 (zI (zI (Z4 (za (ze (Z5 (zi (pP rfl) (zi (zM rfl) (zi (zn rfl) (Z9 rfl rfl (zi (pP rfl) (zi (zM rfl) (zi (zn rfl) (Z9 rfl rfl (vC rfl rfl ?_))))))))))))))));refine zN (zk (sU (S:=Es W++S0) h.t h.a h.q.pk.inn h.q.pk.pos h.q.pk.hs hus hs hv') rfl rfl fun r S' hp=>?_) zO;have hfit:fits N D L s:=by
   unfold fits;rw[h.q.cost];have:=h.q.left (N:=N);omega
  rcases hp with⟨hp,_⟩ | ⟨_,hp,_⟩ | ⟨_,_,HT1,HA1,D1,rfl,hT1,hA1,hI1,hB1,_,rfl⟩
  ·exact absurd hE hp
  ·exact absurd hfit hp
  have hex:=(jO hE hnb.2.1 ⟨by have:=Q0 (VZ hE).1; omega,(VZ hE).2⟩ (y8 (VZ hE).1)).1 hfit;refine zi (pU rfl) (zi (pExt rfl rfl) (zi (pExt rfl rfl) (zi (pI rfl) (zi (pI rfl) (zK (za (ze (ze (z8 (yp (pI rfl) (yp (UL rfl rfl) (zf (za (zA rfl (zq (za (ze (Z5 (zi (pP rfl) (zi (zM rfl) (zi (zn rfl) (Z9 rfl rfl (vC rfl rfl (zi (pI rfl) (zi (pI rfl) (zi (pI rfl) (zi (pI rfl) (zi (v:= .agg #[.int .i64 ((hnd (wL N D L (Z7 s)).D:Nat):Int),.int .i64 rank,.int .i64 now,.int .i64 exp,.int .i64 0]) rfl ?_))))))))))))))))))))))))))));refine Zj (Zt rfl fun p112=>⟨(by first | exact fun _ h=>List.mem_cons_of_mem _ h | simp),?_⟩) zO;refine zN (o8 h.m (Zk s) (⟨some p112⟩:Ptr) X6 pG rfl rfl rfl fun HM1 hM1=>?_) zO;refine zK (za (ze (Z5 (zi (pP rfl) (zi (zM rfl) (zi (zn rfl) (Z9 rfl rfl (vC rfl rfl ?_))))))));refine zN (zk (DR h.l (by omega) (by omega) (Zk s)) rfl rfl fun r S' h=>?_) zO;obtain⟨rfl,HL1,hL1,rfl⟩:=h;refine zK (za (ze (Z5 (zi (pP rfl) (zi (zM rfl) (zi (zn rfl) (Z9 rfl rfl (vC rfl rfl (zi (pI rfl) ?_)))))))));refine zN (zk (DT h.d (by rw[List.length_map]; omega) (Zk s) exp) rfl rfl fun r S' h=>?_) zO;obtain⟨rfl,HD1,hD1,rfl⟩:=h;refine zK (za (ze (z8 (yp pC (zf (za (zJ ?_)))))));have hfn:=JQ h.q hb2;have hnk:=vM.1 hb2;have hnP:¬(Zk s∈S2.P∨Zk s∈S2.Q):=fun hm=>hnk (h.q.pq.mem_iff.1 (List.mem_append.2 hm))
  rw[l9,if_neg hnP] at hL1;rw[JZ hb2] at hD1;have hq:=h.q.put hE hs hex.1 hI1 hB1 hb2 rank now exp p112;generalize hen:(⟨⟨Zk s,s,rank,now,exp,0⟩,((hnd (wL N D L (Z7 s)).D:Nat):Int),(wL N D L (Z7 s)).ids,p112⟩:En)=en at hq;have hM2:Mp mb (yZ (W++[en])) (W++[en]).length HM1:=by
   have e1:yZ (W++[en])=wQ (yZ W) (Zk s) (some (⟨some p112⟩:Ptr)):=by rw[nK (by rw[←hen]; exact hfn), ←hen]
   have e2:Xi (yZ W) (Zk s) W.length=(W++[en]).length:=by
    unfold Xi yZ;rw[hfn,List.length_append]; rfl
   rw[e1, ←e2]; exact hM1
  have hD2:Du db ((S2.I++[(⟨Zk s,s,rank,now,exp,0⟩:It)]).map It.de) HD1:=by rw[List.map_append]; exact hD1
  have hse:JV en=[(p112,.cells #[.int .i64 ((hnd (wL N D L (Z7 s)).D:Nat):Int),.int .i64 rank,.int .i64 now,.int .i64 exp,.int .i64 0] 184)]:=by rw[←hen]
  refine zH (rI rfl) ⟨_,?_,rfl,_,Sr.mk ⟨hq,hA1,hT1,hM2,hL1,hD2,h.v⟩,rfl⟩;exact zF.add hse.symm
def swp(f:Ss × Nat)(k:Ky):Ss × Nat:=if free f.1.I k=true then(pR k f.1,f.2+1) else f
structure MZ(now:Int)(S:Ss)(n:Nat)(R:Ss × Nat):Prop where
 kn:(keys R.1.I).Nodup
 mem:∀x∈(due now S.I).drop n,x∈keys R.1.I
 len:R.1.V.length+R.1.I.length=S.V.length+S.I.length
 cnt:R.2≤n
theorem Gv:isAgg? Tryz.prog 3=some false:=by kernel_rfl
theorem dL(now:Int):zP Tryz.prog 87 #[.pointer none,.int .i64 now] [] (fun r S'=>r= .int .i64 0∧S'=[]):=by
 refine zP.forget (zm Tryz.IB (Nat.le_of_ble_eq_true rfl) ?_);unfold Tryz.M4;refine ze (z8 ?_);refine zh (lu (jh rfl) fun p2=>?_);refine zh (Z8 fun p4=>?_);refine zf (za (ze (ze (z8 ?_))));refine zh (zC rfl rfl ?_);refine yp (wG rfl rfl) (zf (za (zG rfl (ze (z8 ?_)))));refine zh (ZP rfl rfl (uO rfl) ?_);refine zf (za (zJ (zX ?_)));exact zH (jo (GD (b:=p4) Gv rfl)) ⟨[],.of,rfl,rfl⟩
end Go.Proofs.YtekgciopamkjlaaGreat
