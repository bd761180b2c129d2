/- Stores (chapter 10), plainly: what is there, who goes next, what each act makes of it. Stores (chapter 10): their memory; New, Used, Left, Count, Evicted. Stores (chapter 10): find, item, gone, evict. Stores (chapter 10): gone, evict, Drop, pin, Peek, Get. Stores (chapter 10): Drop, Pin, Unpin, Peek, Get. Stores (chapter 10): Peek, Get. Stores (chapter 10): who goes next. Stores (chapter 10): Put. Stores (chapter 10): Sweep. -/
import Derived.Test.YtekgciopamkjlaaGreatP4
import Derived.Test.YtekgciopamkjlaaGreatL1
import Derived.Test.YtekgciopamkjlaaGreatI1
import Derived.Test.YtekgciopamkjlaaGreatFStore
namespace Go.Proofs.YtekgciopamkjlaaGreat
open Go.Xs
open Enc (enc)
structure Ptr where
 a:Option Nat
instance:Vv Ptr:=⟨fun p=> .pointer (p.a.map fun b=>⟨b,0,none⟩)⟩
/-- an item -/
structure It where
 k:Ky
 s:St
 rank:Int
 came:Int
 exp:Int
 pins:Int
/-- .. its handle, its names' handles, its place -/
structure En where
 i:It
 h:Int
 ids:List Int
 eb:Nat
def En.z(e:En):LS:=⟨e.h,e.i.s,e.ids⟩
def It.de(i:It):De:=⟨i.k,i.exp⟩
def fk(k:Ky):Ky:=⟨zA k.n,k.t⟩
structure Ss where
 I:List It
 P:List Ky
 Q:List Ky
 V:List Ky
def keys(I:List It):List Ky:=I.map (·.k)
def sets(I:List It):List St:=I.map (·.s)
def V6(I:List It)(k:Ky):Option It:=I.find? fun i=>decide (i.k=k)
def Vk(I:List It)(k:Ky):List It:=I.filter fun i=> !decide (i.k=k)
def free(I:List It)(k:Ky):Bool:=match V6 I k with | some i=>decide (i.pins=0) | none=>false
def Xr(k:Ky)(S:Ss):Ss:=⟨Vk S.I k,S.P.erase k,S.Q.erase k,S.V⟩
def iT(k:Ky)(S:Ss):Ss:=⟨Vk S.I k,S.P.erase k,S.Q.erase k,S.V++[k]⟩
def due(now:Int)(I:List It):List Ky:=(upto now (I.map It.de)).map (·.k)
def VR(now:Int)(S:Ss):Option Ky:=(due now S.I++(S.P++S.Q)).find? (free S.I)
def uY(N:Nat)(S:Ss):Int:=((N-uT (sets S.I):Nat):Int)
def uV(N:Nat)(now:Int)(s:St):Nat→Ss→Ss × Bool
 | 0,S=>(S,decide (Vx (sets S.I) s≤uY N S))
 | f+1,S=>if uY N S<Vx (sets S.I) s then(match VR now S with | none=>(S,false) | some k=>uV N now s f (iT k S)) else(S,true)
def UZ(N:Nat)(k:Ky)(s:St)(rank now exp:Int)(S:Ss):Ss × Int:=match uV N now s S.I.length S with
 | (S',true)=>(⟨S'.I++[⟨k,s,rank,now,exp,0⟩],S'.P++[k],S'.Q,S'.V⟩,0)
 | (S',false)=>(S',4)
def Qk(n most:Int):Bool:=decide (0≤n) && decide (n≤most)
def qh(rank now exp:Int):Bool:=Qk now 1099511627776 && Qk exp 1099511627776 && !decide (exp≤now) && Qk rank 9
def Zg(s:St):Ky:=fk ⟨s.name,s.typ⟩
def bB(N:Nat)(s:St)(rank now exp:Int)(S:Ss):Ss × Int:=match V6 S.I (Zg s) with
 | some i=>if 0<i.pins then(S,6) else UZ N (Zg s) s rank now exp (Xr (Zg s) S)
 | none=>UZ N (Zg s) s rank now exp S
theorem X3{N:Nat}{s:St}{rank now exp:Int}{S:Ss}{i:It}(h:V6 S.I (Zg s)=some i):bB N s rank now exp S=if 0<i.pins then(S,6) else UZ N (Zg s) s rank now exp (Xr (Zg s) S):=by unfold bB; rw[h]
theorem YJ{N:Nat}{s:St}{rank now exp:Int}{S:Ss}(h:V6 S.I (Zg s)=none):bB N s rank now exp S=UZ N (Zg s) s rank now exp S:=by unfold bB; rw[h]
def VN(N:Nat)(s:St)(rank now exp:Int)(S:Ss):Ss × Int:=
 if ZU s≠0 then(S,ZU s) else if qh rank now exp=false then(S,1) else bB N s rank now exp S
/-! ### who is there -/
def Yh(W:List En)(k:Ky):Option En:=W.find? fun e=>decide (e.i.k=k)
def Xy(W:List En)(k:Ky):Option Ptr:=(Yh W k).map fun e=>⟨some e.eb⟩
def xA(W:List En)(k:Ky):List En:=W.filter fun e=> !decide (e.i.k=k)
theorem J8{W:List En}{k:Ky}{e:En}(h:Yh W k=some e):e∈W∧e.i.k=k:=⟨List.mem_of_find?_eq_some h,by simpa using List.find?_some h⟩
theorem aH(W:List En)(k:Ky):V6 (W.map (·.i)) k=(Yh W k).map (·.i):=by
 unfold V6 Yh;rw[List.find?_map];rfl
theorem Jk{I:List It}{k:Ky}{i:It}(h:V6 I k=some i):i∈I∧i.k=k:=⟨List.mem_of_find?_eq_some h,by simpa using List.find?_some h⟩
theorem vO{I:List It}{k:Ky}:V6 I k=none↔k ∉ keys I:=by
 unfold V6;rw[List.find?_eq_none];constructor
 ·intro h hk;obtain⟨i,hi,rfl⟩:=List.mem_map.1 hk;have:=h i hi;simp at this
 ·intro h i hi;have:i.k≠k:=fun e=>h (List.mem_map.2 ⟨i,hi,e⟩)
  simpa using this
theorem AJ(W:List En)(k:Ky):(xA W k).map (·.i)=Vk (W.map (·.i)) k:=by
 unfold xA Vk;rw[List.filter_map];rfl
theorem Ud(I:List It)(k:Ky):keys (Vk I k)=(keys I).filter fun x=> !decide (x=k):=by
 unfold Vk keys;rw[List.filter_map];rfl
theorem iR{W:List En}{k x:Ky}(h:x≠k):Yh (xA W k) x=Yh W x:=by
 unfold Yh xA
 induction W with
 | nil=>rfl
 | cons e W ih=>
  rw[List.filter_cons,List.find?_cons];by_cases hk:e.i.k=k
  ·rw[if_neg (by simp[hk]),ih,decide_eq_false (show ¬e.i.k=x from fun q=>h (q.symm.trans hk))]
  ·rw[if_pos (by simp[hk]),List.find?_cons,ih]
theorem bP(W:List En)(k:Ky):Yh (xA W k) k=none:=by
 unfold Yh;rw[List.find?_eq_none];intro e he;have:=(List.mem_filter.1 he).2;simpa using this
theorem ow(W:List En)(k:Ky):Xy (xA W k)=wT (Xy W) k none:=by
 funext x;unfold Xy wT;split
 ·next e=>rw[e,bP]; rfl
 ·next e=>rw[iR e]
theorem oD{W:List En}{e:En}(h:Yh W e.i.k=none):Xy (W++[e])=wT (Xy W) e.i.k (some ⟨some e.eb⟩):=by
 funext x;unfold Xy wT Yh;rw[List.find?_append,List.find?_singleton];by_cases q:x=e.i.k
 ·subst q;have h2:W.find? (fun y=>decide (y.i.k=e.i.k))=none:=h;rw[if_pos rfl,if_pos (decide_eq_true rfl),h2];rfl
 ·rw[if_neg q,if_neg (by simpa using fun r=>q r.symm),Option.or_none]
theorem gK{W:List En}{k:Ky}(h:∀e∈W,e.i.k≠k):xA W k=W:=List.filter_eq_self.2 fun e he=>by simpa using h e he
/-- one of them, and the others -/
theorem V9:∀{W:List En} {e:En},(keys (W.map (·.i))).Nodup→e∈W→∃A B,W=A++e::B∧xA W e.i.k=A++B
 | y::W,e,hn,he=>by
  have hn2:=List.nodup_cons.1 hn;rcases List.mem_cons.1 he with rfl | he
  ·refine⟨[],W,rfl,?_⟩;unfold xA;rw[List.filter_cons,if_neg (by simp)];exact gK fun x hx q=>hn2.1 (List.mem_map.2 ⟨x.i,List.mem_map.2 ⟨x,hx,rfl⟩,q⟩)
  ·obtain⟨A,B,h1,h2⟩:=V9 hn2.2 he;refine⟨y::A,B,by rw[h1]; rfl,?_⟩;have:y.i.k≠e.i.k:=fun q=>hn2.1 (List.mem_map.2 ⟨e.i,List.mem_map.2 ⟨e,he,rfl⟩,q.symm⟩)
   unfold xA at h2 ⊢;rw[List.filter_cons,if_pos (by simpa using this),h2]; rfl
theorem kr:∀{I:List It} {k:Ky},(keys I).Nodup→Vu k (I.map It.de)=(Vk I k).map It.de
 | [],_,_=>rfl
 | i::I,k,hn=>by
  have hn2:=List.nodup_cons.1 hn;have ih:=kr (k:=k) hn2.2;unfold Vu at ih ⊢;unfold Vk at ih ⊢;rw[List.map_cons,idx];by_cases hk:i.k=k
  ·rw[if_pos (show i.de.k=k from hk),List.filter_cons,if_neg (by simp[hk])];have:I.filter (fun i=> !decide (i.k=k))=I:=List.filter_eq_self.2 fun j hj=>by
    have:j.k≠k:=fun e=>hn2.1 (List.mem_map.2 ⟨j,hj,e.trans hk.symm⟩)
    simpa using this
   rw[this]; rfl
  ·rw[if_neg (show ¬i.de.k=k from hk),List.filter_cons,if_pos (by simp[hk])];cases hx:idx k (I.map It.de) with
   | none=>rw[hx] at ih; simp only[Option.map_none,List.map_cons]; rw[←ih]
   | some j=>rw[hx] at ih; simp only[Option.map_some,List.map_cons,List.eraseIdx_cons_succ]; rw[←ih]
theorem qJ{I:List It}{k:Ky}(h:V6 I k=none):Vu k (I.map It.de)=I.map It.de:=by
 have:∀J:List It,k ∉ keys J→idx k (J.map It.de)=none:=fun J=>by
  induction J with
  | nil=>intro _; rfl
  | cons i J ih=>
   intro hk;have h1:i.de.k≠k:=fun e=>hk (List.mem_map.2 ⟨i,by simp,e⟩)
   rw[List.map_cons,idx,if_neg h1,ih fun hj=>hk (List.mem_cons_of_mem _ hj)]; rfl
 unfold Vu;rw[this I (vO.1 h)]
theorem qF{P Q:List Ky}{I:List It}{k:Ky}(hn:(keys I).Nodup)(h:(P++Q).Perm (keys I)):(P.erase k++Q.erase k).Perm (keys (Vk I k)):=by
 have hp:=h.nodup_iff.2 hn;obtain⟨h1,h2,_⟩:=List.nodup_append.1 hp;rw[Ud,h1.erase_eq_filter,h2.erase_eq_filter, ←List.filter_append];have:=h.filter fun x=> !decide (x=k)
 refine .trans (.of_eq ?_) this;congr 1
/-! ### what is there, by the arena's blocks -/
theorem Pk.NC{D:List (Option Bt)}{L:List Nm}{Z Z':List LS}(h:Pk D L Z)(p:Z.Perm Z'):Pk D L Z':=by
 have pB:(Yb Z).Perm (Yb Z'):=p.map _;refine⟨⟨h.inn.dis,h.inn.blk,fun x hx=>h.inn.oth x (pB.mem_iff.2 hx),fun i b hb=>(h.inn.all i b hb).imp id fun⟨x,hx,h2⟩=>⟨x,pB.mem_iff.1 hx,h2⟩,h.inn.us,h.inn.fold⟩,⟨h.liv.dis,fun e he=>?_,h.liv.pos,fun i hi=>h.liv.ids i ?_⟩,?_,fun z hz=>h.ok z (p.mem_iff.2 hz)⟩
 ·rw[h.liv.us e he];exact((p.map _).flatten).count_eq _
 ·exact((p.map _).flatten).mem_iff.2 hi
 ·exact(pB.map _).nodup_iff.1 h.hs
structure Sq(S:Ss)(W:List En)(D:List (Option Bt))(L:List Nm):Prop where
 its:W.map (·.i)=S.I
 pk:Pk D L (W.map En.z)
 kn:(keys S.I).Nodup
 kz:∀i∈S.I,i.k=Zg i.s
 pq:(S.P++S.Q).Perm (keys S.I)
 pn:∀i∈S.I,0≤i.pins∧i.pins≤1000
theorem Sq.sets{S:Ss}{W:List En}{D:List (Option Bt)}{L:List Nm}(h:Sq S W D L):(W.map En.z).map (·.s)=sets S.I:=by
 unfold Go.Proofs.YtekgciopamkjlaaGreat.sets;rw[←h.its,List.map_map,List.map_map];rfl
theorem Sq.used{S:Ss}{W:List En}{D:List (Option Bt)}{L:List Nm}(h:Sq S W D L):Ze D=uT (Go.Proofs.YtekgciopamkjlaaGreat.sets S.I):=by rw[h.pk.use,h.sets]
theorem Sq.left{N:Nat}{S:Ss}{W:List En}{D:List (Option Bt)}{L:List Nm}(h:Sq S W D L):((N-Ze D:Nat):Int)=uY N S:=by rw[h.used]; rfl
theorem Sq.cost{S:Ss}{W:List En}{D:List (Option Bt)}{L:List Nm}(h:Sq S W D L)(s:St):U0 L s=Vx (Go.Proofs.YtekgciopamkjlaaGreat.sets S.I) s:=by rw[h.pk.cst,h.sets]
theorem Sq.few{N:Nat}{S:Ss}{W:List En}{D:List (Option Bt)}{L:List Nm}(h:Sq S W D L)(hN:Ze D≤N):16*W.length≤N:=by
 have h1:=h.pk.inn.used h.pk.hs;have h2:∀B:List (Int × Bs),16*B.length≤(B.map fun x=>zU x.2.length).sum:=fun B=>by
  induction B with
  | nil=>exact Nat.le_refl _
  | cons x B ih=>
   have:=yT x.2.length;rw[List.map_cons,List.sum_cons,List.length_cons]; omega
 have h3:=h2 (Yb (W.map En.z));have h4:(Yb (W.map En.z)).length=W.length:=by unfold Yb; simp
 omega
theorem BH{L:List Nm}{Z:List LS}(h:∀z∈Z,ZU z.s=0∧kM z.s∧Al L z.ids ((Z8 z.s).map zA)):(jc Z).length≤66*Z.length:=by
 induction Z with
 | nil=>exact Nat.le_refl _
 | cons z Z ih=>
  have h1:=ih fun y hy=>h y (List.mem_cons_of_mem _ hy)
  obtain⟨h2,_,h3⟩:=h z (by simp);have h4:=h3.len;have h5:=VP z.s;have h6:=(VU (VZ h2).1).2.2.2.2.2.2.1;rw[List.length_map] at h4;unfold jc at h1 ⊢;rw[List.map_cons,List.flatten_cons,List.length_append,List.length_cons];omega
theorem Sq.us{N:Nat}{S:Ss}{W:List En}{D:List (Option Bt)}{L:List Nm}(h:Sq S W D L)(hN:Ze D≤N)(hb:N≤1048576):∀e∈L,e.u<2 ^ 50:=fun e he=>by
 have h1:=h.few hN;have h2:=BH (L:=L) h.pk.ok;rw[List.length_map] at h2;have:=h.pk.us h2 e he;omega
theorem Sq.len{S:Ss}{W:List En}{D:List (Option Bt)}{L:List Nm}(h:Sq S W D L):W.length=S.I.length∧S.P.length+S.Q.length=S.I.length:=by
 refine⟨by rw[←h.its,List.length_map],?_⟩;have:=h.pq.length_eq;rw[List.length_append] at this;unfold keys at this;rw[List.length_map] at this;exact this
theorem Sq.BO{S:Ss}{W:List En}{D:List (Option Bt)}{L:List Nm}(h:Sq S W D L):(keys (W.map (·.i))).Nodup:=by rw[h.its]; exact h.kn
theorem Sq.Ib{S:Ss}{W:List En}{D:List (Option Bt)}{L:List Nm}(h:Sq S W D L){e:En}(he:e∈W):uq (W.map En.z) e.h=(xA W e.i.k).map En.z:=by
 obtain⟨A,B,h1,h2⟩:=V9 h.BO he;rw[h2,h1];have hh:=h.pk.hs;unfold Hs Yb at hh;rw[h1,List.map_map,List.map_map,List.map_append,List.map_cons] at hh;obtain⟨_,h4,h5⟩:=List.nodup_append.1 hh;have h6:=(List.nodup_cons.1 h4).1;unfold uq;rw[List.map_append,List.filter_append,List.map_cons,List.filter_cons,if_neg (by show ¬((En.z e).h !=e.h)=true; simp[En.z]),List.map_append];congr 1
 ·refine List.filter_eq_self.2 fun z hz=>?_
  obtain⟨y,hy,rfl⟩:=List.mem_map.1 hz;have:y.h≠e.h:=h5 y.h (List.mem_map.2 ⟨y,hy,rfl⟩) e.h (by show e.h∈e.h::_; exact List.mem_cons_self);simpa[En.z] using this
 ·refine List.filter_eq_self.2 fun z hz=>?_
  obtain⟨y,hy,rfl⟩:=List.mem_map.1 hz;have:y.h≠e.h:=fun q=>h6 (List.mem_map.2 ⟨y,hy,q⟩)
  simpa[En.z] using this
theorem Vj(I:List It)(k:Ky):(Vk I k).Sublist I:=List.filter_sublist
theorem Sq.gone{S:Ss}{W:List En}{D D':List (Option Bt)}{L:List Nm}(h:Sq S W D L){e:En}(he:e∈W)(hI:WZ D' (drops L e.ids) (jP (Yb (W.map En.z)) e.h)):Sq (Xr e.i.k S) (xA W e.i.k) D' (drops L e.ids):=by
 have hz:e.z∈W.map En.z:=List.mem_map.2 ⟨e,he,rfl⟩;have h1:=h.pk.drop hz hI;have h2:uq (W.map En.z) e.z.h=_:=h.Ib he;rw[h2] at h1;refine⟨?_,h1,?_,fun i hi=>h.kz i ((Vj _ _).subset hi),qF h.kn h.pq,fun i hi=>h.pn i ((Vj _ _).subset hi)⟩
 ·rw[AJ,h.its]; rfl
 ·exact((Vj S.I e.i.k).map _).nodup h.kn
theorem Sq.ev{S:Ss}{W:List En}{D:List (Option Bt)}{L:List Nm}{V:List Ky}(h:Sq S W D L):Sq ⟨S.I,S.P,S.Q,V⟩ W D L:=⟨h.its,h.pk,h.kn,h.kz,h.pq,h.pn⟩
theorem Sq.nil:Sq ⟨[],[],[],[]⟩ [] [] []:=⟨rfl,Pk.nil,List.nodup_nil,fun i hi=>by simp at hi,.nil,fun i hi=>by simp at hi⟩
theorem Sq.put{N:Nat}{S:Ss}{W:List En}{D D':List (Option Bt)}{L:List Nm}(h:Sq S W D L){s:St}(hE:ZU s=0)(hs:kM s)(he:(wO N D L (Z8 s)).e=0)
 (hI:WZ D' (wO N D L (Z8 s)).L ((((hnd (wO N D L (Z8 s)).D:Nat):Int),Wq s (wO N D L (Z8 s)).ids)::Yb (W.map En.z))) (hh:Hs ((((hnd (wO N D L (Z8 s)).D:Nat):Int),Wq s (wO N D L (Z8 s)).ids)::Yb (W.map En.z)))
 (hk:V6 S.I (Zg s)=none) (rank came exp:Int) (eb:Nat):
 Sq ⟨S.I++[⟨Zg s,s,rank,came,exp,0⟩],S.P++[Zg s],S.Q,S.V⟩ (W++[⟨⟨Zg s,s,rank,came,exp,0⟩,((hnd (wO N D L (Z8 s)).D:Nat):Int),(wO N D L (Z8 s)).ids,eb⟩]) D' (wO N D L (Z8 s)).L:=by
 have h1:=h.pk.put hE hs he hI hh;refine⟨by rw[List.map_append,h.its]; rfl,?_,?_,?_,?_,?_⟩
 ·rw[List.map_append];exact h1.NC (List.perm_append_singleton _ _).symm
 ·unfold keys;rw[List.map_append];refine List.nodup_append.2 ⟨h.kn,by simp,fun a ha b hb q=>?_⟩;simp at hb;exact vO.1 hk (by rw[←hb, ←q]; exact ha)
 ·intro i hi;rcases List.mem_append.1 hi with hi | hi
  ·exact h.kz i hi
  ·rw[List.mem_singleton.1 hi]
 ·unfold keys;rw[List.map_append];have:((S.P++[Zg s])++S.Q).Perm ((S.P++S.Q)++[Zg s]):=by
   rw[List.append_assoc,List.append_assoc];exact .append_left _ List.perm_append_comm
  exact this.trans (h.pq.append_right _)
 ·intro i hi;rcases List.mem_append.1 hi with hi | hi
  ·exact h.pn i hi
  ·rw[List.mem_singleton.1 hi];exact⟨Int.le_refl 0,by show(0:Int)≤1000; omega⟩
theorem UQ:Tryz.prog.underlying 144=some (.map 43 182):=by kernel_rfl
theorem o9:Key.ok Ky Tryz.prog 43:=show rX Tryz.prog 43=true by kernel_rfl
theorem sM:(Tryz.prog.info? 182).bind (·.zero)=some (.pointer none):=by kernel_rfl
theorem pK:isAgg? Tryz.prog 43=some true:=by kernel_rfl
abbrev NI(e:En):Array Value:= #[.int .i64 e.h,.int .i64 e.i.rank,.int .i64 e.i.came,.int .i64 e.i.exp,.int .i64 e.i.pins]
abbrev Jc(e:En):List Chunk:=[(e.eb,.cells (NI e) 184)]
def Es(W:List En):zw:=W.map Jc
theorem Q8(A B:List En):Es (A++B)=Es A++Es B:=List.map_append
theorem Yd{W:List En}{e:En}(h:e∈W):Jc e∈Es W:=List.mem_map.2 ⟨e,h,rfl⟩
abbrev wF(sb ab tb mb lb db:Nat)(ev:Value):List Chunk:=[(sb,.cells #[.pointer (some ⟨ab,0,none⟩),.pointer (some ⟨tb,0,none⟩),.map (some mb),.pointer (some ⟨lb,0,none⟩),.pointer (some ⟨db,0,none⟩),ev] 148)]
def sH(sb ab tb mb lb db:Nat)(ev:Value)(HA HT HM HL HD HV:List Chunk)(W:List En):List Chunk:=wF sb ab tb mb lb db ev++(HA++(HT++(HM++(HL++(HD++(HV++(Es W).flatten))))))
structure Sp(N:Nat)(S:Ss)(W:List En)(D:List (Option Bt))(L:List Nm)(ab tb mb lb db:Nat)(ev:Value)(HA HT HM HL HD HV:List Chunk):Prop where
 q:Sq S W D L
 a:Ar ab N D HA
 t:Tb tb ab L HT
 m:Mp mb (Xy W) W.length HM
 l:Lr lb ((N/512:Nat):Int) S.P S.Q HL
 d:Du db (S.I.map It.de) HD
 v:Zc 43 ev S.V HV
/-- a store of N bytes, as one piece of memory -/
def Sr(sb N:Nat)(S:Ss)(H:List Chunk):Prop:=∃(W:List En) (D:List (Option Bt)) (L:List Nm) (ab tb mb lb db:Nat) (ev:Value) (HA HT HM HL HD HV:List Chunk),Sp N S W D L ab tb mb lb db ev HA HT HM HL HD HV∧H=sH sb ab tb mb lb db ev HA HT HM HL HD HV W
theorem Sr.mk{sb N:Nat}{S:Ss}{W:List En}{D:List (Option Bt)}{L:List Nm}{ab tb mb lb db:Nat}{ev:Value}{HA HT HM HL HD HV:List Chunk}(h:Sp N S W D L ab tb mb lb db ev HA HT HM HL HD HV):Sr sb N S (sH sb ab tb mb lb db ev HA HT HM HL HD HV W):=⟨W,D,L,ab,tb,mb,lb,db,ev,HA,HT,HM,HL,HD,HV,h,rfl⟩
theorem Sp.nb{N:Nat}{S:Ss}{W:List En}{D:List (Option Bt)}{L:List Nm}{ab tb mb lb db:Nat}{ev:Value}{HA HT HM HL HD HV:List Chunk}(h:Sp N S W D L ab tb mb lb db ev HA HT HM HL HD HV):N≤1048576∧Ze D≤N∧16*S.I.length≤N∧W.length=S.I.length∧S.P.length+S.Q.length=S.I.length:=by
 obtain⟨h1,h2,h3,_⟩:=h.a.kV;obtain⟨h4,h5⟩:=h.q.len;exact⟨h3,h1,by have:=h.q.few h1; omega,h4,h5⟩
theorem Sr.nb{sb N:Nat}{S:Ss}{H:List Chunk}(h:Sr sb N S H):N≤1048576∧16*S.I.length≤N∧S.P.length+S.Q.length=S.I.length∧uT (sets S.I)≤N:=by
 obtain⟨W,D,L,ab,tb,mb,lb,db,ev,HA,HT,HM,HL,HD,HV,h,rfl⟩:=h;obtain⟨h1,h2,h3,h4,h5⟩:=h.nb;exact⟨h1,h3,h5,by rw[←h.q.used]; exact h2⟩
/-- opened, and closed again -/
theorem zP.sp{P:Program}{f:FuncId}{args:Array Value}{R:Value→zw→Prop}{S0:zw}{sb ab tb mb lb db:Nat}{ev:Value}{HA HT HM HL HD HV:List Chunk}{W:List En}(h:zP P f args (wF sb ab tb mb lb db ev::HA::HT::HM::HL::HD::HV::(Es W++S0)) R):zP P f args (sH sb ab tb mb lb db ev HA HT HM HL HD HV W::S0) R:=h.perm (by simp[sH])
theorem zP.DJ{P:Program}{f:FuncId}{args:Array Value}{R:Value→zw→Prop}{sb ab tb mb lb db:Nat}{ev:Value}{HA HT HM HL HD HV:List Chunk}{W:List En}(h:zP P f args (wF sb ab tb mb lb db ev::HA::HT::HM::HL::HD::HV::Es W) R):zP P f args [sH sb ab tb mb lb db ev HA HT HM HL HD HV W] R:=h.perm (by simp[sH])
theorem zD.sp{S G:zw}{sb ab tb mb lb db:Nat}{ev:Value}{HA HT HM HL HD HV:List Chunk}{W:List En}[h:Sub S (wF sb ab tb mb lb db ev::HA::HT::HM::HL::HD::HV::Es W) G]:zD S [sH sb ab tb mb lb db ev HA HT HM HL HD HV W]:=zD.trans (zD.of (h:=h)) ⟨[],by simp[sH]⟩
theorem zD.op{S S1 G:zw}{sb ab tb mb lb db:Nat}{ev:Value}{HA HT HM HL HD HV:List Chunk}{W:List En}[h:Sub S (sH sb ab tb mb lb db ev HA HT HM HL HD HV W::S1) G]:zD S (wF sb ab tb mb lb db ev::HA::HT::HM::HL::HD::HV::(Es W++S1)):=zD.trans (zD.of (h:=h)) ⟨[],by simp[sH]⟩
theorem Jd{W:List En}{k:Ky}{e:En}(h:Yh W k=some e):((Xy W k).map Vv.vv).getD (.pointer none)= .pointer (some ⟨e.eb,0,none⟩):=by unfold Xy; rw[h]; rfl
theorem He{W:List En}{k:Ky}(h:Yh W k=none):((Xy W k).map Vv.vv).getD (.pointer none)= .pointer none:=by unfold Xy; rw[h]; rfl
set_option maxRecDepth 10000 in
theorem rJ{n:Nat}(hn:2048≤n∧n≤1048576){z:Int}(hz:z=n):zP Tryz.prog 76 #[.int .i64 z] [] (fun r S=>∃sb H,r= .tuple #[.pointer (some ⟨sb,0,none⟩),.int .i64 0]∧Sr sb n ⟨[],[],[],[]⟩ H∧S=[H]):=by
 subst hz;refine zP.forget (zl Tryz.LG (Nat.le_of_ble_eq_true rfl) ?_);unfold Tryz.MN;refine ze (z8 (yp pC (yp pC (zf (za (ze (ze (z8 (yp (pI rfl) (yp (ZP rfl rfl) (yp (pB rfl) ?_)))))))))));rw[decide_eq_false (show ¬(n:Int)<2048 from by omega)];refine zY rfl (Z7 (pI rfl) (zY rfl (Z7 (uf rfl rfl) (yp (zQ rfl rfl) (zf (za ?_))))));rw[decide_eq_false (show ¬(1048576:Int)<(n:Int) from by omega)];refine zx rfl (zq (za (ze (z8 (yp (pI rfl) ?_)))));refine zh (zk (BA (n:=n) (by omega) rfl) rfl rfl fun r S' h=>?_);obtain⟨ab,HA,rfl,hA,rfl⟩:=h;refine yp (pU rfl) (yp (pExt rfl rfl) (yp (pExt rfl rfl) (yp (pP rfl) (yp (pI rfl) (zf (za (ze (z8 (yp (pP rfl) (yp (pP rfl) ?_))))))))));refine zh (zk (Dy (ab:=ab)) rfl rfl fun r S' h=>?_);obtain⟨tb,HT,rfl,hT,rfl⟩:=h;refine zh (kR Ky Ptr fun mb HM hM=>?_);refine yp (pI rfl) (yp (Ee rfl rfl (by decide) (by omega)) ?_);rw[show(n:Int).tdiv 512=((n/512:Nat):Int) from rfl];refine zh (zk (Er ((n/512:Nat):Int)) rfl rfl fun r S' h=>?_);obtain⟨lb,HL,rfl,hL,rfl⟩:=h;refine zh (zk Ew rfl rfl fun r S' h=>?_);obtain⟨db,HD,rfl,hD,rfl⟩:=h;rw[show max ((n/512:Nat):Int) 0=((n/512:Nat):Int) from by omega] at hL;refine yp (v:= .agg #[.pointer (some ⟨ab,0,none⟩),.pointer (some ⟨tb,0,none⟩),.map (some mb),.pointer (some ⟨lb,0,none⟩),.pointer (some ⟨db,0,none⟩),.slice none 0 0]) rfl ?_;refine zh (Zp rfl fun p26=>?_);refine yp (pP rfl) (yp pC (zf (za (zH ?_))));exact zG (I6 rfl rfl) ⟨_,zD.re (S1:=[wF p26 ab tb mb lb db (.slice none 0 0),HA,HT,HM,HL,HD]) (S2:=[sH p26 ab tb mb lb db (.slice none 0 0) HA HT HM HL HD [] []]) (by simp[sH,Es]),p26,_,rfl,Sr.mk ⟨Sq.nil,hA,hT,hM,hL,hD,.nil⟩,rfl⟩
theorem Qp:sizeOf? Tryz.prog 43=some 2:=by kernel_rfl
theorem KY:isAgg? Tryz.prog 136=some true:=by kernel_rfl
theorem K4:sizeOf? Tryz.prog 136=some 9:=by kernel_rfl
theorem fu(k:Ky)(hk:k.n.length<2 ^ 62):zP Tryz.prog 125 #[.agg (WB k)] [] (fun r S=>r= .agg (WB (fk k))∧S=[]):=by
 refine zP.forget (zl Tryz.Gt (Nat.le_of_ble_eq_true rfl) ?_);unfold Tryz.D9;refine ze (z8 ?_);refine zh (Zp rfl fun p1=>?_);refine zh (Z6 fun p2=>?_);refine zf (za (ze (Z4 (zi (zn rfl) (Z9 rfl rfl (zi (zn rfl) (Z9 rfl rfl ?_)))))));refine Zf (zk (Kz k.n hk) rfl rfl fun r S' h=>?_) zO;obtain⟨rfl,rfl⟩:=h;refine⟨by simp,?_⟩;refine zi (WG (dA rfl) (u7 rfl)) ?_;refine zN (ZX rfl rfl rfl rfl rfl ?_) zO;refine zJ (za (zH ?_));exact zG (YG (JY (b:=p2) pK Qp rfl rfl)) ⟨[],.of,rfl,rfl⟩
theorem UU(n most:Int):zP Tryz.prog 124 #[.int .i64 n,.int .i64 most] [] (fun r S=>r= .bool (Qk n most)∧S=[]):=by
 refine zP.forget (zl Tryz.Gu (Nat.le_of_ble_eq_true rfl) ?_);unfold Tryz.Da Qk;refine ze (z8 (yp pC (zf (za (ze (z8 (yp (pI rfl) (yp (Yg rfl rfl) (yp (pB rfl) ?_)))))))));by_cases h:0≤n
 ·rw[decide_eq_true h];refine zY rfl (Z7 (pI rfl) (zY rfl (Z7 (pI rfl) (zY rfl (Z7 (jN rfl rfl) (yp (zK rfl rfl) (yp (pB rfl) (zf (za (zH ?_))))))))));exact zG (rB rfl) ⟨_,.of,rfl,rfl⟩
 ·rw[decide_eq_false h];refine zW rfl (zW rfl (zW rfl (yp (zQ rfl rfl) (yp (pB rfl) (zf (za (zH ?_)))))));exact zG (rB rfl) ⟨_,.of,rfl,rfl⟩
def I7(o:Option En):Value:= .pointer (o.map fun e=>⟨e.eb,0,none⟩)
theorem H9(W:List En)(k:Ky):((Xy W k).map Vv.vv).getD (.pointer none)=I7 (Yh W k):=by
 unfold Xy I7;cases Yh W k<;>rfl
theorem fA{sb ab tb mb lb db n:Nat}{ev:Value}{W:List En}{HM:List Chunk}(hM:Mp mb (Xy W) n HM)(k:Ky)(hk:k.n.length<2 ^ 62):
 zP Tryz.prog 132 #[.pointer (some ⟨sb,0,none⟩),.agg (WB k)] [wF sb ab tb mb lb db ev,HM] (fun r S=>r=I7 (Yh W (fk k))∧S=[wF sb ab tb mb lb db ev,HM]):=by
 refine zP.forget (zl Tryz.rY (Nat.le_of_ble_eq_true rfl) ?_);unfold Tryz.tH;refine ze (z8 ?_);refine zh (Zp rfl fun p3=>?_);refine yp pC (zf (za (ze (ze (z8 (yp (pP rfl) (yp (wz rfl rfl) (zf (za (zx rfl (zq (za (ze (Z4 (zi (pP rfl) (zi (zM rfl) (zi (zn rfl) (Z9 rfl rfl (Wz rfl rfl ?_)))))))))))))))))));refine Zf (zk (fu k hk) rfl rfl fun r S' h=>?_) zO;obtain⟨rfl,rfl⟩:=h;refine⟨by simp,?_⟩;refine zN (VB hM (by repeat (first | exact List.mem_cons_self | apply List.mem_cons_of_mem)) (fk k) UQ o9 sM rfl rfl (H9 W (fk k)) ?_) zO;refine zi (v:=I7 (Yh W (fk k))) rfl (zJ (za (zH ?_)));exact zG (rP rfl) ⟨_,.of,rfl,rfl⟩
theorem mZ(k:Ky):zP Tryz.prog 132 #[.pointer none,.agg (WB k)] [] (fun r S=>r= .pointer none∧S=[]):=by
 refine zP.forget (zl Tryz.rY (Nat.le_of_ble_eq_true rfl) ?_);unfold Tryz.tH;refine ze (z8 ?_);refine zh (Zp rfl fun p3=>?_);refine yp pC (zf (za (ze (ze (z8 (yp (pP rfl) (yp (wz rfl rfl) (zf (za (zF rfl (ze (z8 (yp pC (zf (za (zH (zX ?_)))))))))))))))));exact zG (rP rfl) ⟨_,.of,rfl,rfl⟩
/-- an item as it is told -/
abbrev mD(i:It)(v:Value):Array Value:= #[sv (Zh i.s).name,.int .i64 (Zh i.s).typ,v,.int .i64 (Zh i.s).kind,sv (Zh i.s).zone,.int .i64 i.rank,.int .i64 i.came,.int .i64 i.exp,.int .i64 i.pins]
abbrev Yl:Array Value:= #[.string ⟨#[]⟩,.int .i64 0,.slice none 0 0,.int .i64 0,.string ⟨#[]⟩,.int .i64 0,.int .i64 0,.int .i64 0,.int .i64 0]
theorem tO{sb N ab tb mb lb db:Nat}{ev:Value}{S:Ss}{W:List En}{D:List (Option Bt)}{L:List Nm}{HA HT:List Chunk}(hq:Sq S W D L)(hA:Ar ab N D HA)(hT:Tb tb ab L HT){e:En}(he:e∈W):
 zP Tryz.prog 133 #[.pointer (some ⟨sb,0,none⟩),.pointer (some ⟨e.eb,0,none⟩)] [wF sb ab tb mb lb db ev,HA,HT,Jc e] (fun r S=>∃v HR,r= .agg (mD e.i v)∧Zc 89 v (Zh e.i.s).rrs HR∧S=[HR,wF sb ab tb mb lb db ev,HA,HT,Jc e]):=by
 have hz:e.z∈W.map En.z:=List.mem_map.2 ⟨e,he,rfl⟩;obtain⟨hE,hs,hal⟩:=hq.pk.ok _ hz;have hC:=DW hT hA hq.pk.inn (KZ hz) hE hal;refine zP.forget (zl Tryz.Gl (Nat.le_of_ble_eq_true rfl) ?_);unfold Tryz.CX;refine ze (z8 ?_);refine zh (Z6 fun p4=>?_);refine zf (za (ze (wU (R:=[wF sb ab tb mb lb db ev,Jc e]) (by simp) (zi (pP rfl) (zi (zM rfl) (zi (zn rfl) (Z9 rfl rfl (zi (pP rfl) (zi (zM rfl) (zi (zn rfl) (Z9 rfl rfl (zi (pP rfl) (zi (zM rfl) (zi (zn rfl) (Z9 rfl rfl ?_)))))))))))))));refine zN (zk hC rfl rfl fun r S' h=>?_) (Zf (Z6 fun p5=>⟨by simp,?_⟩) zO)
 ·obtain⟨v,HR,rfl,hR,rfl⟩:=h;obtain⟨a,c,rfl⟩:=hR.isSlice;refine zi (pU rfl) (zi (pExt rfl rfl) (zi (pExt rfl rfl) ?_));refine Zf (Z6 fun p5=>⟨(by first | exact fun _ h=>List.mem_cons_of_mem _ h | simp),?_⟩) zO;refine zN (ZX rfl rfl rfl rfl rfl ?_) zO;refine zi (pI rfl) (zJ (za (ze (Z4 (Wz rfl rfl (zi (pP rfl) (zi (zM rfl) (zi (zn rfl) (Z9 rfl rfl (zi (pP rfl) (zi (zM rfl) (zi (zn rfl) (Z9 rfl rfl (zi (pP rfl) (zi (zM rfl) (zi (zn rfl) (Z9 rfl rfl (zi (pP rfl) (zi (zM rfl) (zi (zn rfl) (Z9 rfl rfl (zi (v:= .agg (mD e.i (.slice a (Zh e.z.s).rrs.length c))) rfl ?_))))))))))))))))))))));refine zN (ZX rfl rfl rfl rfl rfl ?_) zO;refine zJ (za (zH ?_));exact zG (YG (JY (b:=p4) KY K4 rfl rfl)) ⟨_,.of,_,HR,rfl,hR,rfl⟩
 ·refine zN (zk hC rfl rfl fun r S' h=>?_) zO;obtain⟨v,HR,rfl,hR,rfl⟩:=h;obtain⟨a,c,rfl⟩:=hR.isSlice;refine zi (pU rfl) (zi (pExt rfl rfl) (zi (pExt rfl rfl) ?_));refine zN (ZX rfl rfl rfl rfl rfl ?_) zO;refine zi (pI rfl) (zJ (za (ze (Z4 (Wz rfl rfl (zi (pP rfl) (zi (zM rfl) (zi (zn rfl) (Z9 rfl rfl (zi (pP rfl) (zi (zM rfl) (zi (zn rfl) (Z9 rfl rfl (zi (pP rfl) (zi (zM rfl) (zi (zn rfl) (Z9 rfl rfl (zi (pP rfl) (zi (zM rfl) (zi (zn rfl) (Z9 rfl rfl (zi (v:= .agg (mD e.i (.slice a (Zh e.z.s).rrs.length c))) rfl ?_))))))))))))))))))))));refine zN (ZX rfl rfl rfl rfl rfl ?_) zO;refine zJ (za (zH ?_));exact zG (YG (JY (b:=p4) KY K4 rfl rfl)) ⟨_,.of,_,HR,rfl,hR,rfl⟩
theorem xq(X A B C:List Chunk):(X++(A++(B++C))).Perm (X++(B++(A++C))):=by
 refine .append_left X ?_;rw[←List.append_assoc, ←List.append_assoc];exact List.perm_append_comm.append_right C
theorem Q7(A B:List En)(e:En):(Es (A++e::B)).flatten=(Es A).flatten++(Jc e++(Es B).flatten):=by
 rw[Q8,List.flatten_append]; rfl
/-- one entry taken out of the others; put back, or left -/
theorem zD.cons{x:List Chunk}{S T:zw}(h:zD S T):zD (x::S) (x::T):=by
 obtain⟨G,h⟩:=h;refine⟨G,?_⟩;rw[List.flatten_cons,List.flatten_cons,List.append_assoc];exact h.append_left x
theorem zD.em{x:List Chunk}{sb ab tb mb lb db:Nat}{ev:Value}{HA HT HM HL HD HV:List Chunk}{A B:List En}{e:En}:
 zD (x::wF sb ab tb mb lb db ev::HA::HT::HM::HL::HD::HV::Es (A++e::B)) (x::Jc e::wF sb ab tb mb lb db ev::HA::HT::HM::HL::HD::HV::(Es A++Es B)):=⟨[],by
 simp only[List.flatten_cons,Q7,List.flatten_append,List.append_nil];refine .append_left x ?_;have:=xq [] (wF sb ab tb mb lb db ev++(HA++(HT++(HM++(HL++(HD++(HV++(Es A).flatten))))))) (Jc e) (Es B).flatten;simpa only[List.nil_append,List.append_assoc] using this⟩
theorem zD.ec{x:List Chunk}{S G:zw}{sb ab tb mb lb db:Nat}{ev:Value}{HA HT HM HL HD HV:List Chunk}{A B:List En}{e:En}[h:Sub S (x::Jc e::wF sb ab tb mb lb db ev::HA::HT::HM::HL::HD::HV::(Es A++Es B)) G]:
 zD S [x,sH sb ab tb mb lb db ev HA HT HM HL HD HV (A++e::B)]:=zD.trans (zD.of (h:=h)) ⟨[],by
 simp only[sH,List.flatten_cons,List.flatten_nil,Q7,List.flatten_append,List.append_nil];refine .append_left x ?_;have:=(xq [] (wF sb ab tb mb lb db ev++(HA++(HT++(HM++(HL++(HD++(HV++(Es A).flatten))))))) (Jc e) (Es B).flatten).symm;simpa only[List.nil_append,List.append_assoc] using this⟩
theorem zD.Nw{S G:zw}{sb ab tb mb lb db:Nat}{ev:Value}{HA HT HM HL HD HV:List Chunk}{A B:List En}{e:En}[h:Sub S (Jc e::wF sb ab tb mb lb db ev::HA::HT::HM::HL::HD::HV::(Es A++Es B)) G]:
 zD S [sH sb ab tb mb lb db ev HA HT HM HL HD HV (A++e::B)]:=zD.trans (zD.of (h:=h)) ⟨[],by
 simp only[sH,List.flatten_cons,List.flatten_nil,Q7,List.flatten_append,List.append_nil];have:=(xq [] (wF sb ab tb mb lb db ev++(HA++(HT++(HM++(HL++(HD++(HV++(Es A).flatten))))))) (Jc e) (Es B).flatten).symm;simpa only[List.nil_append,List.append_assoc] using this⟩
theorem zD.sd{S G:zw}{sb ab tb mb lb db:Nat}{ev:Value}{HA HT HM HL HD HV:List Chunk}{A B:List En}[h:Sub S (wF sb ab tb mb lb db ev::HA::HT::HM::HL::HD::HV::(Es A++Es B)) G]:
 zD S [sH sb ab tb mb lb db ev HA HT HM HL HD HV (A++B)]:=zD.trans (zD.of (h:=h)) ⟨[],by simp[sH,Q8]⟩
theorem zD.op1{x:List Chunk}{S G:zw}{sb ab tb mb lb db:Nat}{ev:Value}{HA HT HM HL HD HV:List Chunk}{W:List En}[h:Sub S [x,sH sb ab tb mb lb db ev HA HT HM HL HD HV W] G]:zD S (x::wF sb ab tb mb lb db ev::HA::HT::HM::HL::HD::HV::Es W):=zD.trans (zD.of (h:=h)) ⟨[],by simp[sH]⟩
theorem nR{W:List En}{e:En}(hn:(keys (W.map (·.i))).Nodup)(he:e∈W):KA (Xy W) e.i.k W.length=(xA W e.i.k).length:=by
 obtain⟨A,B,h1,h2⟩:=V9 hn he;have hf:(Xy W e.i.k).isSome=true:=by
  unfold Xy Yh;cases h:W.find? (fun x=>decide (x.i.k=e.i.k)) with
  | none=>have:=List.find?_eq_none.1 h e he; simp at this
  | some x=>rfl
 unfold KA;rw[if_pos hf,h2,h1];simp
theorem yN{S:Ss}{W:List En}{D:List (Option Bt)}{L:List Nm}(hq:Sq S W D L){k:Ky}{i:It}(h:V6 S.I k=some i):∃e,Yh W k=some e∧e∈W∧e.i=i∧i.k=k:=by
 rw[←hq.its,aH] at h;obtain⟨e,he,rfl⟩:=Option.map_eq_some_iff.1 h;exact⟨e,he,(J8 he).1,rfl,(J8 he).2⟩
theorem KL{S:Ss}{W:List En}{D:List (Option Bt)}{L:List Nm}(hq:Sq S W D L){k:Ky}(h:V6 S.I k=none):Yh W k=none:=by
 rw[←hq.its,aH] at h;exact Option.map_eq_none_iff.1 h
theorem fq{sb N:Nat}{S:Ss}{H:List Chunk}(hS:Sr sb N S H){k:Ky}{i:It}(hk:V6 S.I k=some i):
 zP Tryz.prog 126 #[.pointer (some ⟨sb,0,none⟩),.agg (WB k)] [H] (fun r S'=>r= .tuple #[]∧∃H',Sr sb N (Xr k S) H'∧S'=[H']):=by
 have hnb:=hS.nb;obtain⟨W,D,L,ab,tb,mb,lb,db,ev,HA,HT,HM,HL,HD,HV,h,rfl⟩:=hS;obtain⟨e,hf,he,rfl,hek⟩:=yN h.q hk;have hz:e.z∈W.map En.z:=List.mem_map.2 ⟨e,he,rfl⟩;obtain⟨hE,hs,hal⟩:=h.q.pk.ok _ hz;have hC:=Af h.t h.a h.q.pk.inn h.q.pk.pos (KZ hz) hE hal hs;have hC:zP Tryz.prog 25 #[.pointer (some ⟨ab,0,none⟩),.pointer (some ⟨tb,0,none⟩),.int .i64 e.h] _ _:=hC;obtain⟨A,B,hW,hout⟩:=V9 h.q.BO he;refine zP.forget (zP.DJ (zl Tryz.Gs (Nat.le_of_ble_eq_true rfl) ?_));unfold Tryz.D8;have hEs:Es W=Es (A++e::B):=by rw[←hW]
 rw[hEs];refine ze (z8 ?_);refine zh (Zp rfl fun p3=>?_);refine zf (za (zo zD.em (ze (Z4 (zi (pP rfl) (zi (zM rfl) (zi (zn rfl) (Z9 rfl rfl (zi (pP rfl) (zi (zM rfl) (zi (zn rfl) (Z9 rfl rfl (zi (pP rfl) (zi (zM rfl) (zi (zn rfl) (Z9 rfl rfl (Wz rfl rfl ?_)))))))))))))))));refine Zf (VB h.m (by repeat (first | exact List.mem_cons_self | apply List.mem_cons_of_mem)) k UQ o9 sM rfl rfl (Jd hf) ⟨fun _ h=>h,?_⟩) zO;refine zi (zM rfl) (zi (zn rfl) (Z9 rfl rfl ?_));refine zN (zk hC rfl rfl fun r S' h=>?_) zO;obtain⟨rfl,HT1,HA1,D1,hT1,hA1,hI1,_,rfl⟩:=h;refine zJ (za (ze (Z4 (zi (pP rfl) (zi (zM rfl) (zi (zn rfl) (Z9 rfl rfl (Wz rfl rfl ?_))))))));refine zN (dJ h.m k UQ o9 rfl rfl fun HM1 hM1=>?_) zO;refine zJ (za (ze (Z4 (zi (pP rfl) (zi (zM rfl) (zi (zn rfl) (Z9 rfl rfl (Wz rfl rfl ?_))))))));refine zN (zk (AZ h.l (by omega) (by omega) k) rfl rfl fun r S' h=>?_) zO;obtain⟨rfl,HL1,hL1,rfl⟩:=h;refine zJ (za (Z4 (zi (pP rfl) (zi (zM rfl) (zi (zn rfl) (Z9 rfl rfl (Wz rfl rfl ?_)))))));refine zN (zk (Bf h.d (by rw[List.length_map]; omega) k) rfl rfl fun r S' h=>?_) zO;obtain⟨rfl,HD1,hD1,rfl⟩:=h;refine zJ ?_;subst hek;have hq1:=h.q.gone he hI1;rw[←ow,nR h.q.BO he] at hM1;rw[kr h.q.kn] at hD1;have hR:Sp N (Xr e.i.k S) (xA W e.i.k) D1 _ ab tb mb lb db ev HA1 HT1 HM1 HL1 HD1 HV:=⟨hq1,hA1,hT1,hM1,hL1,hD1,h.v⟩
 have hR:=Sr.mk (sb:=sb) hR;rw[hout] at hR;exact ZW w9 ⟨_,zD.sd,rfl,_,hR,rfl⟩
theorem Qs{sb N:Nat}{S:Ss}{H:List Chunk}(hS:Sr sb N S H){k:Ky}{i:It}(hk:V6 S.I k=some i)(hv:S.V.length<2 ^ 30):
 zP Tryz.prog 129 #[.pointer (some ⟨sb,0,none⟩),.agg (WB k)] [H] (fun r S'=>r= .tuple #[]∧∃H',Sr sb N (iT k S) H'∧S'=[H']):=by
 refine zP.forget (zl Tryz.Gp (Nat.le_of_ble_eq_true rfl) ?_);unfold Tryz.D5;refine ze (z8 ?_);refine zh (Zp rfl fun p3=>?_);refine zf (za (ze (z8 (yp (pP rfl) ?_))));refine zh (ZK rfl rfl ?_);refine zh (zk (fq hS hk) rfl rfl fun r S' h=>?_);obtain⟨rfl,H1,hS1,rfl⟩:=h;obtain⟨W,D,L,ab,tb,mb,lb,db,ev,HA,HT,HM,HL,HD,HV,h,rfl⟩:=hS1;refine zf (za ?_);refine zo (S0:=[(p3,.cells (WB k) 43)]::wF sb ab tb mb lb db ev::HA::HT::HM::HL::HD::HV::Es W) ?_ ?_
 ·exact zD.op1
 have hV:=h.v;obtain⟨a,c,rfl⟩:=hV.isSlice;refine Z4 (zi (pP rfl) (zi (pP rfl) (zi (zM rfl) (zi (zn rfl) (Z9 rfl rfl (Wz rfl rfl ?_))))));refine Zf (Vf k rfl rfl (by decide) (by decide) rfl fun p13=>⟨fun _ h=>List.mem_cons_of_mem _ h,?_⟩) zO;have hvl:(Xr k S).V.length<2 ^ 30:=hv;refine zN (uQ (Y:=[k]) rfl rfl hV (.lit (by repeat (first | exact List.mem_cons_self | apply List.mem_cons_of_mem)) rfl) rfl (⟨[],0⟩:Ky) rfl (by rw[List.length_singleton]; omega) (by rw[List.length_singleton]; omega) fun v2 H2 hV2=>?_) zO;obtain⟨a2,c2,rfl⟩:=hV2.isSlice;refine zi (zM rfl) (zi (zn rfl) ?_);refine zN (sO rfl rfl (jE rfl) ?_) zO;refine zJ ?_;exact ZW w9 ⟨_,zD.sp,rfl,_,Sr.mk (S:=iT k S) ⟨h.q.ev,h.a,h.t,h.m,h.l,h.d,hV2⟩,rfl⟩
def um(I:List It)(k:Ky)(p:Int):List It:=I.map fun i=>if i.k=k then {i with pins:=p} else i
def yh(k:Ky)(by_:Int)(S:Ss):Ss × Int:=match V6 S.I (fk k) with
 | none=>(S,5)
 | some i=>if Qk (i.pins+by_) 1000=false then(S,1) else(⟨um S.I (fk k) (i.pins+by_),S.P,S.Q,S.V⟩,0)
theorem X0(I:List It)(k:Ky)(p:Int):keys (um I k p)=keys I:=by
 unfold keys um;rw[List.map_map];refine List.map_congr_left fun i _=>?_
 show(if i.k=k then {i with pins:=p} else i).k=i.k;split<;>rfl
theorem nC(I:List It)(k:Ky)(p:Int):(um I k p).map It.de=I.map It.de:=by
 unfold um;rw[List.map_map];refine List.map_congr_left fun i _=>?_
 show(if i.k=k then {i with pins:=p} else i).de=i.de;split<;>rfl
abbrev qb(p:Int)(e:En):En:={e with i:={e.i with pins:=p}}
theorem fF{A B:List En}{e:En}(hn:(keys ((A++e::B).map (·.i))).Nodup)(p:Int):(A++qb p e::B).map (·.i)=um ((A++e::B).map (·.i)) e.i.k p:=by
 have hne:∀X:List En,(∀y∈X,y.i.k≠e.i.k)→X.map (·.i)=um (X.map (·.i)) e.i.k p:=fun X hX=>by
  unfold um;rw[List.map_map];refine List.map_congr_left fun y hy=>?_
  show y.i=if y.i.k=e.i.k then _ else y.i
  rw[if_neg (hX y hy)]
 have hn:((A++e::B).map fun y=>y.i.k).Nodup:=by
  have:keys ((A++e::B).map (·.i))=(A++e::B).map fun y=>y.i.k:=by unfold keys; rw[List.map_map]; rfl
  rw[←this]; exact hn
 rw[List.map_append,List.map_cons] at hn;obtain⟨_,h2,h3⟩:=List.nodup_append.1 hn;have h4:=(List.nodup_cons.1 h2).1;have hA:=hne A fun y hy q=>h3 y.i.k (List.mem_map.2 ⟨y,hy,rfl⟩) e.i.k List.mem_cons_self q
 have hB:=hne B fun y hy q=>h4 (List.mem_map.2 ⟨y,hy,q⟩)
 have happ:∀X Y:List It,um (X++Y) e.i.k p=um X e.i.k p++um Y e.i.k p:=fun X Y=>List.map_append
 rw[List.map_append,List.map_cons,List.map_append,List.map_cons,happ,hA, ←hA];congr 1;show _=(if e.i.k=e.i.k then _ else e.i)::um (B.map (·.i)) e.i.k p;rw[if_pos rfl, ←hB]
theorem oz{A B:List En}{e:En}(p:Int):Xy (A++qb p e::B)=Xy (A++e::B):=by
 funext x;unfold Xy Yh;have hd:decide ((qb p e).i.k=x)=decide (e.i.k=x):=rfl;rw[List.find?_append,List.find?_append,List.find?_cons,List.find?_cons,hd];cases List.find? (fun y=>decide (y.i.k=x)) A<;>cases decide (e.i.k=x)<;>rfl
theorem UN(n most:Int):Qk n most=true↔0≤n∧n≤most:=by unfold Qk; simp
theorem rH{sb N:Nat}{S:Ss}{H:List Chunk}(hS:Sr sb N S H)(k:Ky)(hkl:k.n.length<2 ^ 62)(by_:Int)(hby: -1≤by_∧by_≤1):
 zP Tryz.prog 88 #[.pointer (some ⟨sb,0,none⟩),.agg (WB k),.int .i64 by_] [H] (fun r S'=>r= .int .i64 (yh k by_ S).2∧∃H',Sr sb N (yh k by_ S).1 H'∧S'=[H']):=by
 have hS0:=hS;obtain⟨W,D,L,ab,tb,mb,lb,db,ev,HA,HT,HM,HL,HD,HV,h,rfl⟩:=hS;refine zP.forget (zP.DJ (zl Tryz.Lp (Nat.le_of_ble_eq_true rfl) ?_));unfold Tryz.MG;refine ze (z8 ?_);refine zh (Zp rfl fun p4=>?_);refine yp pC (zf (za (ze (z8 (yp (pP rfl) ?_)))));refine zh (ZK rfl rfl ?_);refine zh (zk (fA (ab:=ab) (tb:=tb) (lb:=lb) (db:=db) (ev:=ev) h.m k hkl) rfl rfl fun r S' h=>?_);obtain⟨rfl,rfl⟩:=h;cases hb:V6 S.I (fk k) with
 | none=>
  rw[KL h.q hb];unfold yh;rw[hb];refine yp (v:= .pointer none) rfl (zf (za (ze (zy (ze (z8 (yp (pP rfl) (yp (wz rfl rfl) (yp (pB rfl) (zf (za (zF rfl (ze (z8 (yp pC (zf (za (zH (bret (zX ?_))))))))))))))))))));exact zG (rI rfl) ⟨_,zD.sp,rfl,_,hS0,rfl⟩
 | some i=>
  obtain⟨e,hf,he,rfl,hek⟩:=yN h.q hb;have hpn:=h.q.pn e.i (by rw[←h.q.its]; exact List.mem_map.2 ⟨e,he,rfl⟩);rw[hf];rw[show yh k by_ S=if Qk (e.i.pins+by_) 1000=false then(S,1) else(⟨um S.I (fk k) (e.i.pins+by_),S.P,S.Q,S.V⟩,0) from by unfold yh; rw[hb]];obtain⟨A,B,rfl,hout⟩:=V9 h.q.BO he;refine yp (v:= .pointer (some ⟨e.eb,0,none⟩)) rfl (zf (za ?_));refine zo (S0:=[(p4,.cells (WB k) 43)]::wF sb ab tb mb lb db ev::HA::HT::HM::HL::HD::HV::Es (A++e::B)) ?_ ?_
  ·exact zD.of
  refine zo zD.em (ze (zy (ze (z8 (yp (pP rfl) (yp (wz rfl rfl) (yp (pB rfl) (zf (za (zx rfl (ze (z8 (yp (pP rfl) (yp (zM rfl) (yp (zn rfl) ?_)))))))))))))));refine zh (zB rfl rfl ?_);refine yp (pI rfl) (yp (Vq rfl rfl (by omega)) ?_);refine zh (zk (UU (e.i.pins+by_) 1000) rfl rfl fun r S' h=>?_);obtain⟨rfl,rfl⟩:=h;refine yp (Zd rfl) (yp (pB rfl) (zf (za ?_)));cases hw:Qk (e.i.pins+by_) 1000 with
  | false=>
   rw[if_pos rfl];refine zF rfl (ze (z8 (yp pC (zf (za (zH (bret (zX ?_))))))));exact zG (rI rfl) ⟨_,zD.Nw (e:=e),rfl,_,hS0,rfl⟩
  | true=>
   rw[if_neg (by decide)];have hw2:=(UN _ _).1 hw;refine zx rfl (zq (zT (za (ze (z8 (yp (pP rfl) (yp (zM rfl) (yp (zn rfl) ?_))))))));refine zh (zB rfl rfl ?_);refine yp (pI rfl) (yp (Vq rfl rfl (by omega)) (yp (zM rfl) (yp (zn rfl) ?_)));refine zh (dG rfl rfl (u7 rfl) ?_);refine zf (za (ze (z8 (yp pC (zf (za (zH ?_)))))));have hp2:Sp N ⟨um S.I (fk k) (e.i.pins+by_),S.P,S.Q,S.V⟩ (A++qb (e.i.pins+by_) e::B) D L ab tb mb lb db ev HA HT HM HL HD HV:=by
    refine⟨⟨?_,?_,?_,?_,?_,?_⟩,h.a,h.t,?_,h.l,?_,h.v⟩
    ·rw[fF h.q.BO,h.q.its,hek]
    ·have:(A++qb (e.i.pins+by_) e::B).map En.z=(A++e::B).map En.z:=by rw[List.map_append,List.map_append]; rfl
     rw[this]; exact h.q.pk
    ·show(keys (um _ _ _)).Nodup;rw[X0]; exact h.q.kn
    ·intro i hi;obtain⟨j,hj,rfl⟩:=List.mem_map.1 hi;have:=h.q.kz j hj;show(if j.k=fk k then {j with pins:=e.i.pins+by_} else j).k=Zg (if j.k=fk k then {j with pins:=e.i.pins+by_} else j).s;split<;>exact this
    ·show(S.P++S.Q).Perm (keys (um _ _ _));rw[X0]; exact h.q.pq
    ·intro i hi;obtain⟨j,hj,rfl⟩:=List.mem_map.1 hi;show 0≤(if j.k=fk k then {j with pins:=e.i.pins+by_} else j).pins∧(if j.k=fk k then {j with pins:=e.i.pins+by_} else j).pins≤1000;split
     ·exact hw2
     ·exact h.q.pn j hj
    ·rw[oz];have:(A++qb (e.i.pins+by_) e::B).length=(A++e::B).length:=by simp
     rw[this]; exact h.m
    ·rw[nC]; exact h.d
   exact zG (rI rfl) ⟨_,zD.Nw (e:=qb (e.i.pins+by_) e),rfl,_,Sr.mk hp2,rfl⟩
theorem DI{sb N:Nat}{S:Ss}{H:List Chunk}(hS:Sr sb N S H)(k:Ky)(hkl:k.n.length<2 ^ 62):
 zP Tryz.prog 41 #[.pointer (some ⟨sb,0,none⟩),.agg (WB k)] [H] (fun r S'=>r= .int .i64 (yh k 1 S).2∧∃H',Sr sb N (yh k 1 S).1 H'∧S'=[H']):=by
 refine zP.forget (zl Tryz.M9 (Nat.le_of_ble_eq_true rfl) ?_);unfold Tryz.Nh;refine ze (z8 ?_);refine zh (Zp rfl fun p3=>?_);refine yp pC (zf (za (ze (z8 (yp (pP rfl) ?_)))));refine zh (ZK rfl rfl ?_);refine zh (zk (rH hS k hkl 1 (by decide)) rfl rfl fun r S' h=>?_);obtain⟨rfl,H1,hS1,rfl⟩:=h;refine yp (pI rfl) (zf (za (zH ?_)));exact zG (rI rfl) ⟨[H1],.of,rfl,_,hS1,rfl⟩
theorem Qr{sb N:Nat}{S:Ss}{H:List Chunk}(hS:Sr sb N S H)(k:Ky)(hkl:k.n.length<2 ^ 62):
 zP Tryz.prog 42 #[.pointer (some ⟨sb,0,none⟩),.agg (WB k)] [H] (fun r S'=>r= .int .i64 (yh k (-1) S).2∧∃H',Sr sb N (yh k (-1) S).1 H'∧S'=[H']):=by
 refine zP.forget (zl Tryz.M8 (Nat.le_of_ble_eq_true rfl) ?_);unfold Tryz.Ng;refine ze (z8 ?_);refine zh (Zp rfl fun p3=>?_);refine yp pC (zf (za (ze (z8 (yp (pP rfl) ?_)))));refine zh (ZK rfl rfl ?_);refine zh (zk (rH hS k hkl (-1) (by decide)) rfl rfl fun r S' h=>?_);obtain⟨rfl,H1,hS1,rfl⟩:=h;refine yp (pI rfl) (zf (za (zH ?_)));exact zG (rI rfl) ⟨[H1],.of,rfl,_,hS1,rfl⟩
/-- what Peek tells -/
def HZ(S:Ss)(k:Ky)(H:List Chunk)(r:Value)(S':zw):Prop:=
 (V6 S.I (fk k)=none∧r= .tuple #[.agg Yl,.bool false]∧S'=[H])∨∃i v HR,V6 S.I (fk k)=some i∧r= .tuple #[.agg (mD i v),.bool true]∧Zc 89 v (Zh i.s).rrs HR∧S'=[HR,H]
theorem tL{sb N:Nat}{S:Ss}{H:List Chunk}(hS:Sr sb N S H)(k:Ky)(hkl:k.n.length<2 ^ 62):
 zP Tryz.prog 79 #[.pointer (some ⟨sb,0,none⟩),.agg (WB k)] [H] (HZ S k H):=by
 obtain⟨W,D,L,ab,tb,mb,lb,db,ev,HA,HT,HM,HL,HD,HV,h,rfl⟩:=hS;refine zP.forget (zP.DJ (zl Tryz.EJ (Nat.le_of_ble_eq_true rfl) ?_));unfold Tryz.Ij;refine ze (z8 ?_);refine zh (Zp rfl fun p3=>?_);refine zh (Z6 fun p4=>?_);refine yp pC (zf (za (ze (z8 (yp (pP rfl) ?_)))));refine zh (ZK rfl rfl ?_);refine zh (zk (fA (ab:=ab) (tb:=tb) (lb:=lb) (db:=db) (ev:=ev) h.m k hkl) rfl rfl fun r S' h=>?_);obtain⟨rfl,rfl⟩:=h;cases hb:V6 S.I (fk k) with
 | none=>
  rw[KL h.q hb];refine yp (v:= .pointer none) rfl (zf (za (ze (ze (z8 (yp (pP rfl) (yp (wz rfl rfl) (zf (za (zF rfl (ze (z8 (yp vB ?_)))))))))))));refine zh (ZX rfl rfl rfl rfl rfl ?_);refine yp pC (zf (za (zH (zX ?_))));exact zG (vU (JY (b:=p4) KY K4 rfl rfl) (j6 rfl)) ⟨_,zD.sp,.inl ⟨hb,rfl,rfl⟩⟩
 | some i=>
  obtain⟨e,hf,he,rfl,hek⟩:=yN h.q hb;rw[hf];have hC:=tO (sb:=sb) (mb:=mb) (lb:=lb) (db:=db) (ev:=ev) h.q h.a h.t he;obtain⟨A,B,rfl,hout⟩:=V9 h.q.BO he;refine yp (v:= .pointer (some ⟨e.eb,0,none⟩)) rfl (zf (za ?_));refine zo (S0:=[(p4,.cells Yl 136)]::[(p3,.cells (WB k) 43)]::wF sb ab tb mb lb db ev::HA::HT::HM::HL::HD::HV::Es (A++e::B)) ?_ ?_
  ·exact zD.of
  refine zo (zD.cons zD.em) (ze (ze (z8 (yp (pP rfl) (yp (wz rfl rfl) (zf (za (zx rfl (zq (za (ze (z8 (yp (pP rfl) (yp (pP rfl) ?_))))))))))))));refine zh (zk hC rfl rfl fun r S' h=>?_);obtain⟨v,HR,rfl,hR,rfl⟩:=h;obtain⟨a,c,rfl⟩:=hR.isSlice;refine zh (ZX rfl rfl rfl rfl rfl ?_);refine yp pC (zf (za (zH ?_)));exact zG (vU (JY (b:=p4) KY K4 rfl rfl) (j6 rfl)) ⟨_,zD.ec (x:=HR) (e:=e),.inr ⟨e.i,_,HR,hb,rfl,hR,rfl⟩⟩
theorem BF:isAgg? Tryz.prog 4=some false:=by kernel_rfl
theorem pfx{α:Type}{L:List α}{f:α→Array Value}{pre:List (Array Value)}{x:Array Value}(h:pre++[x]<+:L.map f):∃(hl:pre.length<L.length),x=f L[pre.length]:=by
 obtain⟨t,ht⟩:=h;have h1:(L.map f)[pre.length]?=some x:=by
  rw[←ht,List.append_assoc,List.getElem?_append_right (Nat.le_refl _),Nat.sub_self]; rfl
 rw[List.getElem?_map] at h1;obtain⟨y,hy,rfl⟩:=Option.map_eq_some_iff.1 h1;obtain⟨hl,rfl⟩:=List.getElem?_eq_some_iff.1 hy;exact⟨hl,rfl⟩
theorem yP{f:Ky→Bool}:∀{l:List Ky} {n:Nat} {k:Ky},(∀x∈l.take n,f x=false)→l[n]?=some k→f k=true→l.find? f=some k
 | y::l,0,k,_,hk,hf=>by
  rw[List.getElem?_cons_zero] at hk;obtain rfl:=Option.some.inj hk;rw[List.find?_cons,hf]
 | y::l,n+1,k,hn,hk,hf=>by
  rw[List.getElem?_cons_succ] at hk;rw[List.find?_cons,hn y (by simp)];exact yP (fun x hx=>hn x (by rw[List.take_succ_cons]; exact List.mem_cons_of_mem _ hx)) hk hf
theorem YW{f:Ky→Bool}{l:List Ky}(h:∀x∈l,f x=false):l.find? f=none:=by
 rw[List.find?_eq_none];intro x hx;rw[h x hx]; decide
theorem jl{now:Int}{I:List It}{e:De}(h:e∈upto now (I.map It.de)):e.k∈keys I:=by
 unfold upto at h;have h1:=(List.mem_filter.1 h).1;have h2:=(yF (key:=Uk) (I.map It.de)).mem_iff.1 h1;obtain⟨i,hi,rfl⟩:=List.mem_map.1 h2;exact List.mem_map.2 ⟨i,hi,rfl⟩
theorem KM{S:Ss}{W:List En}{D:List (Option Bt)}{L:List Nm}(hq:Sq S W D L){k:Ky}(h:k∈keys S.I):∃e,Yh W k=some e∧e∈W∧V6 S.I k=some e.i∧free S.I k=decide (e.i.pins=0):=by
 cases hb:V6 S.I k with
 | none=>exact absurd h (vO.1 hb)
 | some i=>
  obtain⟨e,hf,he,rfl,_⟩:=yN hq hb;exact⟨e,hf,he,rfl,by unfold free; rw[hb]⟩
theorem gX{now:Int}{S:Ss}{n:Nat}{e:De}(hn:∀x∈(upto now (S.I.map It.de)).take n,free S.I x.k=false)(he:(upto now (S.I.map It.de))[n]?=some e)(hf:free S.I e.k=true):VR now S=some e.k:=by
 unfold VR due;rw[List.find?_append];have:((upto now (S.I.map It.de)).map (·.k)).find? (free S.I)=some e.k:=yP (n:=n) (fun x hx=>by
  rw[←List.map_take] at hx;obtain⟨y,hy,rfl⟩:=List.mem_map.1 hx;exact hn y hy) (by rw[List.getElem?_map,he]; rfl) hf
 rw[this]; rfl
theorem gW{now:Int}{S:Ss}(hn:∀x∈upto now (S.I.map It.de),free S.I x.k=false):VR now S=(S.P++S.Q).find? (free S.I):=by
 unfold VR due;rw[List.find?_append];have:((upto now (S.I.map It.de)).map (·.k)).find? (free S.I)=none:=YW fun x hx=>by
  obtain⟨y,hy,rfl⟩:=List.mem_map.1 hx;exact hn y hy
 rw[this]; rfl
theorem Yx{α:Type}{L:List α}{n:Nat}(h:n<L.length){p:α→Prop}(hp:∀x∈L.take n,p x)(hx:p L[n]):∀x∈L.take (n+1),p x:=fun x hx'=>by
 rw[List.take_succ_eq_append_getElem h] at hx';rcases List.mem_append.1 hx' with h1 | h1
 ·exact hp x h1
 ·rw[List.mem_singleton.1 h1]; exact hx
abbrev BN(p2 p4 p5 sb:Nat)(k:Ky)(b:Bool):zw:=[[(p2,.cells #[.pointer (some ⟨sb,0,none⟩)] 82)],[(p4,.cells (WB k) 43)],[(p5,.cells #[.bool b] 4)]]
theorem tN{sb N:Nat}{S:Ss}{H:List Chunk}(hS:Sr sb N S H)(now:Int):
 zP Tryz.prog 128 #[.pointer (some ⟨sb,0,none⟩),.int .i64 now] [H] (fun r S'=>r= .tuple #[.agg (WB ((VR now S).getD ⟨[],0⟩)),.bool (VR now S).isSome]∧S'=[H]):=by
 have hnb:=hS.nb;obtain⟨W,D,L,ab,tb,mb,lb,db,ev,HA,HT,HM,HL,HD,HV,h,rfl⟩:=hS;refine zP.forget (zP.DJ (zl Tryz.Gq (Nat.le_of_ble_eq_true rfl) ?_));unfold Tryz.D6;refine ze (z8 ?_);refine zh (dM (j5 rfl) fun p2=>?_);refine zh (Z6 fun p4=>?_);refine zh (Z6 fun p5=>?_);refine zf (za (ze (ze (z8 ?_))));refine zh (zB rfl rfl ?_);refine yp (zM rfl) (yp (zn rfl) ?_);refine zh (zB rfl rfl ?_);refine yp (pI rfl) ?_;refine zh (zk iw rfl rfl fun r S' h=>?_);obtain⟨bd,ba,rfl,rfl⟩:=h;refine zf (za (zy ?_));have hdl:(S.I.map It.de).length<2 ^ 38:=by rw[List.length_map]; omega
 have hmemT:∀{e:En},e∈W→∀{X:zw},Jc e∈X++Es W:=fun he X=>List.mem_append.2 (.inr (Yd he))
 refine XU (fun pre T=>(∀x∈(upto now (S.I.map It.de)).take pre.length,free S.I x.k=false)∧zD T (BN p2 p4 p5 sb ⟨[],0⟩ false++(wF sb ab tb mb lb db ev::HA::HT::HM::HL::HD::HV::Es W)))
  (fun e pre T=>e= .ret∧∃k,VR now S=some k∧zD T (BN p2 p4 p5 sb k true++(wF sb ab tb mb lb db ev::HA::HT::HM::HL::HD::HV::Es W)))
  rfl rfl (jZ (db:=db) (bd:=bd) (ba:=ba) (S0:=BN p2 p4 p5 sb ⟨[],0⟩ false++(wF sb ab tb mb lb db ev::HA::HT::HM::HL::HV::Es W)) h.d hdl now) ⟨by simp,.of⟩ ?_ ?_ ?_ ?_
 ·intro pre x hx;obtain⟨_,rfl⟩:=pfx hx;rfl
 ·rintro l pre x T hx ⟨hn,hJ⟩;obtain⟨hl,rfl⟩:=pfx hx;have hm:=List.getElem_mem hl;have hg:(upto now (S.I.map It.de))[pre.length]?=some (upto now (S.I.map It.de))[pre.length]:=List.getElem?_eq_getElem hl;have hst:=Yx hl hn;generalize (upto now (S.I.map It.de))[pre.length]=d at hm hg hst;obtain⟨e,hf,he,hb,hfr⟩:=KM h.q (jl hm);refine zo hJ (z8 ?_);refine zh (Z6 fun p6=>?_);refine zh (ZX rfl rfl rfl rfl rfl ?_);refine zf (za (zy (ze (Z4 (Z9 rfl rfl (zi (zM rfl) (zi (zn rfl) (Z9 rfl rfl (Wz rfl rfl ?_)))))))));refine Zf (VB h.m (by repeat (first | exact List.mem_cons_self | apply List.mem_cons_of_mem)) d.k UQ o9 sM rfl rfl (Jd hf) ⟨fun _ h=>h,?_⟩) zO;refine zi (zM rfl) (zi (zn rfl) (aQ (v:= .int .i64 e.i.pins) (by repeat (first | exact Yd he | apply List.mem_cons_of_mem)) rfl rfl (zi (WT rfl rfl) (zJ (za ?_)))));by_cases hp:e.i.pins=0
  ·rw[decide_eq_true hp] at hfr ⊢;have hnx:=gX hn hg hfr;refine zF rfl (ze (z8 ?_));refine zh (ZK rfl rfl ?_);refine zh (ZX rfl rfl rfl rfl rfl ?_);refine zh (ZJ rfl rfl (BL rfl) ?_);refine zf (za (zH (bret ?_)));exact⟨rfl,d.k,hnx,.of⟩
  ·rw[decide_eq_false hp] at hfr ⊢;refine zx rfl (zq (zT ?_));exact⟨by rw[List.length_append]; exact hst hfr,.of⟩
 ·rintro xs S' hd ⟨hn,hJ⟩;have hxl:xs.length=(upto now (S.I.map It.de)).length:=by rw[hd,List.length_map]
  rw[hxl,List.take_length] at hn;have hnx:=gW (now:=now) (S:=S) hn;refine zT (za ?_);refine zo hJ (ze (ze (z8 ?_)));refine zh (zB rfl rfl ?_);refine yp (zM rfl) (yp (zn rfl) ?_);refine zh (zB rfl rfl ?_);refine zh (zk nX rfl rfl fun r S' h=>?_);obtain⟨bl,rfl,rfl⟩:=h;refine zf (za (zy ?_));refine XU (fun pre T=>(∀x∈(S.P++S.Q).take pre.length,free S.I x=false)∧zD T (BN p2 p4 p5 sb ⟨[],0⟩ false++(wF sb ab tb mb lb db ev::HA::HT::HM::HL::HD::HV::Es W)))
   (fun e pre T=>e= .ret∧∃k,VR now S=some k∧zD T (BN p2 p4 p5 sb k true++(wF sb ab tb mb lb db ev::HA::HT::HM::HL::HD::HV::Es W)))
   rfl rfl (bI (bl:=bl) (S0:=BN p2 p4 p5 sb ⟨[],0⟩ false++(wF sb ab tb mb lb db ev::HA::HT::HM::HD::HV::Es W)) h.l (by omega) (by omega)) ⟨by simp,.of⟩ ?_ ?_ ?_ ?_
  ·intro pre x hx;obtain⟨_,rfl⟩:=pfx hx;rfl
  ·rintro l pre x T hx ⟨hn2,hJ⟩;obtain⟨hl,rfl⟩:=pfx hx;have hm:=List.getElem_mem hl;have hg:(S.P++S.Q)[pre.length]?=some (S.P++S.Q)[pre.length]:=List.getElem?_eq_getElem hl;have hst:=Yx hl hn2;generalize (S.P++S.Q)[pre.length]=d at hm hg hst;obtain⟨e,hf,he,hb,hfr⟩:=KM h.q (h.q.pq.mem_iff.1 hm);refine zo hJ (z8 ?_);refine zh (Z6 fun p7=>?_);refine zh (ZX rfl rfl rfl rfl rfl ?_);refine zf (za (zy (ze (Z4 (Z9 rfl rfl (zi (zM rfl) (zi (zn rfl) (Z9 rfl rfl (Wz rfl rfl ?_)))))))));refine Zf (VB h.m (by repeat (first | exact List.mem_cons_self | apply List.mem_cons_of_mem)) d UQ o9 sM rfl rfl (Jd hf) ⟨fun _ h=>h,?_⟩) zO;refine zi (zM rfl) (zi (zn rfl) (aQ (v:= .int .i64 e.i.pins) (by repeat (first | exact Yd he | apply List.mem_cons_of_mem)) rfl rfl (zi (WT rfl rfl) (zJ (za ?_)))));by_cases hp:e.i.pins=0
   ·rw[decide_eq_true hp] at hfr ⊢;refine zF rfl (ze (z8 ?_));refine zh (ZK rfl rfl ?_);refine zh (ZX rfl rfl rfl rfl rfl ?_);refine zh (ZJ rfl rfl (BL rfl) ?_);refine zf (za (zH (bret ?_)));exact⟨rfl,d,by rw[hnx]; exact yP hn2 hg hfr,.of⟩
   ·rw[decide_eq_false hp] at hfr ⊢;refine zx rfl (zq (zT ?_));exact⟨by rw[List.length_append]; exact hst hfr,.of⟩
  ·rintro xs S' hd ⟨hn2,hJ⟩;have hxl:xs.length=(S.P++S.Q).length:=by rw[hd,List.length_map]
   rw[hxl,List.take_length] at hn2;rw[YW hn2] at hnx;refine zT (za ?_);refine zo hJ (ze (z8 (yp vB ?_)));refine zh (ZX rfl rfl rfl rfl rfl ?_);refine zh (ZJ rfl rfl (BL rfl) ?_);refine zf (za (zH ?_));rw[hnx];exact zG (vU (JY (b:=p4) pK Qp rfl rfl) (DN (b:=p5) BF rfl)) ⟨_,zD.sp,rfl,rfl⟩
  ·rintro e pre S' _ ⟨rfl,k,hk,hJ⟩;rw[hk];refine bret (zX ?_);exact zG (YH hJ (vU (JY (b:=p4) pK Qp rfl rfl) (DN (b:=p5) BF rfl))) ⟨_,hJ.trans zD.sp,rfl,rfl⟩
 ·rintro e pre S' _ ⟨rfl,k,hk,hJ⟩;rw[hk];refine bret (zX ?_);exact zG (YH hJ (vU (JY (b:=p4) pK Qp rfl rfl) (DN (b:=p5) BF rfl))) ⟨_,hJ.trans zD.sp,rfl,rfl⟩
instance (priority:=low) Sub.appSuf{A S:zw}:Sub (A++S) S A:=⟨by rw[List.flatten_append]; exact List.perm_append_comm⟩
theorem zD.Nv{sb ab tb mb lb db:Nat}{ev:Value}{HA HT HM HL HD HV:List Chunk}{W:List En}{S0:zw}:zD (sH sb ab tb mb lb db ev HA HT HM HL HD HV W::S0) (wF sb ab tb mb lb db ev::HA::HT::HM::HL::HD::HV::(Es W++S0)):=⟨[],by simp[sH]⟩
theorem zD.add{x:List Chunk}{S G S0:zw}{sb ab tb mb lb db:Nat}{ev:Value}{HA HT HM HL HD HV:List Chunk}{W:List En}{e:En}(hx:x=Jc e)[h:Sub S (x::wF sb ab tb mb lb db ev::HA::HT::HM::HL::HD::HV::(Es W++S0)) G]:
 zD S (sH sb ab tb mb lb db ev HA HT HM HL HD HV (W++[e])::S0):=zD.trans (zD.of (h:=h)) ⟨[],by
 subst hx;have e1:Es (W++[e])=Es W++[Jc e]:=Q8 W [e];simp only[sH,e1,List.flatten_cons,List.flatten_nil,List.flatten_append,List.append_nil,List.append_assoc];have:=(xq [] (wF sb ab tb mb lb db ev++(HA++(HT++(HM++(HL++(HD++(HV++(Es W).flatten))))))) (Jc e) S0.flatten).symm;simpa only[List.nil_append,List.append_assoc] using this⟩
theorem zD.Nz{x y:List Chunk}{S G S0:zw}{sb ab tb mb lb db:Nat}{ev:Value}{HA HT HM HL HD HV:List Chunk}{W:List En}[h:Sub S (x::y::wF sb ab tb mb lb db ev::HA::HT::HM::HL::HD::HV::(Es W++S0)) G]:zD S (x::y::sH sb ab tb mb lb db ev HA HT HM HL HD HV W::S0):=zD.trans (zD.of (h:=h)) ⟨[],by simp[sH]⟩
theorem zD.NJ{S G S0:zw}{sb ab tb mb lb db:Nat}{ev:Value}{HA HT HM HL HD HV:List Chunk}{W:List En}[h:Sub S (wF sb ab tb mb lb db ev::HA::HT::HM::HL::HD::HV::(Es W++S0)) G]:zD S (sH sb ab tb mb lb db ev HA HT HM HL HD HV W::S0):=zD.trans (zD.of (h:=h)) ⟨[],by simp[sH]⟩
theorem zP.op{P:Program}{f:FuncId}{args:Array Value}{R:Value→zw→Prop}{sb ab tb mb lb db:Nat}{ev:Value}{HA HT HM HL HD HV:List Chunk}{W:List En}(h:zP P f args [sH sb ab tb mb lb db ev HA HT HM HL HD HV W] R):zP P f args (wF sb ab tb mb lb db ev::HA::HT::HM::HL::HD::HV::Es W) R:=h.perm (by simp[sH])
theorem mY{sb ab tb mb lb db N:Nat}{ev:Value}{D:List (Option Bt)}{HA:List Chunk}(hA:Ar ab N D HA):zP Tryz.prog 127 #[.pointer (some ⟨sb,0,none⟩)] [wF sb ab tb mb lb db ev,HA] (fun r S'=>r= .int .i64 ((N-Ze D:Nat):Int)∧S'=[wF sb ab tb mb lb db ev,HA]):=by
 refine zP.forget (zl Tryz.Gr (Nat.le_of_ble_eq_true rfl) ?_);unfold Tryz.D7;refine ze (z8 (yp pC (zf (za (ze (ze (z8 (yp (pP rfl) (yp (wz rfl rfl) (zf (za (zx rfl (zq (za (ze (z8 (yp (pP rfl) (yp (zM rfl) (yp (zn rfl) ?_)))))))))))))))))));refine zh (zB rfl rfl ?_);refine zh (zk (pJ hA) rfl rfl fun r S' h=>?_);obtain⟨rfl,rfl⟩:=h;refine yp (pI rfl) (zf (za (zH ?_)));exact zG (rI rfl) ⟨_,.of,rfl,rfl⟩
theorem nU{now:Int}{S:Ss}{k:Ky}(h:VR now S=some k):∃i,V6 S.I k=some i∧i.pins=0:=by
 have hf:=List.find?_some h;unfold free at hf;cases hb:V6 S.I k with
 | none=>rw[hb] at hf; cases hf
 | some i=>rw[hb] at hf; exact⟨i,rfl,of_decide_eq_true hf⟩
theorem xB{I:List It}(hn:(keys I).Nodup){k:Ky}{i:It}(h:V6 I k=some i):I.length=(Vk I k).length+1:=by
 obtain⟨hi,rfl⟩:=Jk h;clear h
 induction I with
 | nil=>simp at hi
 | cons j I ih=>
  have hn2:=List.nodup_cons.1 hn;unfold Vk at ih ⊢;rw[List.filter_cons];by_cases hj:j.k=i.k
  ·rw[if_neg (by simp[hj]),List.filter_eq_self.2,List.length_cons];intro y hy;have:y.k≠i.k:=fun q=>hn2.1 (List.mem_map.2 ⟨y,hy,q.trans hj.symm⟩)
   simpa using this
  ·rw[if_pos (by simp[hj]),List.length_cons,List.length_cons,ih hn2.2 ?_];rcases List.mem_cons.1 hi with rfl | hi
   ·exact absurd rfl hj
   ·exact hi
theorem oQ{I:List It}{k k':Ky}(h:V6 I k=none):V6 (Vk I k') k=none:=by
 rw[vO] at h ⊢;rw[Ud];exact fun hm=>h (List.mem_filter.1 hm).1
theorem lD(I:List It)(k:Ky):V6 (Vk I k) k=none:=by
 rw[vO,Ud];intro hm;have:=(List.mem_filter.1 hm).2;simp at this
theorem fE{N:Nat}{K k:Ky}{s:St}{rank now exp:Int}{S:Ss}{i:It}(hn:(keys S.I).Nodup)(h:uY N S<Vx (sets S.I) s)(hk:VR now S=some k)(hb:V6 S.I k=some i):UZ N K s rank now exp S=UZ N K s rank now exp (iT k S):=by
 have hl:=xB hn hb;unfold UZ;have e1:uV N now s S.I.length S=uV N now s (iT k S).I.length (iT k S):=by
  rw[hl,uV,if_pos h,hk]; rfl
 rw[e1]
theorem tV{N:Nat}{K:Ky}{s:St}{rank now exp:Int}{S:Ss}(h:uY N S<Vx (sets S.I) s)(hk:VR now S=none):UZ N K s rank now exp S=(S,4):=by
 unfold UZ;have e1:uV N now s S.I.length S=(S,false):=by
  cases S.I.length with
  | zero=>rw[uV,decide_eq_false (by omega)]
  | succ n=>rw[uV,if_pos h,hk]
 rw[e1]
theorem JQ{N:Nat}{K:Ky}{s:St}{rank now exp:Int}{S:Ss}(h:¬uY N S<Vx (sets S.I) s):UZ N K s rank now exp S=(⟨S.I++[⟨K,s,rank,now,exp,0⟩],S.P++[K],S.Q,S.V⟩,0):=by
 unfold UZ;have e1:uV N now s S.I.length S=(S,true):=by
  cases S.I.length with
  | zero=>rw[uV,decide_eq_true (by omega)]
  | succ n=>rw[uV,if_neg h]
 rw[e1]
theorem Sr.kn{sb N:Nat}{S:Ss}{H:List Chunk}(h:Sr sb N S H):(keys S.I).Nodup:=by
 obtain⟨W,D,L,ab,tb,mb,lb,db,ev,HA,HT,HM,HL,HD,HV,h,rfl⟩:=h;exact h.q.kn
abbrev Ko(p6:Nat)(s:St)(v:Value):List Chunk:=[(p6,.cells (JU s v) 46)]
abbrev Yk(p:Nat)(k:Ky):List Chunk:=[(p,.cells (WB k) 43)]
set_option maxRecDepth 10000 in
set_option maxHeartbeats 1000000 in
theorem DF{sb N:Nat}{S:Ss}{H:List Chunk}{S0:zw}{s:St}{v:Value}(hS:Sr sb N S H)(hs:kM s)(hv:Src S0 v s.rrs)(hV:S.V.length+S.I.length<2 ^ 30)(rank now exp:Int):
 zP Tryz.prog 77 #[.pointer (some ⟨sb,0,none⟩),.agg (JU s v),.int .i64 rank,.int .i64 now,.int .i64 exp] (H::S0) (fun r S'=>r= .int .i64 (VN N s rank now exp S).2∧∃H',Sr sb N (VN N s rank now exp S).1 H'∧S'=H'::S0):=by
 have hsn:=hs.name;refine zP.forget (zl Tryz.LD (Nat.le_of_ble_eq_true rfl) ?_);unfold Tryz.ML;obtain⟨va,vc,rfl⟩:=hv.isSlice;refine ze (z8 ?_);refine zh (Zp rfl fun p6=>?_);refine yp pC (zf (za (ze (ze (z8 ?_)))));refine zh (ZK rfl rfl ?_);refine zh (zk (Kl hs hv) rfl rfl fun r S' h=>?_);obtain⟨rfl,h⟩:=h;have h:=h.symm;subst h;rcases Decidable.em (ZU s≠0) with hE | hE
 ·have hP:VN N s rank now exp S=(S,ZU s):=by unfold VN; rw[if_pos hE]
  rw[hP];refine yp (pU rfl) (yp (pExt rfl rfl) (yp (pExt rfl rfl) (yp (pI rfl) (yp (pI rfl) (zf (za (ze (z8 (yp (pI rfl) (yp (uO rfl rfl) (zf (za ?_))))))))))));rw[decide_eq_false hE];refine zF rfl (ze (z8 (yp (pI rfl) (yp (pI rfl) (zf (za (zH (zX ?_))))))));exact zG (rI rfl) ⟨_,.of,rfl,_,hS,rfl⟩
 have hE:=Decidable.not_not.1 hE;have hP0:VN N s rank now exp S=if qh rank now exp=false then(S,1) else bB N s rank now exp S:=by unfold VN; rw[if_neg (by rw[hE]; decide)]
 rw[hE];refine yp (pU rfl) (yp (pExt rfl rfl) (yp (pExt rfl rfl) (yp (pI rfl) (yp (pI rfl) (zf (za (ze (z8 (yp (pI rfl) (yp (uO rfl rfl) (zf (za (zx rfl (zq (za ?_)))))))))))))));refine Xi (fun E S'=>Has E [(0,.pointer (some ⟨sb,0,none⟩)),(2,.int .i64 rank),(3,.int .i64 now),(4,.int .i64 exp),(6,.pointer (some ⟨p6,0,none⟩))]∧qh rank now exp=true∧zD S' (Ko p6 s (.slice va s.rrs.length vc)::H::S0)) ?_ fun E S' ⟨hE2,hok,hJ⟩=>?_
 ·have hbad:qh rank now exp=false→VN N s rank now exp S=(S,1):=fun h=>by rw[hP0,if_pos h]
  refine ze (z8 (yp (pI rfl) ?_));refine zh (zk (UU now 1099511627776) rfl rfl fun r S' h=>?_);obtain⟨rfl,rfl⟩:=h;cases h1:Qk now 1099511627776 with
  | false=>
   rw[hbad (by unfold qh; rw[h1]; rfl)];refine yp (Zd rfl) (yp (pB rfl) (zW rfl (zW rfl (zW rfl (yp (zK rfl rfl) (yp (pB rfl) (zW rfl (zW rfl (zW rfl (yp (zK rfl rfl) (yp (pB rfl) (zW rfl (zW rfl (zW rfl (yp (zK rfl rfl) (zf (za (zF rfl (ze (z8 (yp pC (zf (za (zH (zX ?_)))))))))))))))))))))))));exact zG (rI rfl) ⟨_,.of,rfl,_,hS,rfl⟩
  | true=>
   refine yp (Zd rfl) (yp (pB rfl) (zY rfl (Z7 (pI rfl) (zY rfl ?_))));refine zk (UU exp 1099511627776) rfl rfl fun r S' h=>?_
   obtain⟨rfl,rfl⟩:=h;cases h2:Qk exp 1099511627776 with
   | false=>
    rw[hbad (by unfold qh; rw[h1,h2]; rfl)];refine zY rfl (Z7 (Zd rfl) (yp (zQ rfl rfl) (yp (pB rfl) (zW rfl (zW rfl (zW rfl (yp (zK rfl rfl) (yp (pB rfl) (zW rfl (zW rfl (zW rfl (yp (zK rfl rfl) (zf (za (zF rfl (ze (z8 (yp pC (zf (za (zH (zX ?_))))))))))))))))))))));exact zG (rI rfl) ⟨_,.of,rfl,_,hS,rfl⟩
   | true=>
    refine zY rfl (Z7 (Zd rfl) (yp (zQ rfl rfl) (yp (pB rfl) (zY rfl (Z7 (pI rfl) (zY rfl (Z7 (pI rfl) (zY rfl (Z7 (jN rfl rfl) (yp (zQ rfl rfl) (yp (pB rfl) ?_)))))))))));by_cases h3:exp≤now
    ·rw[hbad (by unfold qh; rw[h1,h2,decide_eq_true h3]; rfl)];rw[decide_eq_true h3];refine zW rfl (zW rfl (zW rfl (yp (zK rfl rfl) (zf (za (zF rfl (ze (z8 (yp pC (zf (za (zH (zX ?_)))))))))))));exact zG (rI rfl) ⟨_,.of,rfl,_,hS,rfl⟩
    ·rw[decide_eq_false h3];refine zY rfl (Z7 (pI rfl) (zY rfl ?_));refine zk (UU rank 9) rfl rfl fun r S' h=>?_
     obtain⟨rfl,rfl⟩:=h;cases h4:Qk rank 9 with
     | false=>
      rw[hbad (by unfold qh; rw[h4]; simp)];refine zY rfl (Z7 (Zd rfl) (yp (zQ rfl rfl) (zf (za (zF rfl (ze (z8 (yp pC (zf (za (zH (zX ?_))))))))))));exact zG (rI rfl) ⟨_,.of,rfl,_,hS,rfl⟩
     | true=>
      refine zY rfl (Z7 (Zd rfl) (yp (zQ rfl rfl) (zf (za (zx rfl (zq (za ?_)))))));exact⟨⟨rfl,rfl,rfl,rfl,rfl,trivial⟩,by unfold qh; rw[h1,h2,decide_eq_false h3,h4]; rfl,.of⟩
 rw[hok,if_neg (by decide)] at hP0;obtain⟨E0,e0⟩:=zu hE2; subst e0; clear hE2;refine zo hJ (ze (ze (z8 (yp (pP rfl) (yp (wz rfl rfl) (zf (za (zx rfl (zq (za (ze (z8 (yp (zn rfl) ?_)))))))))))));refine zh (wC (l:=[sv s.name,.int .i64 s.typ]) rfl rfl rfl ?_);refine zh (zk (fu ⟨s.name,s.typ⟩ (by show s.name.length<_; omega)) rfl rfl fun r S' h=>?_);obtain⟨rfl,rfl⟩:=h;show YL _ _ _ _ _ (Zi _ (.agg (WB (Zg s))) _) _;refine zh (Z6 fun p13=>?_);refine zh (ZX rfl rfl rfl rfl rfl ?_);refine zf (za ?_);refine Xi (fun E S'=>Has E [(0,.pointer (some ⟨sb,0,none⟩)),(2,.int .i64 rank),(3,.int .i64 now),(4,.int .i64 exp),(6,.pointer (some ⟨p6,0,none⟩)),(13,.pointer (some ⟨p13,0,none⟩))]∧∃S1 H1,Sr sb N S1 H1∧V6 S1.I (Zg s)=none∧VN N s rank now exp S=UZ N (Zg s) s rank now exp S1∧S1.V.length+S1.I.length<2 ^ 30∧zD S' (Yk p13 (Zg s)::Ko p6 s (.slice va s.rrs.length vc)::H1::S0)) ?_ fun E S' ⟨hE2,S1,H1,hS1,hb1,hP1,hV1,hJ⟩=>?_
 ·have hS':=hS;obtain⟨W,D,L,ab,tb,mb,lb,db,ev,HA,HT,HM,HL,HD,HV,h,rfl⟩:=hS;refine zo (S0:=Yk p13 (Zg s)::Ko p6 s (.slice va s.rrs.length vc)::sH sb ab tb mb lb db ev HA HT HM HL HD HV W::S0) zD.of (zo (zD.cons (zD.cons zD.Nv)) (ze (Z4 (zi (pP rfl) (zi (zM rfl) (zi (zn rfl) (Z9 rfl rfl (Wz rfl rfl ?_))))))));cases hb:V6 S.I (Zg s) with
  | none=>
   refine zN (VB h.m (by repeat (first | exact List.mem_cons_self | apply List.mem_cons_of_mem)) (Zg s) UQ o9 sM rfl rfl (He (KL h.q hb)) ?_) zO;refine zi (pP rfl) (zJ (za (ze (z8 (yp (pP rfl) (yp (yu rfl rfl) (zf (za (zx rfl (zq (za ?_)))))))))));exact⟨⟨rfl,rfl,rfl,rfl,rfl,rfl,trivial⟩,S,_,hS',hb,hP0.trans (YJ hb),hV,zD.Nz⟩
  | some i=>
   have hP1:=hP0.trans (X3 hb);obtain⟨e,hf,he,rfl,hek⟩:=yN h.q hb;refine zN (VB h.m (by repeat (first | exact List.mem_cons_self | apply List.mem_cons_of_mem)) (Zg s) UQ o9 sM rfl rfl (Jd hf) ?_) zO;refine zi (pP rfl) (zJ (za (ze (z8 (yp (pP rfl) (yp (yu rfl rfl) (zf (za (zF rfl (ze (ze (z8 (yp (pP rfl) (yp (zM rfl) (yp (zn rfl) ?_)))))))))))))));refine zh (kS (v:= .int .i64 e.i.pins) (by repeat (first | exact List.mem_append.2 (.inl (Yd he)) | apply List.mem_cons_of_mem)) rfl rfl ?_);refine yp (uf rfl rfl) (zf (za ?_));by_cases hp:0<e.i.pins
   ·rw[decide_eq_true hp];rw[if_pos hp] at hP1;rw[hP1];refine zF rfl (ze (z8 (yp pC (zf (za (zH (zX (zX ?_))))))));exact zG (rI rfl) ⟨_,zD.NJ,rfl,_,hS',rfl⟩
   ·rw[decide_eq_false hp];rw[if_neg hp] at hP1;refine zx rfl (zq (za (z8 (yp (pP rfl) ?_))));refine zh (ZK rfl rfl ?_);refine zh (zk (zP.op (fq hS' hb)) rfl rfl fun r S' h=>?_);obtain⟨rfl,H1,hS1,rfl⟩:=h;refine zf (za ?_);have hol:=xB hS'.kn hb;exact⟨⟨rfl,rfl,rfl,rfl,rfl,rfl,trivial⟩,_,H1,hS1,lD _ _,hP1,by show S.V.length+(Vk S.I (Zg s)).length<_; omega,.of⟩
 rw[hP1];clear hP1 hP0 hS hV;obtain⟨E0,e0⟩:=zu hE2; subst e0; clear hE2;refine zo hJ ?_;generalize hR:UZ N (Zg s) s rank now exp S1=R;refine ze (zy ?_);refine Zb (σ:=Ss) (fun S2 E S'=>Has E [(0,.pointer (some ⟨sb,0,none⟩)),(2,.int .i64 rank),(3,.int .i64 now),(4,.int .i64 exp),(6,.pointer (some ⟨p6,0,none⟩)),(13,.pointer (some ⟨p13,0,none⟩))]∧V6 S2.I (Zg s)=none∧UZ N (Zg s) s rank now exp S2=R∧S2.V.length+S2.I.length<2 ^ 30∧∃H2,Sr sb N S2 H2∧zD S' (Yk p13 (Zg s)::Ko p6 s (.slice va s.rrs.length vc)::H2::S0)) (fun S2=>S2.I.length) S1 ⟨⟨rfl,rfl,rfl,rfl,rfl,rfl,trivial⟩,hb1,hR,hV1,H1,hS1,.of⟩ fun S2 E S' ⟨hE2,hb2,hP2,hV2,H2,hS2,hJ⟩=>?_
 clear hS1 hb1 hV1 hR;have hS2':=hS2;obtain⟨W,D,L,ab,tb,mb,lb,db,ev,HA,HT,HM,HL,HD,HV,h,rfl⟩:=hS2;have hnb:=h.nb;obtain⟨E0,e0⟩:=zu hE2; subst e0; clear hE2;refine zo hJ (zo (zD.cons (zD.cons zD.Nv)) (ze (ze (Z4 (zi (pP rfl) (zi (zM rfl) (zi (zn rfl) (Z9 rfl rfl (Wz rfl rfl (zi (pP rfl) ?_))))))))));have hv':Src (Es W++S0) (.slice va s.rrs.length vc) s.rrs:=Src.mono hv fun _ hs=>List.mem_append.2 (.inr hs)
 refine zN (zk (Ag (S:=Es W++S0) h.t hs hv') rfl rfl fun r S' h=>?_) zO;obtain⟨rfl,rfl⟩:=h;refine zN (zk (mY (sb:=sb) (tb:=tb) (mb:=mb) (lb:=lb) (db:=db) (ev:=ev) h.a) rfl rfl fun r S' h=>?_) zO;obtain⟨rfl,rfl⟩:=h;rw[h.q.cost,h.q.left];refine zi (uf rfl rfl) (zJ (za ?_));by_cases hc:uY N S2<Vx (sets S2.I) s
 ·rw[decide_eq_true hc];refine zF rfl (zq (za (zy ?_)));refine zo (S0:=Yk p13 (Zg s)::Ko p6 s (.slice va s.rrs.length vc)::sH sb ab tb mb lb db ev HA HT HM HL HD HV W::S0) ?_ ?_
  ·exact zD.Nz
  refine ze (z8 (yp (pP rfl) (yp (pI rfl) ?_)));refine zh (zk (tN hS2' now) rfl rfl fun r S' h=>?_);obtain⟨rfl,rfl⟩:=h;cases hn:VR now S2 with
  | none=>
   rw[←hP2,tV hc hn];refine yp (pU rfl) (yp (pExt rfl rfl) (yp (pExt rfl rfl) ?_));refine zh (Z6 fun p15=>?_);refine zh (ZX rfl rfl rfl rfl rfl ?_);refine yp (pB rfl) (zf (za (ze (ze (z8 (yp (pB rfl) (yp (Zd rfl) (zf (za (zF rfl (ze (z8 (yp pC (zf (za (zH (zX (bret (zX (bret (zX ?_)))))))))))))))))))));exact zG (rI rfl) ⟨_,.of,rfl,_,hS2',rfl⟩
  | some k=>
   obtain⟨i,hi,_⟩:=nU hn;refine yp (pU rfl) (yp (pExt rfl rfl) (yp (pExt rfl rfl) ?_));refine zh (Z6 fun p15=>?_);refine zh (ZX rfl rfl rfl rfl rfl ?_);refine yp (pB rfl) (zf (za (ze (ze (z8 (yp (pB rfl) (yp (Zd rfl) (zf (za (zx rfl (zq (za (z8 (yp (pP rfl) ?_))))))))))))));refine zh (ZK rfl rfl ?_);refine zh (zk (Qs hS2' hi (by omega)) rfl rfl fun r S' h=>?_);obtain⟨rfl,H3,hS3,rfl⟩:=h;refine zf (zT (za ?_));have hol:=xB hS2'.kn hi;refine⟨iT k S2,⟨⟨rfl,rfl,rfl,rfl,rfl,rfl,trivial⟩,oQ hb2,(fE hS2'.kn hc hn hi).symm.trans hP2,?_,H3,hS3,.of⟩,?_⟩
   ·show(S2.V++[k]).length+(Vk S2.I k).length<_;rw[List.length_append,List.length_singleton]; omega
   ·show(Vk S2.I k).length<_;omega
 ·rw[decide_eq_false hc];have hR:=JQ (K:=Zg s) (rank:=rank) (now:=now) (exp:=exp) hc;rw[←hP2,hR];have hus:=h.q.us hnb.2.1 hnb.1;refine zx rfl (Z0 (zI (zI (Z5 (za (ze (Z4 (zi (pP rfl) (zi (zM rfl) (zi (zn rfl) (Z9 rfl rfl (zi (pP rfl) (zi (zM rfl) (zi (zn rfl) (Z9 rfl rfl (Wz rfl rfl ?_))))))))))))))));refine zN (zk (Ac (S:=Es W++S0) h.t h.a h.q.pk.inn h.q.pk.pos h.q.pk.hs hus hs hv') rfl rfl fun r S' hp=>?_) zO;have hfit:fits N D L s:=by
   unfold fits;rw[h.q.cost];have:=h.q.left (N:=N);omega
  rcases hp with⟨hp,_⟩ | ⟨_,hp,_⟩ | ⟨_,_,HT1,HA1,D1,rfl,hT1,hA1,hI1,hB1,_,rfl⟩
  ·exact absurd hE hp
  ·exact absurd hfit hp
  have hex:=(J9 hE hnb.2.1 ⟨by have:=Qu (VZ hE).1; omega,(VZ hE).2⟩ (yA (VZ hE).1)).1 hfit;refine zi (pU rfl) (zi (pExt rfl rfl) (zi (pExt rfl rfl) (zi (pI rfl) (zi (pI rfl) (zJ (za (ze (ze (z8 (yp (pI rfl) (yp (uO rfl rfl) (zf (za (zx rfl (zq (za (ze (Z4 (zi (pP rfl) (zi (zM rfl) (zi (zn rfl) (Z9 rfl rfl (Wz rfl rfl (zi (pI rfl) (zi (pI rfl) (zi (pI rfl) (zi (pI rfl) (zi (v:= .agg #[.int .i64 ((hnd (wO N D L (Z8 s)).D:Nat):Int),.int .i64 rank,.int .i64 now,.int .i64 exp,.int .i64 0]) rfl ?_))))))))))))))))))))))))))));refine Zf (Zp rfl fun p112=>⟨(by first | exact fun _ h=>List.mem_cons_of_mem _ h | simp),?_⟩) zO;refine zN (pW h.m (Zg s) (⟨some p112⟩:Ptr) UQ o9 rfl rfl rfl fun HM1 hM1=>?_) zO;refine zJ (za (ze (Z4 (zi (pP rfl) (zi (zM rfl) (zi (zn rfl) (Z9 rfl rfl (Wz rfl rfl ?_))))))));refine zN (zk (Eu h.l (by omega) (by omega) (Zg s)) rfl rfl fun r S' h=>?_) zO;obtain⟨rfl,HL1,hL1,rfl⟩:=h;refine zJ (za (ze (Z4 (zi (pP rfl) (zi (zM rfl) (zi (zn rfl) (Z9 rfl rfl (Wz rfl rfl (zi (pI rfl) ?_)))))))));refine zN (zk (Ev h.d (by rw[List.length_map]; omega) (Zg s) exp) rfl rfl fun r S' h=>?_) zO;obtain⟨rfl,HD1,hD1,rfl⟩:=h;refine zJ (za (ze (z8 (yp pC (zf (za (zH ?_)))))));have hfn:=KL h.q hb2;have hnk:=vO.1 hb2;have hnP:¬(Zg s∈S2.P∨Zg s∈S2.Q):=fun hm=>hnk (h.q.pq.mem_iff.1 (List.mem_append.2 hm))
  rw[mh,if_neg hnP] at hL1;rw[qJ hb2] at hD1;have hq:=h.q.put hE hs hex.1 hI1 hB1 hb2 rank now exp p112;generalize hen:(⟨⟨Zg s,s,rank,now,exp,0⟩,((hnd (wO N D L (Z8 s)).D:Nat):Int),(wO N D L (Z8 s)).ids,p112⟩:En)=en at hq;have hM2:Mp mb (Xy (W++[en])) (W++[en]).length HM1:=by
   have e1:Xy (W++[en])=wT (Xy W) (Zg s) (some (⟨some p112⟩:Ptr)):=by rw[oD (by rw[←hen]; exact hfn), ←hen]
   have e2:Xw (Xy W) (Zg s) W.length=(W++[en]).length:=by
    unfold Xw Xy;rw[hfn,List.length_append]; rfl
   rw[e1, ←e2]; exact hM1
  have hD2:Du db ((S2.I++[(⟨Zg s,s,rank,now,exp,0⟩:It)]).map It.de) HD1:=by rw[List.map_append]; exact hD1
  have hse:Jc en=[(p112,.cells #[.int .i64 ((hnd (wO N D L (Z8 s)).D:Nat):Int),.int .i64 rank,.int .i64 now,.int .i64 exp,.int .i64 0] 184)]:=by rw[←hen]
  refine zG (rI rfl) ⟨_,?_,rfl,_,Sr.mk ⟨hq,hA1,hT1,hM2,hL1,hD2,h.v⟩,rfl⟩;exact zD.add hse.symm
def swp(f:Ss × Nat)(k:Ky):Ss × Nat:=if free f.1.I k=true then(iT k f.1,f.2+1) else f
def UR(now:Int)(S:Ss)(n:Nat):Ss × Nat:=((due now S.I).take n).foldl swp (S,0)
def jr(now:Int)(S:Ss):Ss × Nat:=(due now S.I).foldl swp (S,0)
theorem YZ{now:Int}{I:List It}(h:(keys I).Nodup):(due now I).Nodup:=by
 unfold due upto;have h1:=((yF (key:=Uk) (I.map It.de)).map (·.k)).nodup_iff.2 (by rw[List.map_map]; exact h);exact(List.filter_sublist.map De.k).nodup h1
theorem aA{now:Int}{I:List It}{k:Ky}(h:k∈due now I):k∈keys I:=by
 obtain⟨e,he,rfl⟩:=List.mem_map.1 h;exact jl he
structure NK(now:Int)(S:Ss)(n:Nat)(R:Ss × Nat):Prop where
 kn:(keys R.1.I).Nodup
 mem:∀x∈(due now S.I).drop n,x∈keys R.1.I
 len:R.1.V.length+R.1.I.length=S.V.length+S.I.length
 cnt:R.2≤n
theorem oo{S:Ss}{k:Ky}{i:It}(hn:(keys S.I).Nodup)(h:V6 S.I k=some i):(iT k S).V.length+(iT k S).I.length=S.V.length+S.I.length:=by
 have:=xB hn h;show(S.V++[k]).length+(Vk S.I k).length=_;rw[List.length_append,List.length_singleton]; omega
theorem om{I:List It}{k:Ky}(h:free I k=true):∃i,V6 I k=some i∧i.pins=0:=by
 unfold free at h;cases hb:V6 I k with
 | none=>rw[hb] at h; cases h
 | some i=>rw[hb] at h; exact⟨i,rfl,of_decide_eq_true h⟩
theorem Nr{now:Int}{S:Ss}(hn:(keys S.I).Nodup):∀n,n≤(due now S.I).length→NK now S n (UR now S n)
 | 0,_=>⟨hn,fun x hx=>aA hx,rfl,Nat.le_refl 0⟩
 | n+1,hl=>by
  have ih:=Nr (now:=now) hn n (by omega);have hl':n<(due now S.I).length:=by omega
  have e1:UR now S (n+1)=swp (UR now S n) (due now S.I)[n]:=by
   unfold UR;rw[List.take_succ_eq_append_getElem hl',List.foldl_append]; rfl
  have hd:(due now S.I).drop n=(due now S.I)[n]::(due now S.I).drop (n+1):=List.drop_eq_getElem_cons hl';have hnd:=(List.drop_sublist n _).nodup (YZ (now:=now) hn);rw[hd] at hnd;have hnd:=(List.nodup_cons.1 hnd).1;have hm:=ih.mem;rw[hd] at hm;rw[e1];generalize (due now S.I)[n]=k at*
  generalize UR now S n=R at*
  unfold swp;split
  ·next hf=>
   obtain⟨i,hb,_⟩:=om hf;refine⟨((Vj R.1.I k).map _).nodup ih.kn,fun x hx=>?_,(oo ih.kn hb).trans ih.len,by show R.2+1≤n+1; have:=ih.cnt; omega⟩;show x∈keys (Vk R.1.I k);rw[Ud,List.mem_filter];refine⟨hm x (List.mem_cons_of_mem _ hx),?_⟩;have:x≠k:=fun e=>hnd (e▸hx)
   simpa using this
  ·exact⟨ih.kn,fun x hx=>hm x (List.mem_cons_of_mem _ hx),ih.len,by have:=ih.cnt; omega⟩
theorem eU{now:Int}{S:Ss}{n:Nat}(h:n<(due now S.I).length):UR now S (n+1)=swp (UR now S n) (due now S.I)[n]:=by
 unfold UR;rw[List.take_succ_eq_append_getElem h,List.foldl_append]; rfl
theorem sJ:isAgg? Tryz.prog 3=some false:=by kernel_rfl
theorem zD.op2{x y:List Chunk}{sb ab tb mb lb db:Nat}{ev:Value}{HA HT HM HL HD HV:List Chunk}{W:List En}:zD [x,y,sH sb ab tb mb lb db ev HA HT HM HL HD HV W] (x::y::wF sb ab tb mb lb db ev::HA::HT::HM::HL::HD::HV::Es W):=⟨[],by simp[sH]⟩
theorem zD.Ny{x y:List Chunk}{S G:zw}{sb ab tb mb lb db:Nat}{ev:Value}{HA HT HM HL HD HV:List Chunk}{W:List En}[h:Sub S (x::y::wF sb ab tb mb lb db ev::HA::HT::HM::HL::HD::HV::Es W) G]:zD S [x,y,sH sb ab tb mb lb db ev HA HT HM HL HD HV W]:=zD.trans (zD.of (h:=h)) ⟨[],by simp[sH]⟩
theorem eZ(now:Int):zP Tryz.prog 87 #[.pointer none,.int .i64 now] [] (fun r S'=>r= .int .i64 0∧S'=[]):=by
 refine zP.forget (zl Tryz.EH (Nat.le_of_ble_eq_true rfl) ?_);unfold Tryz.Ih;refine ze (z8 ?_);refine zh (dM (j5 rfl) fun p2=>?_);refine zh (Z6 fun p4=>?_);refine zf (za (ze (ze (z8 ?_))));refine zh (zB rfl rfl ?_);refine yp (wz rfl rfl) (zf (za (zF rfl (ze (z8 ?_)))));refine zh (ZJ rfl rfl (u7 rfl) ?_);refine zf (za (zH (zX ?_)));exact zG (YG (DN (b:=p4) sJ rfl)) ⟨[],.of,rfl,rfl⟩
abbrev mW(p2 p4 sb c:Nat):zw:=[[(p2,.cells #[.pointer (some ⟨sb,0,none⟩)] 82)],[(p4,.cells #[.int .i64 (c:Int)] 3)]]
theorem mX{sb N:Nat}{S:Ss}{H:List Chunk}(hS:Sr sb N S H)(now:Int)(hV:S.V.length+S.I.length<2 ^ 30):
 zP Tryz.prog 87 #[.pointer (some ⟨sb,0,none⟩),.int .i64 now] [H] (fun r S'=>r= .int .i64 ((jr now S).2:Nat)∧∃H',Sr sb N (jr now S).1 H'∧S'=[H']):=by
 have hnb:=hS.nb;have hS0:=hS;have hkn:=hS.kn;obtain⟨W,D,L,ab,tb,mb,lb,db,ev,HA,HT,HM,HL,HD,HV,h,rfl⟩:=hS;refine zP.forget (zP.DJ (zl Tryz.EH (Nat.le_of_ble_eq_true rfl) ?_));unfold Tryz.Ih;refine ze (z8 ?_);refine zh (dM (j5 rfl) fun p2=>?_);refine zh (Z6 fun p4=>?_);refine zf (za (ze (ze (z8 ?_))));refine zh (zB rfl rfl ?_);refine yp (wz rfl rfl) (zf (za (zx rfl (zq (za (ze (ze (z8 ?_))))))));refine zh (zB rfl rfl ?_);refine yp (zM rfl) (yp (zn rfl) ?_);refine zh (zB rfl rfl ?_);refine yp (pI rfl) ?_;refine zh (zk iw rfl rfl fun r S' h=>?_);obtain⟨bd,ba,rfl,rfl⟩:=h;refine zf (za (zy ?_));have hdl:(S.I.map It.de).length<2 ^ 38:=by rw[List.length_map]; omega
 have hdue:(due now S.I).length=(upto now (S.I.map It.de)).length:=by unfold due; rw[List.length_map]
 refine XU (fun pre T=>pre.length≤(due now S.I).length∧∃H',Sr sb N (UR now S pre.length).1 H'∧zD T (mW p2 p4 sb (UR now S pre.length).2++[H']))
  (fun e pre T=>False)
  rfl rfl (jZ (db:=db) (bd:=bd) (ba:=ba) (S0:=mW p2 p4 sb 0++(wF sb ab tb mb lb db ev::HA::HT::HM::HL::HV::Es W)) h.d hdl now) ⟨Nat.zero_le _,_,hS0,(show(mW p2 p4 sb (UR now S ([]:List (Array Value)).length).2)=mW p2 p4 sb 0 from rfl)▸zD.Ny⟩ ?_ ?_ ?_ ?_
 ·intro pre x hx;obtain⟨_,rfl⟩:=pfx hx;rfl
 ·rintro l pre x T hx ⟨hle,H1,hS1,hJ⟩;obtain⟨hl,rfl⟩:=pfx hx;have hl2:pre.length<(due now S.I).length:=by omega
  have hI:=Nr (now:=now) hkn pre.length hle;have hst:=eU hl2;have hmem:=hI.mem;rw[List.drop_eq_getElem_cons hl2] at hmem;have hk0:(due now S.I)[pre.length]=(upto now (S.I.map It.de))[pre.length].k:=by simp only[due,List.getElem_map]
  rw[hk0] at hst hmem;generalize (upto now (S.I.map It.de))[pre.length]=d at hst hmem;have hkm:=hmem d.k (by simp);have hcnt:=hI.cnt;have hlen:=hI.len;have hpl:(pre++[dB d]).length=pre.length+1:=by rw[List.length_append]; rfl
  generalize UR now S pre.length=R at hS1 hJ hst hkm hcnt hlen;have hle2:(pre++[dB d]).length≤(due now S.I).length:=by omega
  have hS1':=hS1;obtain⟨W1,D1,L1,ab1,tb1,mb1,lb1,db1,ev1,HA1,HT1,HM1,HL1,HD1,HV1,h1,rfl⟩:=hS1;obtain⟨e,hf,he,hb,hfr⟩:=KM h1.q hkm;refine zo hJ (zo zD.op2 (z8 ?_));refine zh (Z6 fun p5=>?_);refine zh (ZX rfl rfl rfl rfl rfl ?_);refine zf (za (zy (ze (Z4 (Z9 rfl rfl (zi (zM rfl) (zi (zn rfl) (Z9 rfl rfl (Wz rfl rfl ?_)))))))));refine Zf (VB h1.m (by repeat (first | exact List.mem_cons_self | apply List.mem_cons_of_mem)) d.k UQ o9 sM rfl rfl (Jd hf) ⟨fun _ h=>h,?_⟩) zO;refine zi (zM rfl) (zi (zn rfl) (aQ (v:= .int .i64 e.i.pins) (by repeat (first | exact Yd he | apply List.mem_cons_of_mem)) rfl rfl (zi (WT rfl rfl) (zJ (za ?_)))));by_cases hp:e.i.pins=0
  ·rw[decide_eq_true hp] at hfr ⊢;have e1:swp R d.k=(iT d.k R.1,R.2+1):=by unfold swp; rw[if_pos hfr]
   refine zF rfl (ze (z8 ?_));refine zh (zB rfl rfl ?_);refine zh (ZK rfl rfl ?_);refine zh (zk (zP.op (Qs hS1' hb (by omega))) rfl rfl fun r S' h=>?_);obtain⟨rfl,H2,hS2,rfl⟩:=h;have hR2:R.2<2 ^ 40:=by
    have:(due now S.I).length≤S.I.length:=by
     have:=(YZ (now:=now) hkn).length_le_of_subset (fun x hx=>aA hx:due now S.I ⊆ keys S.I);unfold keys at this;rw[List.length_map] at this;exact this
    omega
   refine zf (za (z8 ?_));refine zh (zB rfl rfl ?_);refine yp (Zj rfl rfl (by omega)) ?_;refine zh (ZJ rfl rfl (u7 rfl) ?_);refine zf (zT ?_);refine⟨hle2,H2,?_,?_⟩
   ·rw[hpl,hst,e1]; exact hS2
   ·rw[hpl,hst,e1]; exact .of
  ·rw[decide_eq_false hp] at hfr ⊢;have e1:swp R d.k=R:=by unfold swp; rw[if_neg (by rw[hfr]; decide)]
   refine zx rfl (zq (zT ?_));refine⟨hle2,sH sb ab1 tb1 mb1 lb1 db1 ev1 HA1 HT1 HM1 HL1 HD1 HV1 W1,?_,?_⟩
   ·rw[hpl,hst,e1]; exact hS1'
   ·rw[hpl,hst,e1]; exact zD.Ny
 ·rintro xs S' hd ⟨hn,H1,hS1,hJ⟩;have hxl:xs.length=(due now S.I).length:=by rw[hd,List.length_map,hdue]
  have e1:UR now S xs.length=jr now S:=by unfold UR jr; rw[hxl,List.take_length]
  rw[e1] at hS1 hJ;refine zT (za ?_);refine zo hJ (ze (z8 ?_));refine zh (zB rfl rfl ?_);refine zh (ZJ rfl rfl (u7 rfl) ?_);refine zf (za (zH ?_));exact zG (YG (DN (b:=p4) sJ rfl)) ⟨[H1],.of,rfl,_,hS1,rfl⟩
 ·rintro e pre S' _ h;exact h.elim
end Go.Proofs.YtekgciopamkjlaaGreat
