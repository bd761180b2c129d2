/- Stores (chapter 10), plainly: what is there, who goes next, what each act makes of it. Stores (chapter 10): their memory; New, Used, Left, Count, Evicted. Stores (chapter 10): find, item, gone, evict. Stores (chapter 10): gone, evict, Drop, pin, Peek, Get. Stores (chapter 10): Drop, Pin, Unpin, Peek, Get. Stores (chapter 10): Peek, Get. Stores (chapter 10): who goes next. Stores (chapter 10): Put. Stores (chapter 10): Sweep. -/
import Derived.Test.YtekgciopamkjlaaGreatP4
import Derived.Test.YtekgciopamkjlaaGreatL1
import Derived.Test.YtekgciopamkjlaaGreatI1
import Derived.Test.YtekgciopamkjlaaGreatFStore
namespace Go.Proofs.YtekgciopamkjlaaGreat
open Go.Xs
open Enc (enc)
structure Ptr where
 a:Option Nat
instance:Vv Ptr:=⟨fun p=> .pointer (p.a.map fun b=>⟨b,0,none⟩)⟩
/-- an item -/
structure It where
 k:Ky
 s:St
 rank:Int
 came:Int
 exp:Int
 pins:Int
/-- .. its handle, its names' handles, its place -/
structure En where
 i:It
 h:Int
 ids:List Int
 eb:Nat
def En.z(e:En):LS:=⟨e.h,e.i.s,e.ids⟩
def It.de(i:It):De:=⟨i.k,i.exp⟩
def fk(k:Ky):Ky:=⟨zC k.n,k.t⟩
structure Ss where
 I:List It
 P:List Ky
 Q:List Ky
 V:List Ky
def keys(I:List It):List Ky:=I.map (·.k)
def sets(I:List It):List St:=I.map (·.s)
def VJ(I:List It)(k:Ky):Option It:=I.find? fun i=>decide (i.k=k)
def uN(I:List It)(k:Ky):List It:=I.filter fun i=> !decide (i.k=k)
def free(I:List It)(k:Ky):Bool:=match VJ I k with | some i=>decide (i.pins=0) | none=>false
def YR(k:Ky)(S:Ss):Ss:=⟨uN S.I k,S.P.erase k,S.Q.erase k,S.V⟩
def tK(k:Ky)(S:Ss):Ss:=⟨uN S.I k,S.P.erase k,S.Q.erase k,S.V++[k]⟩
def due(now:Int)(I:List It):List Ky:=(upto now (I.map It.de)).map (·.k)
def VW(now:Int)(S:Ss):Option Ky:=(due now S.I++(S.P++S.Q)).find? (free S.I)
def uV(N:Nat)(S:Ss):Int:=((N-uR (sets S.I):Nat):Int)
def uT(N:Nat)(now:Int)(s:St):Nat→Ss→Ss × Bool
 | 0,S=>(S,decide (Vx (sets S.I) s≤uV N S))
 | f+1,S=>if uV N S<Vx (sets S.I) s then(match VW now S with | none=>(S,false) | some k=>uT N now s f (tK k S)) else(S,true)
def UO(N:Nat)(k:Ky)(s:St)(rank now exp:Int)(S:Ss):Ss × Int:=match uT N now s S.I.length S with
 | (S',true)=>(⟨S'.I++[⟨k,s,rank,now,exp,0⟩],S'.P++[k],S'.Q,S'.V⟩,0)
 | (S',false)=>(S',4)
def rW(n most:Int):Bool:=decide (0≤n) && decide (n≤most)
def gY(rank now exp:Int):Bool:=rW now 1099511627776 && rW exp 1099511627776 && !decide (exp≤now) && rW rank 9
def ZA(s:St):Ky:=fk ⟨s.name,s.typ⟩
def bg(N:Nat)(s:St)(rank now exp:Int)(S:Ss):Ss × Int:=match VJ S.I (ZA s) with
 | some i=>if 0<i.pins then(S,6) else UO N (ZA s) s rank now exp (YR (ZA s) S)
 | none=>UO N (ZA s) s rank now exp S
theorem bf{N:Nat}{s:St}{rank now exp:Int}{S:Ss}{i:It}(h:VJ S.I (ZA s)=some i):bg N s rank now exp S=if 0<i.pins then(S,6) else UO N (ZA s) s rank now exp (YR (ZA s) S):=by unfold bg; rw[h]
theorem YF{N:Nat}{s:St}{rank now exp:Int}{S:Ss}(h:VJ S.I (ZA s)=none):bg N s rank now exp S=UO N (ZA s) s rank now exp S:=by unfold bg; rw[h]
def Uv(N:Nat)(s:St)(rank now exp:Int)(S:Ss):Ss × Int:=
 if wh s≠0 then(S,wh s) else if gY rank now exp=false then(S,1) else bg N s rank now exp S
/-! ### who is there -/
def Yh(W:List En)(k:Ky):Option En:=W.find? fun e=>decide (e.i.k=k)
def Yc(W:List En)(k:Ky):Option Ptr:=(Yh W k).map fun e=>⟨some e.eb⟩
def UY(W:List En)(k:Ky):List En:=W.filter fun e=> !decide (e.i.k=k)
theorem J6{W:List En}{k:Ky}{e:En}(h:Yh W k=some e):e∈W∧e.i.k=k:=⟨List.mem_of_find?_eq_some h,by simpa using List.find?_some h⟩
theorem aC(W:List En)(k:Ky):VJ (W.map (·.i)) k=(Yh W k).map (·.i):=by
 unfold VJ Yh;rw[List.find?_map];rfl
theorem Jg{I:List It}{k:Ky}{i:It}(h:VJ I k=some i):i∈I∧i.k=k:=⟨List.mem_of_find?_eq_some h,by simpa using List.find?_some h⟩
theorem vP{I:List It}{k:Ky}:VJ I k=none↔k ∉ keys I:=by
 unfold VJ;rw[List.find?_eq_none];constructor
 ·intro h hk;obtain⟨i,hi,rfl⟩:=List.mem_map.1 hk;have:=h i hi;simp at this
 ·intro h i hi;have:i.k≠k:=fun e=>h (List.mem_map.2 ⟨i,hi,e⟩)
  simpa using this
theorem BJ(W:List En)(k:Ky):(UY W k).map (·.i)=uN (W.map (·.i)) k:=by
 unfold UY uN;rw[List.filter_map];rfl
theorem xY(I:List It)(k:Ky):keys (uN I k)=(keys I).filter fun x=> !decide (x=k):=by
 unfold uN keys;rw[List.filter_map];rfl
theorem iV{W:List En}{k x:Ky}(h:x≠k):Yh (UY W k) x=Yh W x:=by
 unfold Yh UY
 induction W with
 | nil=>rfl
 | cons e W ih=>
  rw[List.filter_cons,List.find?_cons];by_cases hk:e.i.k=k
  ·rw[if_neg (by simp[hk]),ih,decide_eq_false (show ¬e.i.k=x from fun q=>h (q.symm.trans hk))]
  ·rw[if_pos (by simp[hk]),List.find?_cons,ih]
theorem bK(W:List En)(k:Ky):Yh (UY W k) k=none:=by
 unfold Yh;rw[List.find?_eq_none];intro e he;have:=(List.mem_filter.1 he).2;simpa using this
theorem pJ(W:List En)(k:Ky):Yc (UY W k)=wT (Yc W) k none:=by
 funext x;unfold Yc wT;split
 ·next e=>rw[e,bK]; rfl
 ·next e=>rw[iV e]
theorem pK{W:List En}{e:En}(h:Yh W e.i.k=none):Yc (W++[e])=wT (Yc W) e.i.k (some ⟨some e.eb⟩):=by
 funext x;unfold Yc wT Yh;rw[List.find?_append,List.find?_singleton];by_cases q:x=e.i.k
 ·subst q;have h2:W.find? (fun y=>decide (y.i.k=e.i.k))=none:=h;rw[if_pos rfl,if_pos (decide_eq_true rfl),h2];rfl
 ·rw[if_neg q,if_neg (by simpa using fun r=>q r.symm),Option.or_none]
theorem gT{W:List En}{k:Ky}(h:∀e∈W,e.i.k≠k):UY W k=W:=List.filter_eq_self.2 fun e he=>by simpa using h e he
/-- one of them, and the others -/
theorem VQ:∀{W:List En} {e:En},(keys (W.map (·.i))).Nodup→e∈W→∃A B,W=A++e::B∧UY W e.i.k=A++B
 | y::W,e,hn,he=>by
  have hn2:=List.nodup_cons.1 hn;rcases List.mem_cons.1 he with rfl | he
  ·refine⟨[],W,rfl,?_⟩;unfold UY;rw[List.filter_cons,if_neg (by simp)];exact gT fun x hx q=>hn2.1 (List.mem_map.2 ⟨x.i,List.mem_map.2 ⟨x,hx,rfl⟩,q⟩)
  ·obtain⟨A,B,h1,h2⟩:=VQ hn2.2 he;refine⟨y::A,B,by rw[h1]; rfl,?_⟩;have:y.i.k≠e.i.k:=fun q=>hn2.1 (List.mem_map.2 ⟨e.i,List.mem_map.2 ⟨e,he,rfl⟩,q.symm⟩)
   unfold UY at h2 ⊢;rw[List.filter_cons,if_pos (by simpa using this),h2]; rfl
theorem ku:∀{I:List It} {k:Ky},(keys I).Nodup→Vu k (I.map It.de)=(uN I k).map It.de
 | [],_,_=>rfl
 | i::I,k,hn=>by
  have hn2:=List.nodup_cons.1 hn;have ih:=ku (k:=k) hn2.2;unfold Vu at ih ⊢;unfold uN at ih ⊢;rw[List.map_cons,idx];by_cases hk:i.k=k
  ·rw[if_pos (show i.de.k=k from hk),List.filter_cons,if_neg (by simp[hk])];have:I.filter (fun i=> !decide (i.k=k))=I:=List.filter_eq_self.2 fun j hj=>by
    have:j.k≠k:=fun e=>hn2.1 (List.mem_map.2 ⟨j,hj,e.trans hk.symm⟩)
    simpa using this
   rw[this]; rfl
  ·rw[if_neg (show ¬i.de.k=k from hk),List.filter_cons,if_pos (by simp[hk])];cases hx:idx k (I.map It.de) with
   | none=>rw[hx] at ih; simp only[Option.map_none,List.map_cons]; rw[←ih]
   | some j=>rw[hx] at ih; simp only[Option.map_some,List.map_cons,List.eraseIdx_cons_succ]; rw[←ih]
theorem qF{I:List It}{k:Ky}(h:VJ I k=none):Vu k (I.map It.de)=I.map It.de:=by
 have:∀J:List It,k ∉ keys J→idx k (J.map It.de)=none:=fun J=>by
  induction J with
  | nil=>intro _; rfl
  | cons i J ih=>
   intro hk;have h1:i.de.k≠k:=fun e=>hk (List.mem_map.2 ⟨i,by simp,e⟩)
   rw[List.map_cons,idx,if_neg h1,ih fun hj=>hk (List.mem_cons_of_mem _ hj)]; rfl
 unfold Vu;rw[this I (vP.1 h)]
theorem qD{P Q:List Ky}{I:List It}{k:Ky}(hn:(keys I).Nodup)(h:(P++Q).Perm (keys I)):(P.erase k++Q.erase k).Perm (keys (uN I k)):=by
 have hp:=h.nodup_iff.2 hn;obtain⟨h1,h2,_⟩:=List.nodup_append.1 hp;rw[xY,h1.erase_eq_filter,h2.erase_eq_filter, ←List.filter_append];have:=h.filter fun x=> !decide (x=k)
 refine .trans (.of_eq ?_) this;congr 1
/-! ### what is there, by the arena's blocks -/
theorem Pk.OC{D:List (Option Bt)}{L:List Nm}{Z Z':List LS}(h:Pk D L Z)(p:Z.Perm Z'):Pk D L Z':=by
 have pB:(Y7 Z).Perm (Y7 Z'):=p.map _;refine⟨⟨h.inn.dis,h.inn.blk,fun x hx=>h.inn.oth x (pB.mem_iff.2 hx),fun i b hb=>(h.inn.all i b hb).imp id fun⟨x,hx,h2⟩=>⟨x,pB.mem_iff.1 hx,h2⟩,h.inn.us,h.inn.fold⟩,⟨h.liv.dis,fun e he=>?_,h.liv.pos,fun i hi=>h.liv.ids i ?_⟩,?_,fun z hz=>h.ok z (p.mem_iff.2 hz)⟩
 ·rw[h.liv.us e he];exact((p.map _).flatten).count_eq _
 ·exact((p.map _).flatten).mem_iff.2 hi
 ·exact(pB.map _).nodup_iff.1 h.hs
structure Sq(S:Ss)(W:List En)(D:List (Option Bt))(L:List Nm):Prop where
 its:W.map (·.i)=S.I
 pk:Pk D L (W.map En.z)
 kn:(keys S.I).Nodup
 kz:∀i∈S.I,i.k=ZA i.s
 pq:(S.P++S.Q).Perm (keys S.I)
 pn:∀i∈S.I,0≤i.pins∧i.pins≤1000
theorem Sq.sets{S:Ss}{W:List En}{D:List (Option Bt)}{L:List Nm}(h:Sq S W D L):(W.map En.z).map (·.s)=sets S.I:=by
 unfold Go.Proofs.YtekgciopamkjlaaGreat.sets;rw[←h.its,List.map_map,List.map_map];rfl
theorem Sq.used{S:Ss}{W:List En}{D:List (Option Bt)}{L:List Nm}(h:Sq S W D L):Zh D=uR (Go.Proofs.YtekgciopamkjlaaGreat.sets S.I):=by rw[h.pk.use,h.sets]
theorem Sq.left{N:Nat}{S:Ss}{W:List En}{D:List (Option Bt)}{L:List Nm}(h:Sq S W D L):((N-Zh D:Nat):Int)=uV N S:=by rw[h.used]; rfl
theorem Sq.cost{S:Ss}{W:List En}{D:List (Option Bt)}{L:List Nm}(h:Sq S W D L)(s:St):uY L s=Vx (Go.Proofs.YtekgciopamkjlaaGreat.sets S.I) s:=by rw[h.pk.cst,h.sets]
theorem Sq.few{N:Nat}{S:Ss}{W:List En}{D:List (Option Bt)}{L:List Nm}(h:Sq S W D L)(hN:Zh D≤N):16*W.length≤N:=by
 have h1:=h.pk.inn.used h.pk.hs;have h2:∀B:List (Int × Bs),16*B.length≤(B.map fun x=>zZ x.2.length).sum:=fun B=>by
  induction B with
  | nil=>exact Nat.le_refl _
  | cons x B ih=>
   have:=yR x.2.length;rw[List.map_cons,List.sum_cons,List.length_cons]; omega
 have h3:=h2 (Y7 (W.map En.z));have h4:(Y7 (W.map En.z)).length=W.length:=by unfold Y7; simp
 omega
theorem CF{L:List Nm}{Z:List LS}(h:∀z∈Z,wh z.s=0∧kK z.s∧Al L z.ids ((Zb z.s).map zC)):(jh Z).length≤66*Z.length:=by
 induction Z with
 | nil=>exact Nat.le_refl _
 | cons z Z ih=>
  have h1:=ih fun y hy=>h y (List.mem_cons_of_mem _ hy)
  obtain⟨h2,_,h3⟩:=h z (by simp);have h4:=h3.len;have h5:=VT z.s;have h6:=(VY (u7 h2).1).2.2.2.2.2.2.1;rw[List.length_map] at h4;unfold jh at h1 ⊢;rw[List.map_cons,List.flatten_cons,List.length_append,List.length_cons];omega
theorem Sq.us{N:Nat}{S:Ss}{W:List En}{D:List (Option Bt)}{L:List Nm}(h:Sq S W D L)(hN:Zh D≤N)(hb:N≤1048576):∀e∈L,e.u<2 ^ 50:=fun e he=>by
 have h1:=h.few hN;have h2:=CF (L:=L) h.pk.ok;rw[List.length_map] at h2;have:=h.pk.us h2 e he;omega
theorem Sq.len{S:Ss}{W:List En}{D:List (Option Bt)}{L:List Nm}(h:Sq S W D L):W.length=S.I.length∧S.P.length+S.Q.length=S.I.length:=by
 refine⟨by rw[←h.its,List.length_map],?_⟩;have:=h.pq.length_eq;rw[List.length_append] at this;unfold keys at this;rw[List.length_map] at this;exact this
theorem Sq.L8{S:Ss}{W:List En}{D:List (Option Bt)}{L:List Nm}(h:Sq S W D L):(keys (W.map (·.i))).Nodup:=by rw[h.its]; exact h.kn
theorem Sq.Le{S:Ss}{W:List En}{D:List (Option Bt)}{L:List Nm}(h:Sq S W D L){e:En}(he:e∈W):uw (W.map En.z) e.h=(UY W e.i.k).map En.z:=by
 obtain⟨A,B,h1,h2⟩:=VQ h.L8 he;rw[h2,h1];have hh:=h.pk.hs;unfold Hs Y7 at hh;rw[h1,List.map_map,List.map_map,List.map_append,List.map_cons] at hh;obtain⟨_,h4,h5⟩:=List.nodup_append.1 hh;have h6:=(List.nodup_cons.1 h4).1;unfold uw;rw[List.map_append,List.filter_append,List.map_cons,List.filter_cons,if_neg (by show ¬((En.z e).h !=e.h)=true; simp[En.z]),List.map_append];congr 1
 ·refine List.filter_eq_self.2 fun z hz=>?_
  obtain⟨y,hy,rfl⟩:=List.mem_map.1 hz;have:y.h≠e.h:=h5 y.h (List.mem_map.2 ⟨y,hy,rfl⟩) e.h (by show e.h∈e.h::_; exact List.mem_cons_self);simpa[En.z] using this
 ·refine List.filter_eq_self.2 fun z hz=>?_
  obtain⟨y,hy,rfl⟩:=List.mem_map.1 hz;have:y.h≠e.h:=fun q=>h6 (List.mem_map.2 ⟨y,hy,q⟩)
  simpa[En.z] using this
theorem VR(I:List It)(k:Ky):(uN I k).Sublist I:=List.filter_sublist
theorem Sq.gone{S:Ss}{W:List En}{D D':List (Option Bt)}{L:List Nm}(h:Sq S W D L){e:En}(he:e∈W)(hI:vC D' (drops L e.ids) (jT (Y7 (W.map En.z)) e.h)):Sq (YR e.i.k S) (UY W e.i.k) D' (drops L e.ids):=by
 have hz:e.z∈W.map En.z:=List.mem_map.2 ⟨e,he,rfl⟩;have h1:=h.pk.drop hz hI;have h2:uw (W.map En.z) e.z.h=_:=h.Le he;rw[h2] at h1;refine⟨?_,h1,?_,fun i hi=>h.kz i ((VR _ _).subset hi),qD h.kn h.pq,fun i hi=>h.pn i ((VR _ _).subset hi)⟩
 ·rw[BJ,h.its]; rfl
 ·exact((VR S.I e.i.k).map _).nodup h.kn
theorem Sq.ev{S:Ss}{W:List En}{D:List (Option Bt)}{L:List Nm}{V:List Ky}(h:Sq S W D L):Sq ⟨S.I,S.P,S.Q,V⟩ W D L:=⟨h.its,h.pk,h.kn,h.kz,h.pq,h.pn⟩
theorem Sq.nil:Sq ⟨[],[],[],[]⟩ [] [] []:=⟨rfl,Pk.nil,List.nodup_nil,fun i hi=>by simp at hi,.nil,fun i hi=>by simp at hi⟩
theorem Sq.put{N:Nat}{S:Ss}{W:List En}{D D':List (Option Bt)}{L:List Nm}(h:Sq S W D L){s:St}(hE:wh s=0)(hs:kK s)(he:(wO N D L (Zb s)).e=0)
 (hI:vC D' (wO N D L (Zb s)).L ((((hnd (wO N D L (Zb s)).D:Nat):Int),Wu s (wO N D L (Zb s)).ids)::Y7 (W.map En.z))) (hh:Hs ((((hnd (wO N D L (Zb s)).D:Nat):Int),Wu s (wO N D L (Zb s)).ids)::Y7 (W.map En.z)))
 (hk:VJ S.I (ZA s)=none) (rank came exp:Int) (eb:Nat):
 Sq ⟨S.I++[⟨ZA s,s,rank,came,exp,0⟩],S.P++[ZA s],S.Q,S.V⟩ (W++[⟨⟨ZA s,s,rank,came,exp,0⟩,((hnd (wO N D L (Zb s)).D:Nat):Int),(wO N D L (Zb s)).ids,eb⟩]) D' (wO N D L (Zb s)).L:=by
 have h1:=h.pk.put hE hs he hI hh;refine⟨by rw[List.map_append,h.its]; rfl,?_,?_,?_,?_,?_⟩
 ·rw[List.map_append];exact h1.OC (List.perm_append_singleton _ _).symm
 ·unfold keys;rw[List.map_append];refine List.nodup_append.2 ⟨h.kn,by simp,fun a ha b hb q=>?_⟩;simp at hb;exact vP.1 hk (by rw[←hb, ←q]; exact ha)
 ·intro i hi;rcases List.mem_append.1 hi with hi | hi
  ·exact h.kz i hi
  ·rw[List.mem_singleton.1 hi]
 ·unfold keys;rw[List.map_append];have:((S.P++[ZA s])++S.Q).Perm ((S.P++S.Q)++[ZA s]):=by
   rw[List.append_assoc,List.append_assoc];exact .append_left _ List.perm_append_comm
  exact this.trans (h.pq.append_right _)
 ·intro i hi;rcases List.mem_append.1 hi with hi | hi
  ·exact h.pn i hi
  ·rw[List.mem_singleton.1 hi];exact⟨Int.le_refl 0,by show(0:Int)≤1000; omega⟩
theorem Xh:Tryz.prog.underlying 144=some (.map 43 182):=by kernel_rfl
theorem sP:Key.ok Ky Tryz.prog 43:=show sQ Tryz.prog 43=true by kernel_rfl
theorem CJ:(Tryz.prog.info? 182).bind (·.zero)=some (.pointer none):=by kernel_rfl
theorem rA:isAgg? Tryz.prog 43=some true:=by kernel_rfl
abbrev OH(e:En):Array Value:= #[.int .i64 e.h,.int .i64 e.i.rank,.int .i64 e.i.came,.int .i64 e.i.exp,.int .i64 e.i.pins]
abbrev qC(e:En):List Chunk:=[(e.eb,.cells (OH e) 184)]
def Es(W:List En):zB:=W.map qC
theorem Q7(A B:List En):Es (A++B)=Es A++Es B:=List.map_append
theorem jd{W:List En}{e:En}(h:e∈W):qC e∈Es W:=List.mem_map.2 ⟨e,h,rfl⟩
abbrev Wd(sb ab tb mb lb db:Nat)(ev:Value):List Chunk:=[(sb,.cells #[.pointer (some ⟨ab,0,none⟩),.pointer (some ⟨tb,0,none⟩),.map (some mb),.pointer (some ⟨lb,0,none⟩),.pointer (some ⟨db,0,none⟩),ev] 148)]
def sH(sb ab tb mb lb db:Nat)(ev:Value)(HA HT HM HL HD HV:List Chunk)(W:List En):List Chunk:=Wd sb ab tb mb lb db ev++(HA++(HT++(HM++(HL++(HD++(HV++(Es W).flatten))))))
structure Sp(N:Nat)(S:Ss)(W:List En)(D:List (Option Bt))(L:List Nm)(ab tb mb lb db:Nat)(ev:Value)(HA HT HM HL HD HV:List Chunk):Prop where
 q:Sq S W D L
 a:Ar ab N D HA
 t:Tb tb ab L HT
 m:Mp mb (Yc W) W.length HM
 l:Lr lb ((N/512:Nat):Int) S.P S.Q HL
 d:Du db (S.I.map It.de) HD
 v:Zf 43 ev S.V HV
/-- a store of N bytes, as one piece of memory -/
def Sr(sb N:Nat)(S:Ss)(H:List Chunk):Prop:=∃(W:List En) (D:List (Option Bt)) (L:List Nm) (ab tb mb lb db:Nat) (ev:Value) (HA HT HM HL HD HV:List Chunk),Sp N S W D L ab tb mb lb db ev HA HT HM HL HD HV∧H=sH sb ab tb mb lb db ev HA HT HM HL HD HV W
theorem Sr.mk{sb N:Nat}{S:Ss}{W:List En}{D:List (Option Bt)}{L:List Nm}{ab tb mb lb db:Nat}{ev:Value}{HA HT HM HL HD HV:List Chunk}(h:Sp N S W D L ab tb mb lb db ev HA HT HM HL HD HV):Sr sb N S (sH sb ab tb mb lb db ev HA HT HM HL HD HV W):=⟨W,D,L,ab,tb,mb,lb,db,ev,HA,HT,HM,HL,HD,HV,h,rfl⟩
theorem Sp.nb{N:Nat}{S:Ss}{W:List En}{D:List (Option Bt)}{L:List Nm}{ab tb mb lb db:Nat}{ev:Value}{HA HT HM HL HD HV:List Chunk}(h:Sp N S W D L ab tb mb lb db ev HA HT HM HL HD HV):N≤1048576∧Zh D≤N∧16*S.I.length≤N∧W.length=S.I.length∧S.P.length+S.Q.length=S.I.length:=by
 obtain⟨h1,h2,h3,_⟩:=h.a.kW;obtain⟨h4,h5⟩:=h.q.len;exact⟨h3,h1,by have:=h.q.few h1; omega,h4,h5⟩
theorem Sr.nb{sb N:Nat}{S:Ss}{H:List Chunk}(h:Sr sb N S H):N≤1048576∧16*S.I.length≤N∧S.P.length+S.Q.length=S.I.length∧uR (sets S.I)≤N:=by
 obtain⟨W,D,L,ab,tb,mb,lb,db,ev,HA,HT,HM,HL,HD,HV,h,rfl⟩:=h;obtain⟨h1,h2,h3,h4,h5⟩:=h.nb;exact⟨h1,h3,h5,by rw[←h.q.used]; exact h2⟩
/-- opened, and closed again -/
theorem Tri.sp{P:Program}{f:FuncId}{args:Array Value}{R:Value→zB→Prop}{S0:zB}{sb ab tb mb lb db:Nat}{ev:Value}{HA HT HM HL HD HV:List Chunk}{W:List En}(h:Tri P f args (Wd sb ab tb mb lb db ev::HA::HT::HM::HL::HD::HV::(Es W++S0)) R):Tri P f args (sH sb ab tb mb lb db ev HA HT HM HL HD HV W::S0) R:=h.perm (by simp[sH])
theorem Tri.Mq{P:Program}{f:FuncId}{args:Array Value}{R:Value→zB→Prop}{sb ab tb mb lb db:Nat}{ev:Value}{HA HT HM HL HD HV:List Chunk}{W:List En}(h:Tri P f args (Wd sb ab tb mb lb db ev::HA::HT::HM::HL::HD::HV::Es W) R):Tri P f args [sH sb ab tb mb lb db ev HA HT HM HL HD HV W] R:=h.perm (by simp[sH])
theorem zG.sp{S G:zB}{sb ab tb mb lb db:Nat}{ev:Value}{HA HT HM HL HD HV:List Chunk}{W:List En}[h:Sub S (Wd sb ab tb mb lb db ev::HA::HT::HM::HL::HD::HV::Es W) G]:zG S [sH sb ab tb mb lb db ev HA HT HM HL HD HV W]:=zG.trans (zG.of (h:=h)) ⟨[],by simp[sH]⟩
theorem zG.op{S S1 G:zB}{sb ab tb mb lb db:Nat}{ev:Value}{HA HT HM HL HD HV:List Chunk}{W:List En}[h:Sub S (sH sb ab tb mb lb db ev HA HT HM HL HD HV W::S1) G]:zG S (Wd sb ab tb mb lb db ev::HA::HT::HM::HL::HD::HV::(Es W++S1)):=zG.trans (zG.of (h:=h)) ⟨[],by simp[sH]⟩
theorem ak{W:List En}{k:Ky}{e:En}(h:Yh W k=some e):((Yc W k).map Vv.vv).getD (.pointer none)= .pointer (some ⟨e.eb,0,none⟩):=by unfold Yc; rw[h]; rfl
theorem Ir{W:List En}{k:Ky}(h:Yh W k=none):((Yc W k).map Vv.vv).getD (.pointer none)= .pointer none:=by unfold Yc; rw[h]; rfl
set_option maxRecDepth 10000 in
theorem sj{n:Nat}(hn:2048≤n∧n≤1048576){z:Int}(hz:z=n):Tri Tryz.prog 76 #[.int .i64 z] [] (fun r S=>∃sb H,r= .tuple #[.pointer (some ⟨sb,0,none⟩),.int .i64 0]∧Sr sb n ⟨[],[],[],[]⟩ H∧S=[H]):=by
 subst hz;refine Tri.forget (zn Tryz.MP (Nat.le_of_ble_eq_true rfl) ?_);unfold Tryz.NW;refine ze (z8 (yp pC (yp pC (zf (za (ze (ze (z8 (yp (pI rfl) (yp (ZL rfl rfl) (yp (pB rfl) ?_)))))))))));rw[decide_eq_false (show ¬(n:Int)<2048 from by omega)];refine Z0 rfl (Zc (pI rfl) (Z0 rfl (Zc (VE rfl rfl) (yp (zU rfl rfl) (zf (za ?_))))));rw[decide_eq_false (show ¬(1048576:Int)<(n:Int) from by omega)];refine zw rfl (zq (za (ze (z8 (yp (pI rfl) ?_)))));refine zh (zk (Cx (n:=n) (by omega) rfl) rfl rfl fun r S' h=>?_);obtain⟨ab,HA,rfl,hA,rfl⟩:=h;refine yp (pU rfl) (yp (pExt rfl rfl) (yp (pExt rfl rfl) (yp (pP rfl) (yp (pI rfl) (zf (za (ze (z8 (yp (pP rfl) (yp (pP rfl) ?_))))))))));refine zh (zk (Ep (ab:=ab)) rfl rfl fun r S' h=>?_);obtain⟨tb,HT,rfl,hT,rfl⟩:=h;refine zh (kS Ky Ptr fun mb HM hM=>?_);refine yp (pI rfl) (yp (EO rfl rfl (by decide) (by omega)) ?_);rw[show(n:Int).tdiv 512=((n/512:Nat):Int) from rfl];refine zh (zk (Fb ((n/512:Nat):Int)) rfl rfl fun r S' h=>?_);obtain⟨lb,HL,rfl,hL,rfl⟩:=h;refine zh (zk Fj rfl rfl fun r S' h=>?_);obtain⟨db,HD,rfl,hD,rfl⟩:=h;rw[show max ((n/512:Nat):Int) 0=((n/512:Nat):Int) from by omega] at hL;refine yp (v:= .agg #[.pointer (some ⟨ab,0,none⟩),.pointer (some ⟨tb,0,none⟩),.map (some mb),.pointer (some ⟨lb,0,none⟩),.pointer (some ⟨db,0,none⟩),.slice none 0 0]) rfl ?_;refine zh (Zv rfl fun p26=>?_);refine yp (pP rfl) (yp pC (zf (za (zL ?_))));exact zK (IZ rfl rfl) ⟨_,zG.re (S1:=[Wd p26 ab tb mb lb db (.slice none 0 0),HA,HT,HM,HL,HD]) (S2:=[sH p26 ab tb mb lb db (.slice none 0 0) HA HT HM HL HD [] []]) (by simp[sH,Es]),p26,_,rfl,Sr.mk ⟨Sq.nil,hA,hT,hM,hL,hD,.nil⟩,rfl⟩
theorem Qn:sizeOf? Tryz.prog 43=some 2:=by kernel_rfl
theorem j4:isAgg? Tryz.prog 136=some true:=by kernel_rfl
theorem K5:sizeOf? Tryz.prog 136=some 9:=by kernel_rfl
theorem fq(k:Ky)(hk:k.n.length<2 ^ 62):Tri Tryz.prog 125 #[.agg (WS k)] [] (fun r S=>r= .agg (WS (fk k))∧S=[]):=by
 refine Tri.forget (zn Tryz.Hz (Nat.le_of_ble_eq_true rfl) ?_);unfold Tryz.DV;refine ze (z8 ?_);refine zh (Zv rfl fun p1=>?_);refine zh (Z8 fun p2=>?_);refine zf (za (ze (zY (zi (zx rfl) (Zd rfl rfl (zi (zx rfl) (Zd rfl rfl ?_)))))));refine Zm (zk (Kz k.n hk) rfl rfl fun r S' h=>?_) zM;obtain⟨rfl,rfl⟩:=h;refine⟨by simp,?_⟩;refine zi (vE (fE rfl) (uM rfl)) ?_;refine zH (wz rfl rfl rfl rfl rfl ?_) zM;refine zD (za (zL ?_));exact zK (jO (JO (b:=p2) rA Qn rfl rfl)) ⟨[],.of,rfl,rfl⟩
theorem XZ(n most:Int):Tri Tryz.prog 124 #[.int .i64 n,.int .i64 most] [] (fun r S=>r= .bool (rW n most)∧S=[]):=by
 refine Tri.forget (zn Tryz.HY (Nat.le_of_ble_eq_true rfl) ?_);unfold Tryz.DW rW;refine ze (z8 (yp pC (zf (za (ze (z8 (yp (pI rfl) (yp (U9 rfl rfl) (yp (pB rfl) ?_)))))))));by_cases h:0≤n
 ·rw[decide_eq_true h];refine Z0 rfl (Zc (pI rfl) (Z0 rfl (Zc (pI rfl) (Z0 rfl (Zc (Xl rfl rfl) (yp (zP rfl rfl) (yp (pB rfl) (zf (za (zL ?_))))))))));exact zK (rB rfl) ⟨_,.of,rfl,rfl⟩
 ·rw[decide_eq_false h];refine Z5 rfl (Z5 rfl (Z5 rfl (yp (zU rfl rfl) (yp (pB rfl) (zf (za (zL ?_)))))));exact zK (rB rfl) ⟨_,.of,rfl,rfl⟩
def L6(o:Option En):Value:= .pointer (o.map fun e=>⟨e.eb,0,none⟩)
theorem Iq(W:List En)(k:Ky):((Yc W k).map Vv.vv).getD (.pointer none)=L6 (Yh W k):=by
 unfold Yc L6;cases Yh W k<;>rfl
theorem AA{sb ab tb mb lb db n:Nat}{ev:Value}{W:List En}{HM:List Chunk}(hM:Mp mb (Yc W) n HM)(k:Ky)(hk:k.n.length<2 ^ 62):
 Tri Tryz.prog 132 #[.pointer (some ⟨sb,0,none⟩),.agg (WS k)] [Wd sb ab tb mb lb db ev,HM] (fun r S=>r=L6 (Yh W (fk k))∧S=[Wd sb ab tb mb lb db ev,HM]):=by
 refine Tri.forget (zn Tryz.tH (Nat.le_of_ble_eq_true rfl) ?_);unfold Tryz.Ap;refine ze (z8 ?_);refine zh (Zv rfl fun p3=>?_);refine yp pC (zf (za (ze (ze (z8 (yp (pP rfl) (yp (wJ rfl rfl) (zf (za (zw rfl (zq (za (ze (zY (zi (pP rfl) (zi (zS rfl) (zi (zx rfl) (Zd rfl rfl (vH rfl rfl ?_)))))))))))))))))));refine Zm (zk (fq k hk) rfl rfl fun r S' h=>?_) zM;obtain⟨rfl,rfl⟩:=h;refine⟨by simp,?_⟩;refine zH (uh hM (by repeat (first | exact List.mem_cons_self | apply List.mem_cons_of_mem)) (fk k) Xh sP CJ rfl rfl (Iq W (fk k)) ?_) zM;refine zi (v:=L6 (Yh W (fk k))) rfl (zD (za (zL ?_)));exact zK (rP rfl) ⟨_,.of,rfl,rfl⟩
theorem nH(k:Ky):Tri Tryz.prog 132 #[.pointer none,.agg (WS k)] [] (fun r S=>r= .pointer none∧S=[]):=by
 refine Tri.forget (zn Tryz.tH (Nat.le_of_ble_eq_true rfl) ?_);unfold Tryz.Ap;refine ze (z8 ?_);refine zh (Zv rfl fun p3=>?_);refine yp pC (zf (za (ze (ze (z8 (yp (pP rfl) (yp (wJ rfl rfl) (zf (za (zI rfl (ze (z8 (yp pC (zf (za (zL (zX ?_)))))))))))))))));exact zK (rP rfl) ⟨_,.of,rfl,rfl⟩
/-- an item as it is told -/
abbrev mU(i:It)(v:Value):Array Value:= #[sv (Zj i.s).name,.int .i64 (Zj i.s).typ,v,.int .i64 (Zj i.s).kind,sv (Zj i.s).zone,.int .i64 i.rank,.int .i64 i.came,.int .i64 i.exp,.int .i64 i.pins]
abbrev Yf:Array Value:= #[.string ⟨#[]⟩,.int .i64 0,.slice none 0 0,.int .i64 0,.string ⟨#[]⟩,.int .i64 0,.int .i64 0,.int .i64 0,.int .i64 0]
theorem Az{sb N ab tb mb lb db:Nat}{ev:Value}{S:Ss}{W:List En}{D:List (Option Bt)}{L:List Nm}{HA HT:List Chunk}(hq:Sq S W D L)(hA:Ar ab N D HA)(hT:Tb tb ab L HT){e:En}(he:e∈W):
 Tri Tryz.prog 133 #[.pointer (some ⟨sb,0,none⟩),.pointer (some ⟨e.eb,0,none⟩)] [Wd sb ab tb mb lb db ev,HA,HT,qC e] (fun r S=>∃v HR,r= .agg (mU e.i v)∧Zf 89 v (Zj e.i.s).rrs HR∧S=[HR,Wd sb ab tb mb lb db ev,HA,HT,qC e]):=by
 have hz:e.z∈W.map En.z:=List.mem_map.2 ⟨e,he,rfl⟩;obtain⟨hE,hs,hal⟩:=hq.pk.ok _ hz;have hC:=EC hT hA hq.pk.inn (j6 hz) hE hal;refine Tri.forget (zn Tryz.Hg (Nat.le_of_ble_eq_true rfl) ?_);unfold Tryz.DJ;refine ze (z8 ?_);refine zh (Z8 fun p4=>?_);refine zf (za (ze (Wn (R:=[Wd sb ab tb mb lb db ev,qC e]) (by simp) (zi (pP rfl) (zi (zS rfl) (zi (zx rfl) (Zd rfl rfl (zi (pP rfl) (zi (zS rfl) (zi (zx rfl) (Zd rfl rfl (zi (pP rfl) (zi (zS rfl) (zi (zx rfl) (Zd rfl rfl ?_)))))))))))))));refine zH (zk hC rfl rfl fun r S' h=>?_) (Zm (Z8 fun p5=>⟨by simp,?_⟩) zM)
 ·obtain⟨v,HR,rfl,hR,rfl⟩:=h;obtain⟨a,c,rfl⟩:=hR.isSlice;refine zi (pU rfl) (zi (pExt rfl rfl) (zi (pExt rfl rfl) ?_));refine Zm (Z8 fun p5=>⟨(by first | exact fun _ h=>List.mem_cons_of_mem _ h | simp),?_⟩) zM;refine zH (wz rfl rfl rfl rfl rfl ?_) zM;refine zi (pI rfl) (zD (za (ze (zY (vH rfl rfl (zi (pP rfl) (zi (zS rfl) (zi (zx rfl) (Zd rfl rfl (zi (pP rfl) (zi (zS rfl) (zi (zx rfl) (Zd rfl rfl (zi (pP rfl) (zi (zS rfl) (zi (zx rfl) (Zd rfl rfl (zi (pP rfl) (zi (zS rfl) (zi (zx rfl) (Zd rfl rfl (zi (v:= .agg (mU e.i (.slice a (Zj e.z.s).rrs.length c))) rfl ?_))))))))))))))))))))));refine zH (wz rfl rfl rfl rfl rfl ?_) zM;refine zD (za (zL ?_));exact zK (jO (JO (b:=p4) j4 K5 rfl rfl)) ⟨_,.of,_,HR,rfl,hR,rfl⟩
 ·refine zH (zk hC rfl rfl fun r S' h=>?_) zM;obtain⟨v,HR,rfl,hR,rfl⟩:=h;obtain⟨a,c,rfl⟩:=hR.isSlice;refine zi (pU rfl) (zi (pExt rfl rfl) (zi (pExt rfl rfl) ?_));refine zH (wz rfl rfl rfl rfl rfl ?_) zM;refine zi (pI rfl) (zD (za (ze (zY (vH rfl rfl (zi (pP rfl) (zi (zS rfl) (zi (zx rfl) (Zd rfl rfl (zi (pP rfl) (zi (zS rfl) (zi (zx rfl) (Zd rfl rfl (zi (pP rfl) (zi (zS rfl) (zi (zx rfl) (Zd rfl rfl (zi (pP rfl) (zi (zS rfl) (zi (zx rfl) (Zd rfl rfl (zi (v:= .agg (mU e.i (.slice a (Zj e.z.s).rrs.length c))) rfl ?_))))))))))))))))))))));refine zH (wz rfl rfl rfl rfl rfl ?_) zM;refine zD (za (zL ?_));exact zK (jO (JO (b:=p4) j4 K5 rfl rfl)) ⟨_,.of,_,HR,rfl,hR,rfl⟩
theorem yh(X A B C:List Chunk):(X++(A++(B++C))).Perm (X++(B++(A++C))):=by
 refine .append_left X ?_;rw[←List.append_assoc, ←List.append_assoc];exact List.perm_append_comm.append_right C
theorem mM(A B:List En)(e:En):(Es (A++e::B)).flatten=(Es A).flatten++(qC e++(Es B).flatten):=by
 rw[Q7,List.flatten_append]; rfl
/-- one entry taken out of the others; put back, or left -/
theorem zG.cons{x:List Chunk}{S T:zB}(h:zG S T):zG (x::S) (x::T):=by
 obtain⟨G,h⟩:=h;refine⟨G,?_⟩;rw[List.flatten_cons,List.flatten_cons,List.append_assoc];exact h.append_left x
theorem zG.em{x:List Chunk}{sb ab tb mb lb db:Nat}{ev:Value}{HA HT HM HL HD HV:List Chunk}{A B:List En}{e:En}:
 zG (x::Wd sb ab tb mb lb db ev::HA::HT::HM::HL::HD::HV::Es (A++e::B)) (x::qC e::Wd sb ab tb mb lb db ev::HA::HT::HM::HL::HD::HV::(Es A++Es B)):=⟨[],by
 simp only[List.flatten_cons,mM,List.flatten_append,List.append_nil];refine .append_left x ?_;have:=yh [] (Wd sb ab tb mb lb db ev++(HA++(HT++(HM++(HL++(HD++(HV++(Es A).flatten))))))) (qC e) (Es B).flatten;simpa only[List.nil_append,List.append_assoc] using this⟩
theorem zG.ec{x:List Chunk}{S G:zB}{sb ab tb mb lb db:Nat}{ev:Value}{HA HT HM HL HD HV:List Chunk}{A B:List En}{e:En}[h:Sub S (x::qC e::Wd sb ab tb mb lb db ev::HA::HT::HM::HL::HD::HV::(Es A++Es B)) G]:
 zG S [x,sH sb ab tb mb lb db ev HA HT HM HL HD HV (A++e::B)]:=zG.trans (zG.of (h:=h)) ⟨[],by
 simp only[sH,List.flatten_cons,List.flatten_nil,mM,List.flatten_append,List.append_nil];refine .append_left x ?_;have:=(yh [] (Wd sb ab tb mb lb db ev++(HA++(HT++(HM++(HL++(HD++(HV++(Es A).flatten))))))) (qC e) (Es B).flatten).symm;simpa only[List.nil_append,List.append_assoc] using this⟩
theorem zG.sd{S G:zB}{sb ab tb mb lb db:Nat}{ev:Value}{HA HT HM HL HD HV:List Chunk}{A B:List En}[h:Sub S (Wd sb ab tb mb lb db ev::HA::HT::HM::HL::HD::HV::(Es A++Es B)) G]:
 zG S [sH sb ab tb mb lb db ev HA HT HM HL HD HV (A++B)]:=zG.trans (zG.of (h:=h)) ⟨[],by simp[sH,Q7]⟩
theorem zG.op1{x:List Chunk}{S G:zB}{sb ab tb mb lb db:Nat}{ev:Value}{HA HT HM HL HD HV:List Chunk}{W:List En}[h:Sub S [x,sH sb ab tb mb lb db ev HA HT HM HL HD HV W] G]:zG S (x::Wd sb ab tb mb lb db ev::HA::HT::HM::HL::HD::HV::Es W):=zG.trans (zG.of (h:=h)) ⟨[],by simp[sH]⟩
theorem oq{W:List En}{e:En}(hn:(keys (W.map (·.i))).Nodup)(he:e∈W):KA (Yc W) e.i.k W.length=(UY W e.i.k).length:=by
 obtain⟨A,B,h1,h2⟩:=VQ hn he;have hf:(Yc W e.i.k).isSome=true:=by
  unfold Yc Yh;cases h:W.find? (fun x=>decide (x.i.k=e.i.k)) with
  | none=>have:=List.find?_eq_none.1 h e he; simp at this
  | some x=>rfl
 unfold KA;rw[if_pos hf,h2,h1];simp
theorem KL{S:Ss}{W:List En}{D:List (Option Bt)}{L:List Nm}(hq:Sq S W D L){k:Ky}{i:It}(h:VJ S.I k=some i):∃e,Yh W k=some e∧e∈W∧e.i=i∧i.k=k:=by
 rw[←hq.its,aC] at h;obtain⟨e,he,rfl⟩:=Option.map_eq_some_iff.1 h;exact⟨e,he,(J6 he).1,rfl,(J6 he).2⟩
theorem qx{S:Ss}{W:List En}{D:List (Option Bt)}{L:List Nm}(hq:Sq S W D L){k:Ky}(h:VJ S.I k=none):Yh W k=none:=by
 rw[←hq.its,aC] at h;exact Option.map_eq_none_iff.1 h
theorem eZ{sb N:Nat}{S:Ss}{H:List Chunk}(hS:Sr sb N S H){k:Ky}{i:It}(hk:VJ S.I k=some i):
 Tri Tryz.prog 126 #[.pointer (some ⟨sb,0,none⟩),.agg (WS k)] [H] (fun r S'=>r= .tuple #[]∧∃H',Sr sb N (YR k S) H'∧S'=[H']):=by
 have hnb:=hS.nb;obtain⟨W,D,L,ab,tb,mb,lb,db,ev,HA,HT,HM,HL,HD,HV,h,rfl⟩:=hS;obtain⟨e,hf,he,rfl,hek⟩:=KL h.q hk;have hz:e.z∈W.map En.z:=List.mem_map.2 ⟨e,he,rfl⟩;obtain⟨hE,hs,hal⟩:=h.q.pk.ok _ hz;have hC:=Bo h.t h.a h.q.pk.inn h.q.pk.pos (j6 hz) hE hal hs;have hC:Tri Tryz.prog 25 #[.pointer (some ⟨ab,0,none⟩),.pointer (some ⟨tb,0,none⟩),.int .i64 e.h] _ _:=hC;obtain⟨A,B,hW,hout⟩:=VQ h.q.L8 he;refine Tri.forget (Tri.Mq (zn Tryz.Hy (Nat.le_of_ble_eq_true rfl) ?_));unfold Tryz.DU;have hEs:Es W=Es (A++e::B):=by rw[←hW]
 rw[hEs];refine ze (z8 ?_);refine zh (Zv rfl fun p3=>?_);refine zf (za (zm zG.em (ze (zY (zi (pP rfl) (zi (zS rfl) (zi (zx rfl) (Zd rfl rfl (zi (pP rfl) (zi (zS rfl) (zi (zx rfl) (Zd rfl rfl (zi (pP rfl) (zi (zS rfl) (zi (zx rfl) (Zd rfl rfl (vH rfl rfl ?_)))))))))))))))));refine Zm (uh h.m (by repeat (first | exact List.mem_cons_self | apply List.mem_cons_of_mem)) k Xh sP CJ rfl rfl (ak hf) ⟨fun _ h=>h,?_⟩) zM;refine zi (zS rfl) (zi (zx rfl) (Zd rfl rfl ?_));refine zH (zk hC rfl rfl fun r S' h=>?_) zM;obtain⟨rfl,HT1,HA1,D1,hT1,hA1,hI1,_,rfl⟩:=h;refine zD (za (ze (zY (zi (pP rfl) (zi (zS rfl) (zi (zx rfl) (Zd rfl rfl (vH rfl rfl ?_))))))));refine zH (dA h.m k Xh sP rfl rfl fun HM1 hM1=>?_) zM;refine zD (za (ze (zY (zi (pP rfl) (zi (zS rfl) (zi (zx rfl) (Zd rfl rfl (vH rfl rfl ?_))))))));refine zH (zk (BQ h.l (by omega) (by omega) k) rfl rfl fun r S' h=>?_) zM;obtain⟨rfl,HL1,hL1,rfl⟩:=h;refine zD (za (zY (zi (pP rfl) (zi (zS rfl) (zi (zx rfl) (Zd rfl rfl (vH rfl rfl ?_)))))));refine zH (zk (C9 h.d (by rw[List.length_map]; omega) k) rfl rfl fun r S' h=>?_) zM;obtain⟨rfl,HD1,hD1,rfl⟩:=h;refine zD ?_;subst hek;have hq1:=h.q.gone he hI1;rw[←pJ,oq h.q.L8 he] at hM1;rw[ku h.q.kn] at hD1;have hR:Sp N (YR e.i.k S) (UY W e.i.k) D1 _ ab tb mb lb db ev HA1 HT1 HM1 HL1 HD1 HV:=⟨hq1,hA1,hT1,hM1,hL1,hD1,h.v⟩
 have hR:=Sr.mk (sb:=sb) hR;rw[hout] at hR;exact ZF ZG ⟨_,zG.sd,rfl,_,hR,rfl⟩
theorem nI{sb N:Nat}{S:Ss}{H:List Chunk}(hS:Sr sb N S H){k:Ky}{i:It}(hk:VJ S.I k=some i)(hv:S.V.length<2 ^ 30):
 Tri Tryz.prog 129 #[.pointer (some ⟨sb,0,none⟩),.agg (WS k)] [H] (fun r S'=>r= .tuple #[]∧∃H',Sr sb N (tK k S) H'∧S'=[H']):=by
 refine Tri.forget (zn Tryz.Hr (Nat.le_of_ble_eq_true rfl) ?_);unfold Tryz.DN;refine ze (z8 ?_);refine zh (Zv rfl fun p3=>?_);refine zf (za (ze (z8 (yp (pP rfl) ?_))));refine zh (wC rfl rfl ?_);refine zh (zk (eZ hS hk) rfl rfl fun r S' h=>?_);obtain⟨rfl,H1,hS1,rfl⟩:=h;obtain⟨W,D,L,ab,tb,mb,lb,db,ev,HA,HT,HM,HL,HD,HV,h,rfl⟩:=hS1;refine zf (za ?_);refine zm (S0:=[(p3,.cells (WS k) 43)]::Wd sb ab tb mb lb db ev::HA::HT::HM::HL::HD::HV::Es W) ?_ ?_
 ·exact zG.op1
 have hV:=h.v;obtain⟨a,c,rfl⟩:=hV.isSlice;refine zY (zi (pP rfl) (zi (pP rfl) (zi (zS rfl) (zi (zx rfl) (Zd rfl rfl (vH rfl rfl ?_))))));refine Zm (Ve k rfl rfl (by decide) (by decide) rfl fun p13=>⟨fun _ h=>List.mem_cons_of_mem _ h,?_⟩) zM;have hvl:(YR k S).V.length<2 ^ 30:=hv;refine zH (VL (Y:=[k]) rfl rfl hV (.lit (by repeat (first | exact List.mem_cons_self | apply List.mem_cons_of_mem)) rfl) rfl (⟨[],0⟩:Ky) rfl (by rw[List.length_singleton]; omega) (by rw[List.length_singleton]; omega) fun v2 H2 hV2=>?_) zM;obtain⟨a2,c2,rfl⟩:=hV2.isSlice;refine zi (zS rfl) (zi (zx rfl) ?_);refine zH (tY rfl rfl (Ke rfl) ?_) zM;refine zD ?_;exact ZF ZG ⟨_,zG.sp,rfl,_,Sr.mk (S:=tK k S) ⟨h.q.ev,h.a,h.t,h.m,h.l,h.d,hV2⟩,rfl⟩
/-- what Peek tells -/
def IV(S:Ss)(k:Ky)(H:List Chunk)(r:Value)(S':zB):Prop:=
 (VJ S.I (fk k)=none∧r= .tuple #[.agg Yf,.bool false]∧S'=[H])∨∃i v HR,VJ S.I (fk k)=some i∧r= .tuple #[.agg (mU i v),.bool true]∧Zf 89 v (Zj i.s).rrs HR∧S'=[HR,H]
theorem Aw{sb N:Nat}{S:Ss}{H:List Chunk}(hS:Sr sb N S H)(k:Ky)(hkl:k.n.length<2 ^ 62):
 Tri Tryz.prog 79 #[.pointer (some ⟨sb,0,none⟩),.agg (WS k)] [H] (IV S k H):=by
 obtain⟨W,D,L,ab,tb,mb,lb,db,ev,HA,HT,HM,HL,HD,HV,h,rfl⟩:=hS;refine Tri.forget (Tri.Mq (zn Tryz.FB (Nat.le_of_ble_eq_true rfl) ?_));unfold Tryz.Lj;refine ze (z8 ?_);refine zh (Zv rfl fun p3=>?_);refine zh (Z8 fun p4=>?_);refine yp pC (zf (za (ze (z8 (yp (pP rfl) ?_)))));refine zh (wC rfl rfl ?_);refine zh (zk (AA (ab:=ab) (tb:=tb) (lb:=lb) (db:=db) (ev:=ev) h.m k hkl) rfl rfl fun r S' h=>?_);obtain⟨rfl,rfl⟩:=h;cases hb:VJ S.I (fk k) with
 | none=>
  rw[qx h.q hb];refine yp (v:= .pointer none) rfl (zf (za (ze (ze (z8 (yp (pP rfl) (yp (wJ rfl rfl) (zf (za (zI rfl (ze (z8 (yp vF ?_)))))))))))));refine zh (wz rfl rfl rfl rfl rfl ?_);refine yp pC (zf (za (zL (zX ?_))));exact zK (vW (JO (b:=p4) j4 K5 rfl rfl) (jg rfl)) ⟨_,zG.sp,.inl ⟨hb,rfl,rfl⟩⟩
 | some i=>
  obtain⟨e,hf,he,rfl,hek⟩:=KL h.q hb;rw[hf];have hC:=Az (sb:=sb) (mb:=mb) (lb:=lb) (db:=db) (ev:=ev) h.q h.a h.t he;obtain⟨A,B,rfl,hout⟩:=VQ h.q.L8 he;refine yp (v:= .pointer (some ⟨e.eb,0,none⟩)) rfl (zf (za ?_));refine zm (S0:=[(p4,.cells Yf 136)]::[(p3,.cells (WS k) 43)]::Wd sb ab tb mb lb db ev::HA::HT::HM::HL::HD::HV::Es (A++e::B)) ?_ ?_
  ·exact zG.of
  refine zm (zG.cons zG.em) (ze (ze (z8 (yp (pP rfl) (yp (wJ rfl rfl) (zf (za (zw rfl (zq (za (ze (z8 (yp (pP rfl) (yp (pP rfl) ?_))))))))))))));refine zh (zk hC rfl rfl fun r S' h=>?_);obtain⟨v,HR,rfl,hR,rfl⟩:=h;obtain⟨a,c,rfl⟩:=hR.isSlice;refine zh (wz rfl rfl rfl rfl rfl ?_);refine yp pC (zf (za (zL ?_)));exact zK (vW (JO (b:=p4) j4 K5 rfl rfl) (jg rfl)) ⟨_,zG.ec (x:=HR) (e:=e),.inr ⟨e.i,_,HR,hb,rfl,hR,rfl⟩⟩
theorem Cz:isAgg? Tryz.prog 4=some false:=by kernel_rfl
theorem pfx{α:Type}{L:List α}{f:α→Array Value}{pre:List (Array Value)}{x:Array Value}(h:pre++[x]<+:L.map f):∃(hl:pre.length<L.length),x=f L[pre.length]:=by
 obtain⟨t,ht⟩:=h;have h1:(L.map f)[pre.length]?=some x:=by
  rw[←ht,List.append_assoc,List.getElem?_append_right (Nat.le_refl _),Nat.sub_self]; rfl
 rw[List.getElem?_map] at h1;obtain⟨y,hy,rfl⟩:=Option.map_eq_some_iff.1 h1;obtain⟨hl,rfl⟩:=List.getElem?_eq_some_iff.1 hy;exact⟨hl,rfl⟩
theorem yN{f:Ky→Bool}:∀{l:List Ky} {n:Nat} {k:Ky},(∀x∈l.take n,f x=false)→l[n]?=some k→f k=true→l.find? f=some k
 | y::l,0,k,_,hk,hf=>by
  rw[List.getElem?_cons_zero] at hk;obtain rfl:=Option.some.inj hk;rw[List.find?_cons,hf]
 | y::l,n+1,k,hn,hk,hf=>by
  rw[List.getElem?_cons_succ] at hk;rw[List.find?_cons,hn y (by simp)];exact yN (fun x hx=>hn x (by rw[List.take_succ_cons]; exact List.mem_cons_of_mem _ hx)) hk hf
theorem YZ{f:Ky→Bool}{l:List Ky}(h:∀x∈l,f x=false):l.find? f=none:=by
 rw[List.find?_eq_none];intro x hx;rw[h x hx]; decide
theorem dY{now:Int}{I:List It}{e:De}(h:e∈upto now (I.map It.de)):e.k∈keys I:=by
 unfold upto at h;have h1:=(List.mem_filter.1 h).1;have h2:=(qm (key:=xH) (I.map It.de)).mem_iff.1 h1;obtain⟨i,hi,rfl⟩:=List.mem_map.1 h2;exact List.mem_map.2 ⟨i,hi,rfl⟩
theorem QZ{S:Ss}{W:List En}{D:List (Option Bt)}{L:List Nm}(hq:Sq S W D L){k:Ky}(h:k∈keys S.I):∃e,Yh W k=some e∧e∈W∧VJ S.I k=some e.i∧free S.I k=decide (e.i.pins=0):=by
 cases hb:VJ S.I k with
 | none=>exact absurd h (vP.1 hb)
 | some i=>
  obtain⟨e,hf,he,rfl,_⟩:=KL hq hb;exact⟨e,hf,he,rfl,by unfold free; rw[hb]⟩
theorem iy{now:Int}{S:Ss}{n:Nat}{e:De}(hn:∀x∈(upto now (S.I.map It.de)).take n,free S.I x.k=false)(he:(upto now (S.I.map It.de))[n]?=some e)(hf:free S.I e.k=true):VW now S=some e.k:=by
 unfold VW due;rw[List.find?_append];have:((upto now (S.I.map It.de)).map (·.k)).find? (free S.I)=some e.k:=yN (n:=n) (fun x hx=>by
  rw[←List.map_take] at hx;obtain⟨y,hy,rfl⟩:=List.mem_map.1 hx;exact hn y hy) (by rw[List.getElem?_map,he]; rfl) hf
 rw[this]; rfl
theorem iw{now:Int}{S:Ss}(hn:∀x∈upto now (S.I.map It.de),free S.I x.k=false):VW now S=(S.P++S.Q).find? (free S.I):=by
 unfold VW due;rw[List.find?_append];have:((upto now (S.I.map It.de)).map (·.k)).find? (free S.I)=none:=YZ fun x hx=>by
  obtain⟨y,hy,rfl⟩:=List.mem_map.1 hx;exact hn y hy
 rw[this]; rfl
theorem Yu{α:Type}{L:List α}{n:Nat}(h:n<L.length){p:α→Prop}(hp:∀x∈L.take n,p x)(hx:p L[n]):∀x∈L.take (n+1),p x:=fun x hx'=>by
 rw[List.take_succ_eq_append_getElem h] at hx';rcases List.mem_append.1 hx' with h1 | h1
 ·exact hp x h1
 ·rw[List.mem_singleton.1 h1]; exact hx
abbrev CQ(p2 p4 p5 sb:Nat)(k:Ky)(b:Bool):zB:=[[(p2,.cells #[.pointer (some ⟨sb,0,none⟩)] 82)],[(p4,.cells (WS k) 43)],[(p5,.cells #[.bool b] 4)]]
theorem Ay{sb N:Nat}{S:Ss}{H:List Chunk}(hS:Sr sb N S H)(now:Int):
 Tri Tryz.prog 128 #[.pointer (some ⟨sb,0,none⟩),.int .i64 now] [H] (fun r S'=>r= .tuple #[.agg (WS ((VW now S).getD ⟨[],0⟩)),.bool (VW now S).isSome]∧S'=[H]):=by
 have hnb:=hS.nb;obtain⟨W,D,L,ab,tb,mb,lb,db,ev,HA,HT,HM,HL,HD,HV,h,rfl⟩:=hS;refine Tri.forget (Tri.Mq (zn Tryz.Ht (Nat.le_of_ble_eq_true rfl) ?_));unfold Tryz.DR;refine ze (z8 ?_);refine zh (mO (jI rfl) fun p2=>?_);refine zh (Z8 fun p4=>?_);refine zh (Z8 fun p5=>?_);refine zf (za (ze (ze (z8 ?_))));refine zh (zF rfl rfl ?_);refine yp (zS rfl) (yp (zx rfl) ?_);refine zh (zF rfl rfl ?_);refine yp (pI rfl) ?_;refine zh (zk BR rfl rfl fun r S' h=>?_);obtain⟨bd,ba,rfl,rfl⟩:=h;refine zf (za (zo ?_));have hdl:(S.I.map It.de).length<2 ^ 38:=by rw[List.length_map]; omega
 have hmemT:∀{e:En},e∈W→∀{X:zB},qC e∈X++Es W:=fun he X=>List.mem_append.2 (.inr (jd he))
 refine kQ (fun pre T=>(∀x∈(upto now (S.I.map It.de)).take pre.length,free S.I x.k=false)∧zG T (CQ p2 p4 p5 sb ⟨[],0⟩ false++(Wd sb ab tb mb lb db ev::HA::HT::HM::HL::HD::HV::Es W)))
  (fun e pre T=>e= .ret∧∃k,VW now S=some k∧zG T (CQ p2 p4 p5 sb k true++(Wd sb ab tb mb lb db ev::HA::HT::HM::HL::HD::HV::Es W)))
  rfl rfl (iE (db:=db) (bd:=bd) (ba:=ba) (S0:=CQ p2 p4 p5 sb ⟨[],0⟩ false++(Wd sb ab tb mb lb db ev::HA::HT::HM::HL::HV::Es W)) h.d hdl now) ⟨by simp,.of⟩ ?_ ?_ ?_ ?_
 ·intro pre x hx;obtain⟨_,rfl⟩:=pfx hx;rfl
 ·rintro l pre x T hx ⟨hn,hJ⟩;obtain⟨hl,rfl⟩:=pfx hx;have hm:=List.getElem_mem hl;have hg:(upto now (S.I.map It.de))[pre.length]?=some (upto now (S.I.map It.de))[pre.length]:=List.getElem?_eq_getElem hl;have hst:=Yu hl hn;generalize (upto now (S.I.map It.de))[pre.length]=d at hm hg hst;obtain⟨e,hf,he,hb,hfr⟩:=QZ h.q (dY hm);refine zm hJ (z8 ?_);refine zh (Z8 fun p6=>?_);refine zh (wz rfl rfl rfl rfl rfl ?_);refine zf (za (zo (ze (zY (Zd rfl rfl (zi (zS rfl) (zi (zx rfl) (Zd rfl rfl (vH rfl rfl ?_)))))))));refine Zm (uh h.m (by repeat (first | exact List.mem_cons_self | apply List.mem_cons_of_mem)) d.k Xh sP CJ rfl rfl (ak hf) ⟨fun _ h=>h,?_⟩) zM;refine zi (zS rfl) (zi (zx rfl) (dw (v:= .int .i64 e.i.pins) (by repeat (first | exact jd he | apply List.mem_cons_of_mem)) rfl rfl (zi (WB rfl rfl) (zD (za ?_)))));by_cases hp:e.i.pins=0
  ·rw[decide_eq_true hp] at hfr ⊢;have hnx:=iy hn hg hfr;refine zI rfl (ze (z8 ?_));refine zh (wC rfl rfl ?_);refine zh (wz rfl rfl rfl rfl rfl ?_);refine zh (ZO rfl rfl (CO rfl) ?_);refine zf (za (zL (bret ?_)));exact⟨rfl,d.k,hnx,.of⟩
  ·rw[decide_eq_false hp] at hfr ⊢;refine zw rfl (zq (zT ?_));exact⟨by rw[List.length_append]; exact hst hfr,.of⟩
 ·rintro xs S' hd ⟨hn,hJ⟩;have hxl:xs.length=(upto now (S.I.map It.de)).length:=by rw[hd,List.length_map]
  rw[hxl,List.take_length] at hn;have hnx:=iw (now:=now) (S:=S) hn;refine zT (za ?_);refine zm hJ (ze (ze (z8 ?_)));refine zh (zF rfl rfl ?_);refine yp (zS rfl) (yp (zx rfl) ?_);refine zh (zF rfl rfl ?_);refine zh (zk oJ rfl rfl fun r S' h=>?_);obtain⟨bl,rfl,rfl⟩:=h;refine zf (za (zo ?_));refine kQ (fun pre T=>(∀x∈(S.P++S.Q).take pre.length,free S.I x=false)∧zG T (CQ p2 p4 p5 sb ⟨[],0⟩ false++(Wd sb ab tb mb lb db ev::HA::HT::HM::HL::HD::HV::Es W)))
   (fun e pre T=>e= .ret∧∃k,VW now S=some k∧zG T (CQ p2 p4 p5 sb k true++(Wd sb ab tb mb lb db ev::HA::HT::HM::HL::HD::HV::Es W)))
   rfl rfl (bD (bl:=bl) (S0:=CQ p2 p4 p5 sb ⟨[],0⟩ false++(Wd sb ab tb mb lb db ev::HA::HT::HM::HD::HV::Es W)) h.l (by omega) (by omega)) ⟨by simp,.of⟩ ?_ ?_ ?_ ?_
  ·intro pre x hx;obtain⟨_,rfl⟩:=pfx hx;rfl
  ·rintro l pre x T hx ⟨hn2,hJ⟩;obtain⟨hl,rfl⟩:=pfx hx;have hm:=List.getElem_mem hl;have hg:(S.P++S.Q)[pre.length]?=some (S.P++S.Q)[pre.length]:=List.getElem?_eq_getElem hl;have hst:=Yu hl hn2;generalize (S.P++S.Q)[pre.length]=d at hm hg hst;obtain⟨e,hf,he,hb,hfr⟩:=QZ h.q (h.q.pq.mem_iff.1 hm);refine zm hJ (z8 ?_);refine zh (Z8 fun p7=>?_);refine zh (wz rfl rfl rfl rfl rfl ?_);refine zf (za (zo (ze (zY (Zd rfl rfl (zi (zS rfl) (zi (zx rfl) (Zd rfl rfl (vH rfl rfl ?_)))))))));refine Zm (uh h.m (by repeat (first | exact List.mem_cons_self | apply List.mem_cons_of_mem)) d Xh sP CJ rfl rfl (ak hf) ⟨fun _ h=>h,?_⟩) zM;refine zi (zS rfl) (zi (zx rfl) (dw (v:= .int .i64 e.i.pins) (by repeat (first | exact jd he | apply List.mem_cons_of_mem)) rfl rfl (zi (WB rfl rfl) (zD (za ?_)))));by_cases hp:e.i.pins=0
   ·rw[decide_eq_true hp] at hfr ⊢;refine zI rfl (ze (z8 ?_));refine zh (wC rfl rfl ?_);refine zh (wz rfl rfl rfl rfl rfl ?_);refine zh (ZO rfl rfl (CO rfl) ?_);refine zf (za (zL (bret ?_)));exact⟨rfl,d,by rw[hnx]; exact yN hn2 hg hfr,.of⟩
   ·rw[decide_eq_false hp] at hfr ⊢;refine zw rfl (zq (zT ?_));exact⟨by rw[List.length_append]; exact hst hfr,.of⟩
  ·rintro xs S' hd ⟨hn2,hJ⟩;have hxl:xs.length=(S.P++S.Q).length:=by rw[hd,List.length_map]
   rw[hxl,List.take_length] at hn2;rw[YZ hn2] at hnx;refine zT (za ?_);refine zm hJ (ze (z8 (yp vF ?_)));refine zh (wz rfl rfl rfl rfl rfl ?_);refine zh (ZO rfl rfl (CO rfl) ?_);refine zf (za (zL ?_));rw[hnx];exact zK (vW (JO (b:=p4) rA Qn rfl rfl) (IY (b:=p5) Cz rfl)) ⟨_,zG.sp,rfl,rfl⟩
  ·rintro e pre S' _ ⟨rfl,k,hk,hJ⟩;rw[hk];refine bret (zX ?_);exact zK (YD hJ (vW (JO (b:=p4) rA Qn rfl rfl) (IY (b:=p5) Cz rfl))) ⟨_,hJ.trans zG.sp,rfl,rfl⟩
 ·rintro e pre S' _ ⟨rfl,k,hk,hJ⟩;rw[hk];refine bret (zX ?_);exact zK (YD hJ (vW (JO (b:=p4) rA Qn rfl rfl) (IY (b:=p5) Cz rfl))) ⟨_,hJ.trans zG.sp,rfl,rfl⟩
instance (priority:=low) Sub.appSuf{A S:zB}:Sub (A++S) S A:=⟨by rw[List.flatten_append]; exact List.perm_append_comm⟩
theorem zG.Oz{sb ab tb mb lb db:Nat}{ev:Value}{HA HT HM HL HD HV:List Chunk}{W:List En}{S0:zB}:zG (sH sb ab tb mb lb db ev HA HT HM HL HD HV W::S0) (Wd sb ab tb mb lb db ev::HA::HT::HM::HL::HD::HV::(Es W++S0)):=⟨[],by simp[sH]⟩
theorem zG.add{x:List Chunk}{S G S0:zB}{sb ab tb mb lb db:Nat}{ev:Value}{HA HT HM HL HD HV:List Chunk}{W:List En}{e:En}(hx:x=qC e)[h:Sub S (x::Wd sb ab tb mb lb db ev::HA::HT::HM::HL::HD::HV::(Es W++S0)) G]:
 zG S (sH sb ab tb mb lb db ev HA HT HM HL HD HV (W++[e])::S0):=zG.trans (zG.of (h:=h)) ⟨[],by
 subst hx;have e1:Es (W++[e])=Es W++[qC e]:=Q7 W [e];simp only[sH,e1,List.flatten_cons,List.flatten_nil,List.flatten_append,List.append_nil,List.append_assoc];have:=(yh [] (Wd sb ab tb mb lb db ev++(HA++(HT++(HM++(HL++(HD++(HV++(Es W).flatten))))))) (qC e) S0.flatten).symm;simpa only[List.nil_append,List.append_assoc] using this⟩
theorem zG.OA{x y:List Chunk}{S G S0:zB}{sb ab tb mb lb db:Nat}{ev:Value}{HA HT HM HL HD HV:List Chunk}{W:List En}[h:Sub S (x::y::Wd sb ab tb mb lb db ev::HA::HT::HM::HL::HD::HV::(Es W++S0)) G]:zG S (x::y::sH sb ab tb mb lb db ev HA HT HM HL HD HV W::S0):=zG.trans (zG.of (h:=h)) ⟨[],by simp[sH]⟩
theorem zG.OI{S G S0:zB}{sb ab tb mb lb db:Nat}{ev:Value}{HA HT HM HL HD HV:List Chunk}{W:List En}[h:Sub S (Wd sb ab tb mb lb db ev::HA::HT::HM::HL::HD::HV::(Es W++S0)) G]:zG S (sH sb ab tb mb lb db ev HA HT HM HL HD HV W::S0):=zG.trans (zG.of (h:=h)) ⟨[],by simp[sH]⟩
theorem Tri.op{P:Program}{f:FuncId}{args:Array Value}{R:Value→zB→Prop}{sb ab tb mb lb db:Nat}{ev:Value}{HA HT HM HL HD HV:List Chunk}{W:List En}(h:Tri P f args [sH sb ab tb mb lb db ev HA HT HM HL HD HV W] R):Tri P f args (Wd sb ab tb mb lb db ev::HA::HT::HM::HL::HD::HV::Es W) R:=h.perm (by simp[sH])
theorem nG{sb ab tb mb lb db N:Nat}{ev:Value}{D:List (Option Bt)}{HA:List Chunk}(hA:Ar ab N D HA):Tri Tryz.prog 127 #[.pointer (some ⟨sb,0,none⟩)] [Wd sb ab tb mb lb db ev,HA] (fun r S'=>r= .int .i64 ((N-Zh D:Nat):Int)∧S'=[Wd sb ab tb mb lb db ev,HA]):=by
 refine Tri.forget (zn Tryz.Hu (Nat.le_of_ble_eq_true rfl) ?_);unfold Tryz.DT;refine ze (z8 (yp pC (zf (za (ze (ze (z8 (yp (pP rfl) (yp (wJ rfl rfl) (zf (za (zw rfl (zq (za (ze (z8 (yp (pP rfl) (yp (zS rfl) (yp (zx rfl) ?_)))))))))))))))))));refine zh (zF rfl rfl ?_);refine zh (zk (rz hA) rfl rfl fun r S' h=>?_);obtain⟨rfl,rfl⟩:=h;refine yp (pI rfl) (zf (za (zL ?_)));exact zK (rI rfl) ⟨_,.of,rfl,rfl⟩
theorem oD{now:Int}{S:Ss}{k:Ky}(h:VW now S=some k):∃i,VJ S.I k=some i∧i.pins=0:=by
 have hf:=List.find?_some h;unfold free at hf;cases hb:VJ S.I k with
 | none=>rw[hb] at hf; cases hf
 | some i=>rw[hb] at hf; exact⟨i,rfl,of_decide_eq_true hf⟩
theorem yu{I:List It}(hn:(keys I).Nodup){k:Ky}{i:It}(h:VJ I k=some i):I.length=(uN I k).length+1:=by
 obtain⟨hi,rfl⟩:=Jg h;clear h
 induction I with
 | nil=>simp at hi
 | cons j I ih=>
  have hn2:=List.nodup_cons.1 hn;unfold uN at ih ⊢;rw[List.filter_cons];by_cases hj:j.k=i.k
  ·rw[if_neg (by simp[hj]),List.filter_eq_self.2,List.length_cons];intro y hy;have:y.k≠i.k:=fun q=>hn2.1 (List.mem_map.2 ⟨y,hy,q.trans hj.symm⟩)
   simpa using this
  ·rw[if_pos (by simp[hj]),List.length_cons,List.length_cons,ih hn2.2 ?_];rcases List.mem_cons.1 hi with rfl | hi
   ·exact absurd rfl hj
   ·exact hi
theorem pR{I:List It}{k k':Ky}(h:VJ I k=none):VJ (uN I k') k=none:=by
 rw[vP] at h ⊢;rw[xY];exact fun hm=>h (List.mem_filter.1 hm).1
theorem lK(I:List It)(k:Ky):VJ (uN I k) k=none:=by
 rw[vP,xY];intro hm;have:=(List.mem_filter.1 hm).2;simp at this
theorem fC{N:Nat}{K k:Ky}{s:St}{rank now exp:Int}{S:Ss}{i:It}(hn:(keys S.I).Nodup)(h:uV N S<Vx (sets S.I) s)(hk:VW now S=some k)(hb:VJ S.I k=some i):UO N K s rank now exp S=UO N K s rank now exp (tK k S):=by
 have hl:=yu hn hb;unfold UO;have e1:uT N now s S.I.length S=uT N now s (tK k S).I.length (tK k S):=by
  rw[hl,uT,if_pos h,hk]; rfl
 rw[e1]
theorem AL{N:Nat}{K:Ky}{s:St}{rank now exp:Int}{S:Ss}(h:uV N S<Vx (sets S.I) s)(hk:VW now S=none):UO N K s rank now exp S=(S,4):=by
 unfold UO;have e1:uT N now s S.I.length S=(S,false):=by
  cases S.I.length with
  | zero=>rw[uT,decide_eq_false (by omega)]
  | succ n=>rw[uT,if_pos h,hk]
 rw[e1]
theorem fD{N:Nat}{K:Ky}{s:St}{rank now exp:Int}{S:Ss}(h:¬uV N S<Vx (sets S.I) s):UO N K s rank now exp S=(⟨S.I++[⟨K,s,rank,now,exp,0⟩],S.P++[K],S.Q,S.V⟩,0):=by
 unfold UO;have e1:uT N now s S.I.length S=(S,true):=by
  cases S.I.length with
  | zero=>rw[uT,decide_eq_true (by omega)]
  | succ n=>rw[uT,if_neg h]
 rw[e1]
theorem Sr.kn{sb N:Nat}{S:Ss}{H:List Chunk}(h:Sr sb N S H):(keys S.I).Nodup:=by
 obtain⟨W,D,L,ab,tb,mb,lb,db,ev,HA,HT,HM,HL,HD,HV,h,rfl⟩:=h;exact h.q.kn
abbrev Kr(p6:Nat)(s:St)(v:Value):List Chunk:=[(p6,.cells (Jw s v) 46)]
abbrev bF(p:Nat)(k:Ky):List Chunk:=[(p,.cells (WS k) 43)]
set_option maxRecDepth 10000 in
set_option maxHeartbeats 1000000 in
theorem Eu{sb N:Nat}{S:Ss}{H:List Chunk}{S0:zB}{s:St}{v:Value}(hS:Sr sb N S H)(hs:kK s)(hv:Src S0 v s.rrs)(hV:S.V.length+S.I.length<2 ^ 30)(rank now exp:Int):
 Tri Tryz.prog 77 #[.pointer (some ⟨sb,0,none⟩),.agg (Jw s v),.int .i64 rank,.int .i64 now,.int .i64 exp] (H::S0) (fun r S'=>r= .int .i64 (Uv N s rank now exp S).2∧∃H',Sr sb N (Uv N s rank now exp S).1 H'∧S'=H'::S0):=by
 have hsn:=hs.name;refine Tri.forget (zn Tryz.MO (Nat.le_of_ble_eq_true rfl) ?_);unfold Tryz.NV;obtain⟨va,vc,rfl⟩:=hv.isSlice;refine ze (z8 ?_);refine zh (Zv rfl fun p6=>?_);refine yp pC (zf (za (ze (ze (z8 ?_)))));refine zh (wC rfl rfl ?_);refine zh (zk (Ko hs hv) rfl rfl fun r S' h=>?_);obtain⟨rfl,h⟩:=h;have h:=h.symm;subst h;rcases Decidable.em (wh s≠0) with hE | hE
 ·have hP:Uv N s rank now exp S=(S,wh s):=by unfold Uv; rw[if_pos hE]
  rw[hP];refine yp (pU rfl) (yp (pExt rfl rfl) (yp (pExt rfl rfl) (yp (pI rfl) (yp (pI rfl) (zf (za (ze (z8 (yp (pI rfl) (yp (UF rfl rfl) (zf (za ?_))))))))))));rw[decide_eq_false hE];refine zI rfl (ze (z8 (yp (pI rfl) (yp (pI rfl) (zf (za (zL (zX ?_))))))));exact zK (rI rfl) ⟨_,.of,rfl,_,hS,rfl⟩
 have hE:=Decidable.not_not.1 hE;have hP0:Uv N s rank now exp S=if gY rank now exp=false then(S,1) else bg N s rank now exp S:=by unfold Uv; rw[if_neg (by rw[hE]; decide)]
 rw[hE];refine yp (pU rfl) (yp (pExt rfl rfl) (yp (pExt rfl rfl) (yp (pI rfl) (yp (pI rfl) (zf (za (ze (z8 (yp (pI rfl) (yp (UF rfl rfl) (zf (za (zw rfl (zq (za ?_)))))))))))))));refine UH (fun E S'=>Has E [(0,.pointer (some ⟨sb,0,none⟩)),(2,.int .i64 rank),(3,.int .i64 now),(4,.int .i64 exp),(6,.pointer (some ⟨p6,0,none⟩))]∧gY rank now exp=true∧zG S' (Kr p6 s (.slice va s.rrs.length vc)::H::S0)) ?_ fun E S' ⟨hE2,hok,hJ⟩=>?_
 ·have hbad:gY rank now exp=false→Uv N s rank now exp S=(S,1):=fun h=>by rw[hP0,if_pos h]
  refine ze (z8 (yp (pI rfl) ?_));refine zh (zk (XZ now 1099511627776) rfl rfl fun r S' h=>?_);obtain⟨rfl,rfl⟩:=h;cases h1:rW now 1099511627776 with
  | false=>
   rw[hbad (by unfold gY; rw[h1]; rfl)];refine yp (Ze rfl) (yp (pB rfl) (Z5 rfl (Z5 rfl (Z5 rfl (yp (zP rfl rfl) (yp (pB rfl) (Z5 rfl (Z5 rfl (Z5 rfl (yp (zP rfl rfl) (yp (pB rfl) (Z5 rfl (Z5 rfl (Z5 rfl (yp (zP rfl rfl) (zf (za (zI rfl (ze (z8 (yp pC (zf (za (zL (zX ?_)))))))))))))))))))))))));exact zK (rI rfl) ⟨_,.of,rfl,_,hS,rfl⟩
  | true=>
   refine yp (Ze rfl) (yp (pB rfl) (Z0 rfl (Zc (pI rfl) (Z0 rfl ?_))));refine zk (XZ exp 1099511627776) rfl rfl fun r S' h=>?_
   obtain⟨rfl,rfl⟩:=h;cases h2:rW exp 1099511627776 with
   | false=>
    rw[hbad (by unfold gY; rw[h1,h2]; rfl)];refine Z0 rfl (Zc (Ze rfl) (yp (zU rfl rfl) (yp (pB rfl) (Z5 rfl (Z5 rfl (Z5 rfl (yp (zP rfl rfl) (yp (pB rfl) (Z5 rfl (Z5 rfl (Z5 rfl (yp (zP rfl rfl) (zf (za (zI rfl (ze (z8 (yp pC (zf (za (zL (zX ?_))))))))))))))))))))));exact zK (rI rfl) ⟨_,.of,rfl,_,hS,rfl⟩
   | true=>
    refine Z0 rfl (Zc (Ze rfl) (yp (zU rfl rfl) (yp (pB rfl) (Z0 rfl (Zc (pI rfl) (Z0 rfl (Zc (pI rfl) (Z0 rfl (Zc (Xl rfl rfl) (yp (zU rfl rfl) (yp (pB rfl) ?_)))))))))));by_cases h3:exp≤now
    ·rw[hbad (by unfold gY; rw[h1,h2,decide_eq_true h3]; rfl)];rw[decide_eq_true h3];refine Z5 rfl (Z5 rfl (Z5 rfl (yp (zP rfl rfl) (zf (za (zI rfl (ze (z8 (yp pC (zf (za (zL (zX ?_)))))))))))));exact zK (rI rfl) ⟨_,.of,rfl,_,hS,rfl⟩
    ·rw[decide_eq_false h3];refine Z0 rfl (Zc (pI rfl) (Z0 rfl ?_));refine zk (XZ rank 9) rfl rfl fun r S' h=>?_
     obtain⟨rfl,rfl⟩:=h;cases h4:rW rank 9 with
     | false=>
      rw[hbad (by unfold gY; rw[h4]; simp)];refine Z0 rfl (Zc (Ze rfl) (yp (zU rfl rfl) (zf (za (zI rfl (ze (z8 (yp pC (zf (za (zL (zX ?_))))))))))));exact zK (rI rfl) ⟨_,.of,rfl,_,hS,rfl⟩
     | true=>
      refine Z0 rfl (Zc (Ze rfl) (yp (zU rfl rfl) (zf (za (zw rfl (zq (za ?_)))))));exact⟨⟨rfl,rfl,rfl,rfl,rfl,trivial⟩,by unfold gY; rw[h1,h2,decide_eq_false h3,h4]; rfl,.of⟩
 rw[hok,if_neg (by decide)] at hP0;obtain⟨E0,e0⟩:=zl hE2; subst e0; clear hE2;refine zm hJ (ze (ze (z8 (yp (pP rfl) (yp (wJ rfl rfl) (zf (za (zw rfl (zq (za (ze (z8 (yp (zx rfl) ?_)))))))))))));refine zh (wB (l:=[sv s.name,.int .i64 s.typ]) rfl rfl rfl ?_);refine zh (zk (fq ⟨s.name,s.typ⟩ (by show s.name.length<_; omega)) rfl rfl fun r S' h=>?_);obtain⟨rfl,rfl⟩:=h;show YL _ _ _ _ _ (Zk _ (.agg (WS (ZA s))) _) _;refine zh (Z8 fun p13=>?_);refine zh (wz rfl rfl rfl rfl rfl ?_);refine zf (za ?_);refine UH (fun E S'=>Has E [(0,.pointer (some ⟨sb,0,none⟩)),(2,.int .i64 rank),(3,.int .i64 now),(4,.int .i64 exp),(6,.pointer (some ⟨p6,0,none⟩)),(13,.pointer (some ⟨p13,0,none⟩))]∧∃S1 H1,Sr sb N S1 H1∧VJ S1.I (ZA s)=none∧Uv N s rank now exp S=UO N (ZA s) s rank now exp S1∧S1.V.length+S1.I.length<2 ^ 30∧zG S' (bF p13 (ZA s)::Kr p6 s (.slice va s.rrs.length vc)::H1::S0)) ?_ fun E S' ⟨hE2,S1,H1,hS1,hb1,hP1,hV1,hJ⟩=>?_
 ·have hS':=hS;obtain⟨W,D,L,ab,tb,mb,lb,db,ev,HA,HT,HM,HL,HD,HV,h,rfl⟩:=hS;refine zm (S0:=bF p13 (ZA s)::Kr p6 s (.slice va s.rrs.length vc)::sH sb ab tb mb lb db ev HA HT HM HL HD HV W::S0) zG.of (zm (zG.cons (zG.cons zG.Oz)) (ze (zY (zi (pP rfl) (zi (zS rfl) (zi (zx rfl) (Zd rfl rfl (vH rfl rfl ?_))))))));cases hb:VJ S.I (ZA s) with
  | none=>
   refine zH (uh h.m (by repeat (first | exact List.mem_cons_self | apply List.mem_cons_of_mem)) (ZA s) Xh sP CJ rfl rfl (Ir (qx h.q hb)) ?_) zM;refine zi (pP rfl) (zD (za (ze (z8 (yp (pP rfl) (yp (yt rfl rfl) (zf (za (zw rfl (zq (za ?_)))))))))));exact⟨⟨rfl,rfl,rfl,rfl,rfl,rfl,trivial⟩,S,_,hS',hb,hP0.trans (YF hb),hV,zG.OA⟩
  | some i=>
   have hP1:=hP0.trans (bf hb);obtain⟨e,hf,he,rfl,hek⟩:=KL h.q hb;refine zH (uh h.m (by repeat (first | exact List.mem_cons_self | apply List.mem_cons_of_mem)) (ZA s) Xh sP CJ rfl rfl (ak hf) ?_) zM;refine zi (pP rfl) (zD (za (ze (z8 (yp (pP rfl) (yp (yt rfl rfl) (zf (za (zI rfl (ze (ze (z8 (yp (pP rfl) (yp (zS rfl) (yp (zx rfl) ?_)))))))))))))));refine zh (XR (v:= .int .i64 e.i.pins) (by repeat (first | exact List.mem_append.2 (.inl (jd he)) | apply List.mem_cons_of_mem)) rfl rfl ?_);refine yp (VE rfl rfl) (zf (za ?_));by_cases hp:0<e.i.pins
   ·rw[decide_eq_true hp];rw[if_pos hp] at hP1;rw[hP1];refine zI rfl (ze (z8 (yp pC (zf (za (zL (zX (zX ?_))))))));exact zK (rI rfl) ⟨_,zG.OI,rfl,_,hS',rfl⟩
   ·rw[decide_eq_false hp];rw[if_neg hp] at hP1;refine zw rfl (zq (za (z8 (yp (pP rfl) ?_))));refine zh (wC rfl rfl ?_);refine zh (zk (Tri.op (eZ hS' hb)) rfl rfl fun r S' h=>?_);obtain⟨rfl,H1,hS1,rfl⟩:=h;refine zf (za ?_);have hol:=yu hS'.kn hb;exact⟨⟨rfl,rfl,rfl,rfl,rfl,rfl,trivial⟩,_,H1,hS1,lK _ _,hP1,by show S.V.length+(uN S.I (ZA s)).length<_; omega,.of⟩
 rw[hP1];clear hP1 hP0 hS hV;obtain⟨E0,e0⟩:=zl hE2; subst e0; clear hE2;refine zm hJ ?_;generalize hR:UO N (ZA s) s rank now exp S1=R;refine ze (zo ?_);refine Z4 (σ:=Ss) (fun S2 E S'=>Has E [(0,.pointer (some ⟨sb,0,none⟩)),(2,.int .i64 rank),(3,.int .i64 now),(4,.int .i64 exp),(6,.pointer (some ⟨p6,0,none⟩)),(13,.pointer (some ⟨p13,0,none⟩))]∧VJ S2.I (ZA s)=none∧UO N (ZA s) s rank now exp S2=R∧S2.V.length+S2.I.length<2 ^ 30∧∃H2,Sr sb N S2 H2∧zG S' (bF p13 (ZA s)::Kr p6 s (.slice va s.rrs.length vc)::H2::S0)) (fun S2=>S2.I.length) S1 ⟨⟨rfl,rfl,rfl,rfl,rfl,rfl,trivial⟩,hb1,hR,hV1,H1,hS1,.of⟩ fun S2 E S' ⟨hE2,hb2,hP2,hV2,H2,hS2,hJ⟩=>?_
 clear hS1 hb1 hV1 hR;have hS2':=hS2;obtain⟨W,D,L,ab,tb,mb,lb,db,ev,HA,HT,HM,HL,HD,HV,h,rfl⟩:=hS2;have hnb:=h.nb;obtain⟨E0,e0⟩:=zl hE2; subst e0; clear hE2;refine zm hJ (zm (zG.cons (zG.cons zG.Oz)) (ze (ze (zY (zi (pP rfl) (zi (zS rfl) (zi (zx rfl) (Zd rfl rfl (vH rfl rfl (zi (pP rfl) ?_))))))))));have hv':Src (Es W++S0) (.slice va s.rrs.length vc) s.rrs:=Src.mono hv fun _ hs=>List.mem_append.2 (.inr hs)
 refine zH (zk (Bp (S:=Es W++S0) h.t hs hv') rfl rfl fun r S' h=>?_) zM;obtain⟨rfl,rfl⟩:=h;refine zH (zk (nG (sb:=sb) (tb:=tb) (mb:=mb) (lb:=lb) (db:=db) (ev:=ev) h.a) rfl rfl fun r S' h=>?_) zM;obtain⟨rfl,rfl⟩:=h;rw[h.q.cost,h.q.left];refine zi (VE rfl rfl) (zD (za ?_));by_cases hc:uV N S2<Vx (sets S2.I) s
 ·rw[decide_eq_true hc];refine zI rfl (zq (za (zo ?_)));refine zm (S0:=bF p13 (ZA s)::Kr p6 s (.slice va s.rrs.length vc)::sH sb ab tb mb lb db ev HA HT HM HL HD HV W::S0) ?_ ?_
  ·exact zG.OA
  refine ze (z8 (yp (pP rfl) (yp (pI rfl) ?_)));refine zh (zk (Ay hS2' now) rfl rfl fun r S' h=>?_);obtain⟨rfl,rfl⟩:=h;cases hn:VW now S2 with
  | none=>
   rw[←hP2,AL hc hn];refine yp (pU rfl) (yp (pExt rfl rfl) (yp (pExt rfl rfl) ?_));refine zh (Z8 fun p15=>?_);refine zh (wz rfl rfl rfl rfl rfl ?_);refine yp (pB rfl) (zf (za (ze (ze (z8 (yp (pB rfl) (yp (Ze rfl) (zf (za (zI rfl (ze (z8 (yp pC (zf (za (zL (zX (bret (zX (bret (zX ?_)))))))))))))))))))));exact zK (rI rfl) ⟨_,.of,rfl,_,hS2',rfl⟩
  | some k=>
   obtain⟨i,hi,_⟩:=oD hn;refine yp (pU rfl) (yp (pExt rfl rfl) (yp (pExt rfl rfl) ?_));refine zh (Z8 fun p15=>?_);refine zh (wz rfl rfl rfl rfl rfl ?_);refine yp (pB rfl) (zf (za (ze (ze (z8 (yp (pB rfl) (yp (Ze rfl) (zf (za (zw rfl (zq (za (z8 (yp (pP rfl) ?_))))))))))))));refine zh (wC rfl rfl ?_);refine zh (zk (nI hS2' hi (by omega)) rfl rfl fun r S' h=>?_);obtain⟨rfl,H3,hS3,rfl⟩:=h;refine zf (zT (za ?_));have hol:=yu hS2'.kn hi;refine⟨tK k S2,⟨⟨rfl,rfl,rfl,rfl,rfl,rfl,trivial⟩,pR hb2,(fC hS2'.kn hc hn hi).symm.trans hP2,?_,H3,hS3,.of⟩,?_⟩
   ·show(S2.V++[k]).length+(uN S2.I k).length<_;rw[List.length_append,List.length_singleton]; omega
   ·show(uN S2.I k).length<_;omega
 ·rw[decide_eq_false hc];have hR:=fD (K:=ZA s) (rank:=rank) (now:=now) (exp:=exp) hc;rw[←hP2,hR];have hus:=h.q.us hnb.2.1 hnb.1;refine zw rfl (zV (zy (zy (zW (za (ze (zY (zi (pP rfl) (zi (zS rfl) (zi (zx rfl) (Zd rfl rfl (zi (pP rfl) (zi (zS rfl) (zi (zx rfl) (Zd rfl rfl (vH rfl rfl ?_))))))))))))))));refine zH (zk (Bl (S:=Es W++S0) h.t h.a h.q.pk.inn h.q.pk.pos h.q.pk.hs hus hs hv') rfl rfl fun r S' hp=>?_) zM;have hfit:fits N D L s:=by
   unfold fits;rw[h.q.cost];have:=h.q.left (N:=N);omega
  rcases hp with⟨hp,_⟩ | ⟨_,hp,_⟩ | ⟨_,_,HT1,HA1,D1,rfl,hT1,hA1,hI1,hB1,_,rfl⟩
  ·exact absurd hE hp
  ·exact absurd hfit hp
  have hex:=(J7 hE hnb.2.1 ⟨by have:=Qp (u7 hE).1; omega,(u7 hE).2⟩ (yA (u7 hE).1)).1 hfit;refine zi (pU rfl) (zi (pExt rfl rfl) (zi (pExt rfl rfl) (zi (pI rfl) (zi (pI rfl) (zD (za (ze (ze (z8 (yp (pI rfl) (yp (UF rfl rfl) (zf (za (zw rfl (zq (za (ze (zY (zi (pP rfl) (zi (zS rfl) (zi (zx rfl) (Zd rfl rfl (vH rfl rfl (zi (pI rfl) (zi (pI rfl) (zi (pI rfl) (zi (pI rfl) (zi (v:= .agg #[.int .i64 ((hnd (wO N D L (Zb s)).D:Nat):Int),.int .i64 rank,.int .i64 now,.int .i64 exp,.int .i64 0]) rfl ?_))))))))))))))))))))))))))));refine Zm (Zv rfl fun p112=>⟨(by first | exact fun _ h=>List.mem_cons_of_mem _ h | simp),?_⟩) zM;refine zH (rG h.m (ZA s) (⟨some p112⟩:Ptr) Xh sP rfl rfl rfl fun HM1 hM1=>?_) zM;refine zD (za (ze (zY (zi (pP rfl) (zi (zS rfl) (zi (zx rfl) (Zd rfl rfl (vH rfl rfl ?_))))))));refine zH (zk (Fg h.l (by omega) (by omega) (ZA s)) rfl rfl fun r S' h=>?_) zM;obtain⟨rfl,HL1,hL1,rfl⟩:=h;refine zD (za (ze (zY (zi (pP rfl) (zi (zS rfl) (zi (zx rfl) (Zd rfl rfl (vH rfl rfl (zi (pI rfl) ?_)))))))));refine zH (zk (Fh h.d (by rw[List.length_map]; omega) (ZA s) exp) rfl rfl fun r S' h=>?_) zM;obtain⟨rfl,HD1,hD1,rfl⟩:=h;refine zD (za (ze (z8 (yp pC (zf (za (zL ?_)))))));have hfn:=qx h.q hb2;have hnk:=vP.1 hb2;have hnP:¬(ZA s∈S2.P∨ZA s∈S2.Q):=fun hm=>hnk (h.q.pq.mem_iff.1 (List.mem_append.2 hm))
  rw[mI,if_neg hnP] at hL1;rw[qF hb2] at hD1;have hq:=h.q.put hE hs hex.1 hI1 hB1 hb2 rank now exp p112;generalize hen:(⟨⟨ZA s,s,rank,now,exp,0⟩,((hnd (wO N D L (Zb s)).D:Nat):Int),(wO N D L (Zb s)).ids,p112⟩:En)=en at hq;have hM2:Mp mb (Yc (W++[en])) (W++[en]).length HM1:=by
   have e1:Yc (W++[en])=wT (Yc W) (ZA s) (some (⟨some p112⟩:Ptr)):=by rw[pK (by rw[←hen]; exact hfn), ←hen]
   have e2:Xq (Yc W) (ZA s) W.length=(W++[en]).length:=by
    unfold Xq Yc;rw[hfn,List.length_append]; rfl
   rw[e1, ←e2]; exact hM1
  have hD2:Du db ((S2.I++[(⟨ZA s,s,rank,now,exp,0⟩:It)]).map It.de) HD1:=by rw[List.map_append]; exact hD1
  have hse:qC en=[(p112,.cells #[.int .i64 ((hnd (wO N D L (Zb s)).D:Nat):Int),.int .i64 rank,.int .i64 now,.int .i64 exp,.int .i64 0] 184)]:=by rw[←hen]
  refine zK (rI rfl) ⟨_,?_,rfl,_,Sr.mk ⟨hq,hA1,hT1,hM2,hL1,hD2,h.v⟩,rfl⟩;exact zG.add hse.symm
def swp(f:Ss × Nat)(k:Ky):Ss × Nat:=if free f.1.I k=true then(tK k f.1,f.2+1) else f
structure OL(now:Int)(S:Ss)(n:Nat)(R:Ss × Nat):Prop where
 kn:(keys R.1.I).Nodup
 mem:∀x∈(due now S.I).drop n,x∈keys R.1.I
 len:R.1.V.length+R.1.I.length=S.V.length+S.I.length
 cnt:R.2≤n
theorem IL:isAgg? Tryz.prog 3=some false:=by kernel_rfl
theorem eY(now:Int):Tri Tryz.prog 87 #[.pointer none,.int .i64 now] [] (fun r S'=>r= .int .i64 0∧S'=[]):=by
 refine Tri.forget (zn Tryz.MH (Nat.le_of_ble_eq_true rfl) ?_);unfold Tryz.NQ;refine ze (z8 ?_);refine zh (mO (jI rfl) fun p2=>?_);refine zh (Z8 fun p4=>?_);refine zf (za (ze (ze (z8 ?_))));refine zh (zF rfl rfl ?_);refine yp (wJ rfl rfl) (zf (za (zI rfl (ze (z8 ?_)))));refine zh (ZO rfl rfl (uM rfl) ?_);refine zf (za (zL (zX ?_)));exact zK (jO (IY (b:=p4) IL rfl)) ⟨[],.of,rfl,rfl⟩
end Go.Proofs.YtekgciopamkjlaaGreat
