/- The set of an address may be: what it takes. Stores of addresses' sets, plainly: what they take, who goes. A store of one item, plainly. -/
import Derived.Test.YtejmbmenbailmaaGreatS1
import Derived.Test.YtejmbmenbailmaaGreatC1
namespace Go.Proofs.YtejmbmenbailmaaGreat
open Go.Xs
open Enc (enc)
theorem nA{n d:Bs}(hn:wR n=true)(hd:d.length=4):wD (uj n d)=0∧Zm (uj n d)=22∧Z8 (uj n d)=[n,[0]]∧jg (uj n d):=by
 have hv0:wR [0]=true:=by decide+kernel
 have hp:prt 1 d=[]:=VN rfl;have hdo:ZF 1 d=true:=by unfold ZF; rw[if_neg (by omega),if_pos rfl,hd]; rfl
 have hsz:Zm (uj n d)=22:=by
  unfold Zm uj WR;simp only[List.map_cons,List.map_nil,hp,hd];decide
 have hm:WW (uj n d)=true:=by
  unfold WW uj X3 yF;simp[hn,hv0,hdo]
 have hnl:=wM hn;refine⟨?_,hsz,?_,⟨by show n.length<_; omega,by show 1<_; omega,by show 1<_; omega,fun r hr=>?_⟩⟩
 ·unfold wD;rw[if_neg (by rw[hm]; decide),hsz,if_neg (by decide)]
 ·unfold Z8 uj Zv;simp only[List.map_cons,List.map_nil,hp]; rfl
 ·rw[List.mem_singleton.1 hr];exact⟨by show n.length<_; omega,by show d.length<_; omega⟩
/-- a short name in small letters, not the root's -/
structure Av(n:Bs):Prop where
 v:wR n=true
 f:zB n=n
 l:1≤n.length∧n.length≤16
 z:n≠[0]
def JB(s:St):Prop:=∃n d,Av n∧d.length=4∧s=uj n d
theorem kJ:zB [0]=[0]:=by decide+kernel
theorem vM{k:Nat}(h:9≤k∧k≤24):zY k=32:=by
 unfold zY;rw[if_neg (by omega),if_pos (by omega)]
structure MP(s:St):Prop where
 err:wD s=0
 ok:jg s
 nms:Z8 s=[s.name,[0]]
 siz:zY (Zm s).toNat=32
 cst:cost (Zm s)=32
 key:Zc s=⟨s.name,1⟩
 nm:Av s.name
theorem JB.q{s:St}(h:JB s):MP s:=by
 obtain⟨n,d,hn,hd,rfl⟩:=h;obtain⟨h1,h2,h3,h4⟩:=nA hn.v hd;refine⟨h1,h4,h3,by rw[h2]; decide,by rw[h2]; decide,?_,hn⟩;show fk ⟨n,1⟩=⟨n,1⟩;unfold fk;rw[hn.f]
theorem sJ{n:Bs}(h:Av n)(t:Int):fk ⟨n,t⟩=⟨n,t⟩:=by unfold fk; rw[h.f]
theorem vD{α:Type}{f:α→Nat}{c:Nat}:∀{l:List α},(∀x∈l,f x=c)→(l.map f).sum=c*l.length
 | [],_=>by simp
 | x::l,h=>by
  rw[List.map_cons,List.sum_cons,vD fun y hy=>h y (List.mem_cons_of_mem _ hy),h x (by simp),List.length_cons,Nat.mul_succ]; omega
theorem gN{I:List St}(h:∀s∈I,JB s)(n:Bs):n∈aR I↔n∈I.map (·.name)∨(n=[0]∧I≠[]):=by
 rw[KD,List.mem_map];have e:∀s∈I,(Z8 s).map zB=[s.name,[0]]:=fun s hs=>by
  rw[(h s hs).q.nms];simp only[List.map_cons,List.map_nil,(h s hs).q.nm.f,kJ]
 constructor
 ·rintro⟨s,hs,hn⟩;rw[e s hs] at hn;rcases List.mem_cons.1 hn with rfl | hn
  ·exact .inl ⟨s,hs,rfl⟩
  ·exact .inr ⟨List.mem_singleton.1 hn,fun q=>by rw[q] at hs; simp at hs⟩
 ·rintro(⟨s,hs,rfl⟩ | ⟨rfl,hne⟩)
  ·exact⟨s,hs,by rw[e s hs]; simp⟩
  ·obtain⟨s,hs⟩:=List.exists_mem_of_ne_nil _ hne;exact⟨s,hs,by rw[e s hs]; simp⟩
theorem mG{I:List St}(h:∀s∈I,JB s)(hn:(I.map (·.name)).Nodup)(h0:I≠[]):VL I=64*I.length+32:=by
 have hd:([0]::I.map (·.name)).Nodup:=List.nodup_cons.2 ⟨fun hm=>by
  obtain⟨s,hs,e⟩:=List.mem_map.1 hm;exact(h s hs).q.nm.z e,hn⟩
 rw[aG hd fun n=>by
  rw[gN h,List.mem_cons];constructor
  ·rintro(rfl | h2)
   ·exact .inr ⟨rfl,h0⟩
   ·exact .inl h2
  ·rintro(h2 | ⟨rfl,_⟩)
   ·exact .inr h2
   ·exact .inl rfl]
 rw[List.map_cons,List.sum_cons,vD (f:=fun n:Bs=>zY (8+n.length)) (c:=32) (l:=I.map (·.name)) fun n hn=>by
  obtain⟨s,hs,rfl⟩:=List.mem_map.1 hn;have:=(h s hs).q.nm.l;exact vM (by omega),vD (f:=fun s=>zY (Zm s).toNat) (c:=32) fun s hs=>(h s hs).q.siz,List.length_map]
 show zY 9+_+_=_;rw[vM (by decide)];omega
theorem pz{I:List St}{s:St}(h:∀s∈I,JB s)(hs:JB s)(hn:s.name ∉ I.map (·.name)):vY I s=if I=[] then 96 else 64:=by
 have q:=hs.q;have hl:=q.nm.l;have hz:=q.nm.z;have e0:([0]:Bs)∈aR I↔I≠[]:=by
  rw[gN h];constructor
  ·rintro(hm | hm)
   ·obtain⟨x,hx,e⟩:=List.mem_map.1 hm;exact absurd e (h x hx).q.nm.z
   ·exact hm.2
  ·exact fun hm=> .inr ⟨rfl,hm⟩
 have e1:s.name ∉ aR I:=fun hm=>by
  rcases(gN h _).1 hm with hm | hm
  ·exact hn hm
  ·exact hz hm.1
 unfold vY;rw[if_pos q.err,q.cst,q.nms];unfold U2 U2 U2;rw[q.nm.f,kJ,if_neg (by simpa using e1),vM (by omega),show zY (8+([0]:Bs).length)=32 from vM (by decide)];by_cases hI:I=[]
 ·rw[if_pos hI,if_neg]
  ·rfl
  ·rw[e0];rintro(hm | hm)
   ·exact hz (List.mem_singleton.1 hm).symm
   ·exact hm hI
 ·rw[if_neg hI,if_pos (.inr (e0.2 hI))]; rfl
/-! ### items of such sets -/
structure Fam(I:List It):Prop where
 a:∀i∈I,JB i.s
 k:∀i∈I,i.k=Zc i.s
 n:(keys I).Nodup
theorem Fam.key{I:List It}(h:Fam I){i:It}(hi:i∈I):i.k=⟨i.s.name,1⟩:=by rw[h.k i hi,(h.a i hi).q.key]
theorem Fam.sa{I:List It}(h:Fam I):∀s∈sets I,JB s:=fun s hs=>by
 obtain⟨i,hi,rfl⟩:=List.mem_map.1 hs;exact h.a i hi
theorem Fam.nms{I:List It}(h:Fam I):(sets I).map (·.name)=(keys I).map (·.n):=by
 unfold sets keys;rw[List.map_map,List.map_map];refine List.map_congr_left fun i hi=>?_
 show i.s.name=i.k.n;rw[h.key hi]
theorem Fam.O8{I:List It}(h:Fam I):((keys I).map (·.n)).Nodup:=by
 have:∀k∈keys I,k.t=1:=fun k hk=>by
  obtain⟨i,hi,rfl⟩:=List.mem_map.1 hk;rw[h.key hi]
 have hn:=h.n;generalize keys I=K at*
 induction K with
 | nil=>simp
 | cons k K ih=>
  have h2:=List.nodup_cons.1 hn;rw[List.map_cons];refine List.nodup_cons.2 ⟨fun hm=>?_,ih (fun x hx=>this x (List.mem_cons_of_mem _ hx)) h2.2⟩;obtain⟨x,hx,e⟩:=List.mem_map.1 hm;exact h2.1 (by rw[show k=x from Ky.ext' e.symm (by rw[this k (by simp),this x (List.mem_cons_of_mem _ hx)])]; exact hx)
theorem Fam.used{I:List It}(h:Fam I)(h0:I≠[]):VL (sets I)=64*I.length+32:=by
 rw[mG h.sa (by rw[h.nms]; exact h.O8) (by unfold sets; simpa using h0)];unfold sets;rw[List.length_map]
theorem Fam.cost{I:List It}(h:Fam I){s:St}(hs:JB s)(hb:vE I (Zc s)=none):vY (sets I) s=if I=[] then 96 else 64:=by
 rw[pz h.sa hs fun hm=>?_]
 ·unfold sets;cases I<;>rfl
 ·rw[h.nms] at hm;obtain⟨k,hk,e⟩:=List.mem_map.1 hm;refine Ws.1 hb ?_;obtain⟨i,hi,rfl⟩:=List.mem_map.1 hk;rw[hs.q.key, ←e,show(⟨i.k.n,1⟩:Ky)=i.k from by rw[h.key hi]];exact hk
theorem Fam.left{N:Nat}{S:Ss}(h:Fam S.I):uX N S=((N-(if S.I=[] then 0 else 64*S.I.length+32):Nat):Int):=by
 unfold uX;split
 ·next e=>rw[e]; rfl
 ·next e=>rw[h.used e]
theorem Fam.nil:Fam []:=⟨fun i hi=>by simp at hi,fun i hi=>by simp at hi,List.nodup_nil⟩
theorem Fam.out{I:List It}(h:Fam I)(k:Ky):Fam (Vj I k):=⟨fun i hi=>h.a i ((vH _ _).subset hi),fun i hi=>h.k i ((vH _ _).subset hi),((vH I k).map _).nodup h.n⟩
theorem Fam.ug{I:List It}(h:Fam I)(k:Ky)(p:Int):Fam (ug I k p):=by
 have hq:∀i∈Go.Proofs.YtejmbmenbailmaaGreat.ug I k p,∃j∈I,i.s=j.s∧i.k=j.k:=fun i hi=>by
  obtain⟨j,hj,rfl⟩:=List.mem_map.1 hi;refine⟨j,hj,?_⟩;show(if j.k=k then {j with pins:=p} else j).s=j.s∧(if j.k=k then {j with pins:=p} else j).k=j.k;split<;>exact⟨rfl,rfl⟩
 refine⟨fun i hi=>?_,fun i hi=>?_,by rw[X0]; exact h.n⟩
 ·obtain⟨j,hj,e,_⟩:=hq i hi;rw[e]; exact h.a j hj
 ·obtain⟨j,hj,e1,e2⟩:=hq i hi;rw[e1,e2]; exact h.k j hj
abbrev Ea(s:St)(rank now exp:Int):It:=⟨Zc s,s,rank,now,exp,0⟩
def He(s:St)(rank now exp:Int)(S:Ss):Ss:=⟨S.I++[Ea s rank now exp],S.P++[Zc s],S.Q,S.V⟩
theorem Fam.add{I:List It}(h:Fam I){s:St}(hs:JB s)(hb:vE I (Zc s)=none)(rank now exp:Int):Fam (I++[Ea s rank now exp]):=by
 refine⟨fun i hi=>?_,fun i hi=>?_,?_⟩
 ·rcases List.mem_append.1 hi with hi | hi
  ·exact h.a i hi
  ·rw[List.mem_singleton.1 hi]; exact hs
 ·rcases List.mem_append.1 hi with hi | hi
  ·exact h.k i hi
  ·rw[List.mem_singleton.1 hi]
 ·unfold keys;rw[List.map_append];refine List.nodup_append.2 ⟨h.n,by simp,fun a ha b hb2 q=>?_⟩;simp at hb2;exact Ws.1 hb (by rw[←hb2, ←q]; exact ha)
theorem nV(rank now exp:Int):Jy rank now exp=true↔(0≤now∧now≤1099511627776)∧(0≤exp∧exp≤1099511627776)∧now<exp∧0≤rank∧rank≤9:=by
 unfold Jy;rw[Bool.and_eq_true,Bool.and_eq_true,Bool.and_eq_true,U9,U9,U9];simp only[Bool.not_eq_true',decide_eq_false_iff_not];constructor
 ·rintro⟨⟨⟨h1,h2⟩,h3⟩,h4⟩;exact⟨h1,h2,by omega,h4⟩
 ·rintro⟨h1,h2,h3,h4⟩;exact⟨⟨⟨h1,h2⟩,by omega⟩,h4⟩
theorem fu{N:Nat}{s:St}(hs:JB s){rank now exp:Int}(hk:Jy rank now exp=true)(S:Ss):uV N s rank now exp S=jQ N s rank now exp S:=by
 unfold uV;rw[if_neg (by rw[hs.q.err]; decide),if_neg (by rw[hk]; decide)]
/-- there is room -/
theorem Fam.room{N:Nat}{S:Ss}(h:Fam S.I){s:St}(hs:JB s)(hb:vE S.I (Zc s)=none){rank now exp:Int}(hN:64*S.I.length+96≤N):Ul N (Zc s) s rank now exp S=(He s rank now exp S,0):=by
 rw[JN]
 ·rfl
 rw[h.left,h.cost hs hb];split
 ·next e=>omega
 ·next e=>omega
theorem Fam.Dq{N:Nat}{S:Ss}(h:Fam S.I){s:St}(hs:JB s)(hb:vE S.I (Zc s)=none){rank now exp:Int}(hk:Jy rank now exp=true)(hN:64*S.I.length+96≤N):uV N s rank now exp S=(He s rank now exp S,0):=by
 rw[fu hs hk,X5 hb,h.room hs hb hN]
abbrev nY:Ss:=⟨[],[],[],[]⟩
abbrev bV(s:St)(p r c x:Int):It:=⟨Zc s,s,r,c,x,p⟩
abbrev one(s:St)(p r c x:Int)(P Q:List Ky):Ss:=⟨[bV s p r c x],P,Q,[]⟩
theorem Xv(s:St)(p r c x:Int):vE [bV s p r c x] (Zc s)=some (bV s p r c x):=by
 unfold vE;rw[List.find?_cons,decide_eq_true rfl]
theorem AB(s:St)(p r c x:Int):Vj [bV s p r c x] (Zc s)=[]:=by
 unfold Vj;rw[List.filter_cons,if_neg (by simp)]; rfl
theorem Qz{s:St}{k:Ky}(hk:fk k=Zc s){p r c x b:Int}{P Q:List Ky}(h:0≤p+b∧p+b≤1000):X6 k b (one s p r c x P Q)=(one s (p+b) r c x P Q,0):=by
 unfold X6;rw[hk,show vE (one s p r c x P Q).I (Zc s)=_ from Xv s p r c x];show(if Jv (p+b) 1000=false then _ else _)=_;rw[(U9 _ _).2 h,if_neg (by decide)];show((⟨[if Zc s=Zc s then _ else _],P,Q,[]⟩:Ss),(0:Int))=_;rw[if_pos rfl]
theorem gF{s:St}{k:Ky}(hk:fk k=Zc s){p r c x b:Int}{P Q:List Ky}(h:¬(0≤p+b∧p+b≤1000)):X6 k b (one s p r c x P Q)=(one s p r c x P Q,1):=by
 unfold X6;rw[hk,show vE (one s p r c x P Q).I (Zc s)=_ from Xv s p r c x];show(if Jv (p+b) 1000=false then _ else _)=_;rw[if_pos];cases hw:Jv (p+b) 1000 with
 | false=>rfl
 | true=>exact absurd ((U9 _ _).1 hw) h
theorem aQ{s:St}{k:Ky}(hk:fk k=Zc s){p r c x:Int}{P Q:List Ky}(hp:0<p):Ya k (one s p r c x P Q)=(one s p r c x P Q,6):=by
 unfold Ya;rw[hk,show vE (one s p r c x P Q).I (Zc s)=_ from Xv s p r c x];show(if 0<p then _ else _)=_;rw[if_pos hp]
theorem nX{s:St}(hs:JB s){r c x:Int}(hk:Jy r c x=true):uV 2048 s r c x nY=(one s 0 r c x [Zc s] [],0):=Fam.nil.Dq (S:=nY) hs rfl hk (by decide)
theorem gD{s s':St}(hs:JB s')(he:Zc s'=Zc s){p r c x r' c' x':Int}{P Q:List Ky}(hk:Jy r' c' x'=true)(hp:0<p):uV 2048 s' r' c' x' (one s p r c x P Q)=(one s p r c x P Q,6):=by
 rw[fu hs hk,X4 (i:=bV s p r c x) (by rw[he]; exact Xv s p r c x),if_pos hp]
theorem QT{s:St}{p r c x now:Int}:due now [bV s p r c x]=if x≤now then [Zc s] else []:=by
 show((List.filter (fun e=>decide (Ur e≤now)) [(⟨Zc s,x⟩:De)]).map (·.k))=_;rw[List.filter_cons];by_cases h:x≤now
 ·rw[if_pos h,if_pos (by show decide (x≤now)=true; rw[decide_eq_true h])]; rfl
 ·rw[if_neg h,if_neg (by show ¬decide (x≤now)=true; rw[decide_eq_false h]; decide)]; rfl
theorem gy{s:St}{p r c x now:Int}{P Q:List Ky}(h:now<x∨0<p):jC now (one s p r c x P Q)=(one s p r c x P Q,0):=by
 unfold jC;rw[show(one s p r c x P Q).I=[bV s p r c x] from rfl,QT];split
 ·next h2=>
  show swp _ _=_;unfold swp free;rw[show vE (one s p r c x P Q,0).1.I (Zc s)=_ from Xv s p r c x];show(if decide (p=0)=true then _ else _)=_;rw[if_neg (by simp; omega)]
 ·rfl
theorem nU{s:St}{r c x now:Int}{P Q:List Ky}(h:x≤now):jC now (one s 0 r c x P Q)=(⟨[],P.erase (Zc s),Q.erase (Zc s),[Zc s]⟩,1):=by
 unfold jC;rw[show(one s 0 r c x P Q).I=[bV s 0 r c x] from rfl,QT,if_pos h];show swp _ _=_;unfold swp free;rw[show vE (one s 0 r c x P Q,0).1.I (Zc s)=_ from Xv s 0 r c x];show(if decide ((0:Int)=0)=true then _ else _)=_;rw[if_pos (by decide)];unfold bX;rw[show Vj (one s 0 r c x P Q,0).1.I (Zc s)=[] from AB s 0 r c x];rfl
theorem Qy{K:Ky}:YC 4 K [K] []=[]∧YB 4 K [K] []=[K]:=by
 unfold YC YB;constructor<;>simp
/-- the document's name -/
theorem Bv:Av [1,97,0]:=⟨by decide+kernel,by decide+kernel,by decide,by decide⟩
theorem iB{d:Bs}(hd:d.length=4):JB (uj [1,97,0] d):=⟨_,d,Bv,hd,rfl⟩
theorem Ep{d:Bs}(hd:d.length=4):Zc (uj [1,97,0] d)=⟨[1,97,0],1⟩:=(iB hd).q.key
end Go.Proofs.YtejmbmenbailmaaGreat
