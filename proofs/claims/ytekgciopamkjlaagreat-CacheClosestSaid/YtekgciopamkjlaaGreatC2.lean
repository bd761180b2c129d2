/- Stores of addresses' sets, plainly: what they take, who goes. A store of one item, plainly. Stores whose items are numbered, plainly. -/
import Derived.Test.YtekgciopamkjlaaGreatC1
import Derived.Test.YtekgciopamkjlaaGreatS1
namespace Go.Proofs.YtekgciopamkjlaaGreat
open Go.Xs
open Enc (enc)
/-- a short name in small letters, not the root's -/
structure Av(n:Bs):Prop where
 v:wm n=true
 f:zM n=n
 l:1≤n.length∧n.length≤16
 z:n≠[0]
def qz(s:St):Prop:=∃n d,Av n∧d.length=4∧s=ZG n d
theorem jy:zM [0]=[0]:=by decide+kernel
theorem XR{k:Nat}(h:9≤k∧k≤24):Z4 k=32:=by
 unfold Z4;rw[if_neg (by omega),if_pos (by omega)]
structure Tx(s:St):Prop where
 err:w9 s=0
 ok:YF s
 nms:Ze s=[s.name,[0]]
 siz:Z4 (Zx s).toNat=32
 cst:cost (Zx s)=32
 key:Zq s=⟨s.name,1⟩
 nm:Av s.name
theorem qz.q{s:St}(h:qz s):Tx s:=by
 obtain⟨n,d,hn,hd,rfl⟩:=h;obtain⟨h1,h2,h3,h4⟩:=Yk hn.v hd;refine⟨h1,h4,h3,by rw[h2]; decide,by rw[h2]; decide,?_,hn⟩;show fk ⟨n,1⟩=⟨n,1⟩;unfold fk;rw[hn.f]
theorem QA{n:Bs}(h:Av n)(t:Int):fk ⟨n,t⟩=⟨n,t⟩:=by unfold fk; rw[h.f]
theorem uR{α:Type}{f:α→Nat}{c:Nat}:∀{l:List α},(∀x∈l,f x=c)→(l.map f).sum=c*l.length
 | [],_=>by simp
 | x::l,h=>by
  rw[List.map_cons,List.sum_cons,uR fun y hy=>h y (List.mem_cons_of_mem _ hy),h x (by simp),List.length_cons,Nat.mul_succ]; omega
theorem rC{I:List St}(h:∀s∈I,qz s)(n:Bs):n∈fB I↔n∈I.map (·.name)∨(n=[0]∧I≠[]):=by
 rw[fA,List.mem_map];have e:∀s∈I,(Ze s).map zM=[s.name,[0]]:=fun s hs=>by
  rw[(h s hs).q.nms];simp only[List.map_cons,List.map_nil,(h s hs).q.nm.f,jy]
 constructor
 ·rintro⟨s,hs,hn⟩;rw[e s hs] at hn;rcases List.mem_cons.1 hn with rfl | hn
  ·exact .inl ⟨s,hs,rfl⟩
  ·exact .inr ⟨List.mem_singleton.1 hn,fun q=>by rw[q] at hs; simp at hs⟩
 ·rintro(⟨s,hs,rfl⟩ | ⟨rfl,hne⟩)
  ·exact⟨s,hs,by rw[e s hs]; simp⟩
  ·obtain⟨s,hs⟩:=List.exists_mem_of_ne_nil _ hne;exact⟨s,hs,by rw[e s hs]; simp⟩
theorem Bb{I:List St}(h:∀s∈I,qz s)(hn:(I.map (·.name)).Nodup)(h0:I≠[]):UE I=64*I.length+32:=by
 have hd:([0]::I.map (·.name)).Nodup:=List.nodup_cons.2 ⟨fun hm=>by
  obtain⟨s,hs,e⟩:=List.mem_map.1 hm;exact(h s hs).q.nm.z e,hn⟩
 rw[iD hd fun n=>by
  rw[rC h,List.mem_cons];constructor
  ·rintro(rfl | h2)
   ·exact .inr ⟨rfl,h0⟩
   ·exact .inl h2
  ·rintro(h2 | ⟨rfl,_⟩)
   ·exact .inr h2
   ·exact .inl rfl]
 rw[List.map_cons,List.sum_cons,uR (f:=fun n:Bs=>Z4 (8+n.length)) (c:=32) (l:=I.map (·.name)) fun n hn=>by
  obtain⟨s,hs,rfl⟩:=List.mem_map.1 hn;have:=(h s hs).q.nm.l;exact XR (by omega),uR (f:=fun s=>Z4 (Zx s).toNat) (c:=32) fun s hs=>(h s hs).q.siz,List.length_map]
 show Z4 9+_+_=_;rw[XR (by decide)];omega
theorem CJ{I:List St}{s:St}(h:∀s∈I,qz s)(hs:qz s)(hn:s.name ∉ I.map (·.name)):uJ I s=if I=[] then 96 else 64:=by
 have q:=hs.q;have hl:=q.nm.l;have hz:=q.nm.z;have e0:([0]:Bs)∈fB I↔I≠[]:=by
  rw[rC h];constructor
  ·rintro(hm | hm)
   ·obtain⟨x,hx,e⟩:=List.mem_map.1 hm;exact absurd e (h x hx).q.nm.z
   ·exact hm.2
  ·exact fun hm=> .inr ⟨rfl,hm⟩
 have e1:s.name ∉ fB I:=fun hm=>by
  rcases(rC h _).1 hm with hm | hm
  ·exact hn hm
  ·exact hz hm.1
 unfold uJ;rw[if_pos q.err,q.cst,q.nms];unfold XT XT XT;rw[q.nm.f,jy,if_neg (by simpa using e1),XR (by omega),show Z4 (8+([0]:Bs).length)=32 from XR (by decide)];by_cases hI:I=[]
 ·rw[if_pos hI,if_neg]
  ·rfl
  ·rw[e0];rintro(hm | hm)
   ·exact hz (List.mem_singleton.1 hm).symm
   ·exact hm hI
 ·rw[if_neg hI,if_pos (.inr (e0.2 hI))]; rfl
/-! ### items of such sets -/
structure Fam(I:List It):Prop where
 a:∀i∈I,qz i.s
 k:∀i∈I,i.k=Zq i.s
 n:(keys I).Nodup
theorem Fam.key{I:List It}(h:Fam I){i:It}(hi:i∈I):i.k=⟨i.s.name,1⟩:=by rw[h.k i hi,(h.a i hi).q.key]
theorem Fam.sa{I:List It}(h:Fam I):∀s∈sets I,qz s:=fun s hs=>by
 obtain⟨i,hi,rfl⟩:=List.mem_map.1 hs;exact h.a i hi
theorem Fam.nms{I:List It}(h:Fam I):(sets I).map (·.name)=(keys I).map (·.n):=by
 unfold sets keys;rw[List.map_map,List.map_map];refine List.map_congr_left fun i hi=>?_
 show i.s.name=i.k.n;rw[h.key hi]
theorem Fam.knn{I:List It}(h:Fam I):((keys I).map (·.n)).Nodup:=by
 have:∀k∈keys I,k.t=1:=fun k hk=>by
  obtain⟨i,hi,rfl⟩:=List.mem_map.1 hk;rw[h.key hi]
 have hn:=h.n;generalize keys I=K at*
 induction K with
 | nil=>simp
 | cons k K ih=>
  have h2:=List.nodup_cons.1 hn;rw[List.map_cons];refine List.nodup_cons.2 ⟨fun hm=>?_,ih (fun x hx=>this x (List.mem_cons_of_mem _ hx)) h2.2⟩;obtain⟨x,hx,e⟩:=List.mem_map.1 hm;exact h2.1 (by rw[show k=x from Ky.ext' e.symm (by rw[this k (by simp),this x (List.mem_cons_of_mem _ hx)])]; exact hx)
theorem Fam.used{I:List It}(h:Fam I)(h0:I≠[]):UE (sets I)=64*I.length+32:=by
 rw[Bb h.sa (by rw[h.nms]; exact h.knn) (by unfold sets; simpa using h0)];unfold sets;rw[List.length_map]
theorem Fam.cost{I:List It}(h:Fam I){s:St}(hs:qz s)(hb:wG I (Zq s)=none):uJ (sets I) s=if I=[] then 96 else 64:=by
 rw[CJ h.sa hs fun hm=>?_]
 ·unfold sets;cases I<;>rfl
 ·rw[h.nms] at hm;obtain⟨k,hk,e⟩:=List.mem_map.1 hm;refine vg.1 hb ?_;obtain⟨i,hi,rfl⟩:=List.mem_map.1 hk;rw[hs.q.key, ←e,show(⟨i.k.n,1⟩:Ky)=i.k from by rw[h.key hi]];exact hk
theorem Fam.left{N:Nat}{S:Ss}(h:Fam S.I):UK N S=((N-(if S.I=[] then 0 else 64*S.I.length+32):Nat):Int):=by
 unfold UK;split
 ·next e=>rw[e]; rfl
 ·next e=>rw[h.used e]
theorem Fam.nil:Fam []:=⟨fun i hi=>by simp at hi,fun i hi=>by simp at hi,List.nodup_nil⟩
theorem Fam.out{I:List It}(h:Fam I)(k:Ky):Fam (vS I k):=⟨fun i hi=>h.a i ((vR _ _).subset hi),fun i hi=>h.k i ((vR _ _).subset hi),((vR I k).map _).nodup h.n⟩
abbrev Vp(s:St)(rank now exp:Int):It:=⟨Zq s,s,rank,now,exp,0⟩
def VP(s:St)(rank now exp:Int)(S:Ss):Ss:=⟨S.I++[Vp s rank now exp],S.P++[Zq s],S.Q,S.V⟩
theorem Fam.add{I:List It}(h:Fam I){s:St}(hs:qz s)(hb:wG I (Zq s)=none)(rank now exp:Int):Fam (I++[Vp s rank now exp]):=by
 refine⟨fun i hi=>?_,fun i hi=>?_,?_⟩
 ·rcases List.mem_append.1 hi with hi | hi
  ·exact h.a i hi
  ·rw[List.mem_singleton.1 hi]; exact hs
 ·rcases List.mem_append.1 hi with hi | hi
  ·exact h.k i hi
  ·rw[List.mem_singleton.1 hi]
 ·unfold keys;rw[List.map_append];refine List.nodup_append.2 ⟨h.n,by simp,fun a ha b hb2 q=>?_⟩;simp at hb2;exact vg.1 hb (by rw[←hb2, ←q]; exact ha)
theorem fu(rank now exp:Int):ji rank now exp=true↔(0≤now∧now≤1099511627776)∧(0≤exp∧exp≤1099511627776)∧now<exp∧0≤rank∧rank≤9:=by
 unfold ji;rw[Bool.and_eq_true,Bool.and_eq_true,Bool.and_eq_true,jZ,jZ,jZ];simp only[Bool.not_eq_true',decide_eq_false_iff_not];constructor
 ·rintro⟨⟨⟨h1,h2⟩,h3⟩,h4⟩;exact⟨h1,h2,by omega,h4⟩
 ·rintro⟨h1,h2,h3,h4⟩;exact⟨⟨⟨h1,h2⟩,by omega⟩,h4⟩
theorem oJ{N:Nat}{s:St}(hs:qz s){rank now exp:Int}(hk:ji rank now exp=true)(S:Ss):VF N s rank now exp S=bg N s rank now exp S:=by
 unfold VF;rw[if_neg (by rw[hs.q.err]; decide),if_neg (by rw[hk]; decide)]
/-- there is room -/
theorem Fam.room{N:Nat}{S:Ss}(h:Fam S.I){s:St}(hs:qz s)(hb:wG S.I (Zq s)=none){rank now exp:Int}(hN:64*S.I.length+96≤N):X6 N (Zq s) s rank now exp S=(VP s rank now exp S,0):=by
 rw[aU]
 ·rfl
 rw[h.left,h.cost hs hb];split
 ·next e=>omega
 ·next e=>omega
theorem Fam.Dq{N:Nat}{S:Ss}(h:Fam S.I){s:St}(hs:qz s)(hb:wG S.I (Zq s)=none){rank now exp:Int}(hk:ji rank now exp=true)(hN:64*S.I.length+96≤N):VF N s rank now exp S=(VP s rank now exp S,0):=by
 rw[oJ hs hk,xF hb,h.room hs hb hN]
/-- there is none: who goes -/
theorem Fam.Dr{N:Nat}{S:Ss}(h:Fam S.I){s:St}(hs:qz s)(hb:wG S.I (Zq s)=none){rank now exp:Int}(hk:ji rank now exp=true)(h0:S.I≠[])(hN:N<64*S.I.length+96)(hN2:64*S.I.length+32≤N){k:Ky}(hn:vZ now S=some k):
 VF N s rank now exp S=(VP s rank now exp (KA k S),0):=by
 obtain⟨i,hi,_⟩:=fH hn;have hol:=uZ h.n hi;rw[oJ hs hk,xF hb,Qb h.n ?_ hn hi]
 ·exact(h.out k).room (S:=KA k S) hs (gQ hb) (by show 64*(vS S.I k).length+96≤N; omega)
 ·rw[h.left,h.cost hs hb,if_neg h0,if_neg h0]; omega
theorem free_eq{I:List It}(hn:(keys I).Nodup){i:It}(hi:i∈I):free I i.k=decide (i.pins=0):=by
 unfold free;rw[YC hn hi]
end Go.Proofs.YtekgciopamkjlaaGreat
namespace Go.Proofs.YtekgciopamkjlaaGreat
open Go.Xs
open Enc (enc)
abbrev Ui:Ss:=⟨[],[],[],[]⟩
abbrev AO(s:St)(p r c x:Int):It:=⟨Zq s,s,r,c,x,p⟩
abbrev one(s:St)(p r c x:Int)(P Q:List Ky):Ss:=⟨[AO s p r c x],P,Q,[]⟩
theorem M6(s:St)(p r c x:Int):wG [AO s p r c x] (Zq s)=some (AO s p r c x):=by
 unfold wG;rw[List.find?_cons,decide_eq_true rfl]
/-- the document's name -/
theorem OX:Av [1,97,0]:=⟨by decide+kernel,by decide+kernel,by decide,by decide⟩
theorem DU{d:Bs}(hd:d.length=4):qz (ZG [1,97,0] d):=⟨_,d,OX,hd,rfl⟩
end Go.Proofs.YtekgciopamkjlaaGreat
namespace Go.Proofs.YtekgciopamkjlaaGreat
open Go.Xs
open Enc (enc)
structure Rw(kF:Nat→Ky)(e p:Nat→Int)(n:Nat)(I:List It):Prop where
 fam:Fam I
 de:I.map It.de=(List.range n).map fun j=>(⟨kF j,e j⟩:De)
 pn:∀i∈I,∀j,j<n→i.k=kF j→i.pins=p j
section
variable {kF:Nat→Ky} {e p:Nat→Int} {n:Nat} {I:List It}
theorem Rw.nil:Rw kF e p 0 []:=⟨Fam.nil,rfl,fun i hi=>by simp at hi⟩
theorem Rw.ks(h:Rw kF e p n I):keys I=(List.range n).map kF:=by
 have:=congrArg (List.map (·.k)) h.de;rw[List.map_map,List.map_map] at this;exact this
theorem Rw.len(h:Rw kF e p n I):I.length=n:=by
 have:=congrArg List.length h.de;simpa using this
theorem Rw.get(h:Rw kF e p n I){j:Nat}(hj:j<n):∃i,i∈I∧wG I (kF j)=some i∧i.k=kF j∧i.exp=e j∧i.pins=p j:=by
 have hm:(⟨kF j,e j⟩:De)∈I.map It.de:=by rw[h.de]; exact List.mem_map.2 ⟨j,List.mem_range.2 hj,rfl⟩
 obtain⟨i,hi,he⟩:=List.mem_map.1 hm;have h1:i.k=kF j:=congrArg De.k he;have h2:i.exp=e j:=congrArg De.at_ he;exact⟨i,hi,by rw[←h1]; exact YC h.fam.n hi,h1,h2,h.pn i hi j hj h1⟩
theorem Rw.mem(h:Rw kF e p n I){k:Ky}:k∈keys I↔∃j,j<n∧kF j=k:=by
 rw[h.ks,List.mem_map];constructor
 ·rintro⟨j,hj,e⟩; exact⟨j,List.mem_range.1 hj,e⟩
 ·rintro⟨j,hj,e⟩; exact⟨j,List.mem_range.2 hj,e⟩
theorem Rw.non(h:Rw kF e p n I){k:Ky}(hk:∀j,j<n→kF j≠k):wG I k=none:=by
 rw[vg,h.mem];rintro⟨j,hj,e⟩;exact hk j hj e
theorem Rw.inj(h:Rw kF e p n I){a b:Nat}(ha:a<n)(hb:b<n)(hab:kF a=kF b):a=b:=by
 have hn:=h.fam.n;rw[h.ks] at hn;have a1:((List.range n).map kF)[a]?=some (kF a):=by rw[List.getElem?_map,List.getElem?_range ha]; rfl
 have a2:((List.range n).map kF)[b]?=some (kF a):=by rw[List.getElem?_map,List.getElem?_range hb,hab]; rfl
 exact(List.getElem?_inj (List.getElem?_eq_some_iff.1 a1).1 hn).1 (a1.trans a2.symm)
theorem Rw.free(h:Rw kF e p n I){j:Nat}(hj:j<n):free I (kF j)=decide (p j=0):=by
 obtain⟨i,hi,_,h1,_,h3⟩:=h.get hj;rw[←h1,free_eq h.fam.n hi,h3]
theorem Rw.add(h:Rw kF e p n I){s:St}(hs:qz s)(hk:Zq s=kF n)(hne:∀j,j<n→kF j≠kF n){rank now exp:Int}(he:e n=exp)(hp:p n=0):Rw kF e p (n+1) (I++[Vp s rank now exp]):=by
 have hb:wG I (Zq s)=none:=h.non fun j hj q=>hne j hj (q.trans hk)
 refine⟨h.fam.add hs hb rank now exp,?_,fun i hi j hj hij=>?_⟩
 ·rw[List.map_append,h.de,List.range_succ,List.map_append];show _++[(⟨Zq s,exp⟩:De)]=_++[(⟨kF n,e n⟩:De)];rw[hk,he]
 ·rcases List.mem_append.1 hi with hi | hi
  ·by_cases hjn:j=n
   ·have:i.k∈keys I:=List.mem_map.2 ⟨i,hi,rfl⟩;obtain⟨j',hj',e'⟩:=h.mem.1 this;exact absurd (e'.trans (hij.trans (by rw[hjn]))) (hne j' hj')
   ·exact h.pn i hi j (by omega) hij
  ·rw[List.mem_singleton.1 hi] at hij ⊢;by_cases hjn:j=n
   ·rw[hjn,hp]
   ·exact absurd (hij.symm.trans hk) (hne j (by omega))
theorem Rw.mono{e' p':Nat→Int}(h:Rw kF e p n I)(he:∀j,j<n→e j=e' j)(hp:∀j,j<n→p j=p' j):Rw kF e' p' n I:=
 ⟨h.fam,by rw[h.de]; exact List.map_congr_left fun j hj=>by rw[he j (List.mem_range.1 hj)],fun i hi j hj hij=>by rw[←hp j hj]; exact h.pn i hi j hj hij⟩
end
/-! ### those that are over -/
theorem Qu{α β:Type}(key:β→Int)(f:α→β)(x:α):∀R:List α,Xf key (f x) (R.map f)=(Xf (fun a=>key (f a)) x R).map f
 | []=>rfl
 | y::R=>by
  rw[List.map_cons,Xf,Xf];split
  ·rw[Qu key f x R]; rfl
  ·rfl
theorem iX{α β:Type}(key:β→Int)(f:α→β)(L:List α):kP key (L.map f)=(kP (fun a=>key (f a)) L).map f:=by
 have:∀(L R:List α),(L.map f).foldl (fun R x=>Xf key x R) (R.map f)=(L.foldl (fun R x=>Xf (fun a=>key (f a)) x R) R).map f:=by
  intro L
  induction L with
  | nil=>intro R; rfl
  | cons x L ih=>intro R; rw[List.map_cons,List.foldl_cons,List.foldl_cons,Qu,ih]
 exact this L []
/-- the numbers of those that are over, in order -/
def DC(e:Nat→Int)(n:Nat)(now:Int):List Nat:=(kP e (List.range n)).filter fun j=>decide (e j≤now)
theorem Rw.due{kF:Nat→Ky}{e p:Nat→Int}{n:Nat}{I:List It}(h:Rw kF e p n I)(now:Int):due now I=(DC e n now).map kF:=by
 unfold Go.Proofs.YtekgciopamkjlaaGreat.due upto DC;rw[h.de,iX,List.filter_map,List.map_map];rfl
theorem Yp{e:Nat→Int}{n:Nat}{now:Int}{j:Nat}:j∈DC e n now↔j<n∧e j≤now:=by
 unfold DC;rw[List.mem_filter,(kN (key:=e) (List.range n)).mem,List.mem_range];simp
theorem BR{e:Nat→Int}{n:Nat}{now:Int}(h:∀j,j<n→now<e j):DC e n now=[]:=by
 rw[List.eq_nil_iff_forall_not_mem];intro j hj;have:=Yp.1 hj;have:=h j this.1;omega
end Go.Proofs.YtekgciopamkjlaaGreat
