/- Stores of addresses' sets, plainly: what they take, who goes. A store of one item, plainly. -/
import Derived.Test.YtekgciopamkjlaaGreatC1
import Derived.Test.YtekgciopamkjlaaGreatS1
namespace Go.Proofs.YtekgciopamkjlaaGreat
open Go.Xs
open Enc (enc)
/-- a short name in small letters, not the root's -/
structure Av(n:Bs):Prop where
 v:WO n=true
 f:zx n=n
 l:1≤n.length∧n.length≤16
 z:n≠[0]
def lg(s:St):Prop:=∃n d,Av n∧d.length=4∧s=vY n d
theorem YC:zx [0]=[0]:=by decide+kernel
theorem xg{k:Nat}(h:9≤k∧k≤24):zT k=32:=by
 unfold zT;rw[if_neg (by omega),if_pos (by omega)]
structure LU(s:St):Prop where
 err:ZT s=0
 ok:Y8 s
 nms:Z7 s=[s.name,[0]]
 siz:zT (Zm s).toNat=32
 cst:cost (Zm s)=32
 key:Zk s=⟨s.name,1⟩
 nm:Av s.name
theorem lg.q{s:St}(h:lg s):LU s:=by
 obtain⟨n,d,hn,hd,rfl⟩:=h;obtain⟨h1,h2,h3,h4⟩:=Xr hn.v hd;refine⟨h1,h4,h3,by rw[h2]; decide,by rw[h2]; decide,?_,hn⟩;show fk ⟨n,1⟩=⟨n,1⟩;unfold fk;rw[hn.f]
theorem pQ{n:Bs}(h:Av n)(t:Int):fk ⟨n,t⟩=⟨n,t⟩:=by unfold fk; rw[h.f]
theorem VA{α:Type}{f:α→Nat}{c:Nat}:∀{l:List α},(∀x∈l,f x=c)→(l.map f).sum=c*l.length
 | [],_=>by simp
 | x::l,h=>by
  rw[List.map_cons,List.sum_cons,VA fun y hy=>h y (List.mem_cons_of_mem _ hy),h x (by simp),List.length_cons,Nat.mul_succ]; omega
theorem fM{I:List St}(h:∀s∈I,lg s)(n:Bs):n∈Qr I↔n∈I.map (·.name)∨(n=[0]∧I≠[]):=by
 rw[Qq,List.mem_map];have e:∀s∈I,(Z7 s).map zx=[s.name,[0]]:=fun s hs=>by
  rw[(h s hs).q.nms];simp only[List.map_cons,List.map_nil,(h s hs).q.nm.f,YC]
 constructor
 ·rintro⟨s,hs,hn⟩;rw[e s hs] at hn;rcases List.mem_cons.1 hn with rfl | hn
  ·exact .inl ⟨s,hs,rfl⟩
  ·exact .inr ⟨List.mem_singleton.1 hn,fun q=>by rw[q] at hs; simp at hs⟩
 ·rintro(⟨s,hs,rfl⟩ | ⟨rfl,hne⟩)
  ·exact⟨s,hs,by rw[e s hs]; simp⟩
  ·obtain⟨s,hs⟩:=List.exists_mem_of_ne_nil _ hne;exact⟨s,hs,by rw[e s hs]; simp⟩
theorem lU{I:List St}(h:∀s∈I,lg s)(hn:(I.map (·.name)).Nodup)(h0:I≠[]):uP I=64*I.length+32:=by
 have hd:([0]::I.map (·.name)).Nodup:=List.nodup_cons.2 ⟨fun hm=>by
  obtain⟨s,hs,e⟩:=List.mem_map.1 hm;exact(h s hs).q.nm.z e,hn⟩
 rw[ak hd fun n=>by
  rw[fM h,List.mem_cons];constructor
  ·rintro(rfl | h2)
   ·exact .inr ⟨rfl,h0⟩
   ·exact .inl h2
  ·rintro(h2 | ⟨rfl,_⟩)
   ·exact .inr h2
   ·exact .inl rfl]
 rw[List.map_cons,List.sum_cons,VA (f:=fun n:Bs=>zT (8+n.length)) (c:=32) (l:=I.map (·.name)) fun n hn=>by
  obtain⟨s,hs,rfl⟩:=List.mem_map.1 hn;have:=(h s hs).q.nm.l;exact xg (by omega),VA (f:=fun s=>zT (Zm s).toNat) (c:=32) fun s hs=>(h s hs).q.siz,List.length_map]
 show zT 9+_+_=_;rw[xg (by decide)];omega
theorem nL{I:List St}{s:St}(h:∀s∈I,lg s)(hs:lg s)(hn:s.name ∉ I.map (·.name)):Vr I s=if I=[] then 96 else 64:=by
 have q:=hs.q;have hl:=q.nm.l;have hz:=q.nm.z;have e0:([0]:Bs)∈Qr I↔I≠[]:=by
  rw[fM h];constructor
  ·rintro(hm | hm)
   ·obtain⟨x,hx,e⟩:=List.mem_map.1 hm;exact absurd e (h x hx).q.nm.z
   ·exact hm.2
  ·exact fun hm=> .inr ⟨rfl,hm⟩
 have e1:s.name ∉ Qr I:=fun hm=>by
  rcases(fM h _).1 hm with hm | hm
  ·exact hn hm
  ·exact hz hm.1
 unfold Vr;rw[if_pos q.err,q.cst,q.nms];unfold xk xk xk;rw[q.nm.f,YC,if_neg (by simpa using e1),xg (by omega),show zT (8+([0]:Bs).length)=32 from xg (by decide)];by_cases hI:I=[]
 ·rw[if_pos hI,if_neg]
  ·rfl
  ·rw[e0];rintro(hm | hm)
   ·exact hz (List.mem_singleton.1 hm).symm
   ·exact hm hI
 ·rw[if_neg hI,if_pos (.inr (e0.2 hI))]; rfl
/-! ### items of such sets -/
structure Fam(I:List It):Prop where
 a:∀i∈I,lg i.s
 k:∀i∈I,i.k=Zk i.s
 n:(keys I).Nodup
theorem Fam.key{I:List It}(h:Fam I){i:It}(hi:i∈I):i.k=⟨i.s.name,1⟩:=by rw[h.k i hi,(h.a i hi).q.key]
theorem Fam.sa{I:List It}(h:Fam I):∀s∈sets I,lg s:=fun s hs=>by
 obtain⟨i,hi,rfl⟩:=List.mem_map.1 hs;exact h.a i hi
theorem Fam.nms{I:List It}(h:Fam I):(sets I).map (·.name)=(keys I).map (·.n):=by
 unfold sets keys;rw[List.map_map,List.map_map];refine List.map_congr_left fun i hi=>?_
 show i.s.name=i.k.n;rw[h.key hi]
theorem Fam.MS{I:List It}(h:Fam I):((keys I).map (·.n)).Nodup:=by
 have:∀k∈keys I,k.t=1:=fun k hk=>by
  obtain⟨i,hi,rfl⟩:=List.mem_map.1 hk;rw[h.key hi]
 have hn:=h.n;generalize keys I=K at*
 induction K with
 | nil=>simp
 | cons k K ih=>
  have h2:=List.nodup_cons.1 hn;rw[List.map_cons];refine List.nodup_cons.2 ⟨fun hm=>?_,ih (fun x hx=>this x (List.mem_cons_of_mem _ hx)) h2.2⟩;obtain⟨x,hx,e⟩:=List.mem_map.1 hm;exact h2.1 (by rw[show k=x from Ky.ext' e.symm (by rw[this k (by simp),this x (List.mem_cons_of_mem _ hx)])]; exact hx)
theorem Fam.used{I:List It}(h:Fam I)(h0:I≠[]):uP (sets I)=64*I.length+32:=by
 rw[lU h.sa (by rw[h.nms]; exact h.MS) (by unfold sets; simpa using h0)];unfold sets;rw[List.length_map]
theorem Fam.cost{I:List It}(h:Fam I){s:St}(hs:lg s)(hb:VE I (Zk s)=none):Vr (sets I) s=if I=[] then 96 else 64:=by
 rw[nL h.sa hs fun hm=>?_]
 ·unfold sets;cases I<;>rfl
 ·rw[h.nms] at hm;obtain⟨k,hk,e⟩:=List.mem_map.1 hm;refine vM.1 hb ?_;obtain⟨i,hi,rfl⟩:=List.mem_map.1 hk;rw[hs.q.key, ←e,show(⟨i.k.n,1⟩:Ky)=i.k from by rw[h.key hi]];exact hk
theorem Fam.left{N:Nat}{S:Ss}(h:Fam S.I):uT N S=((N-(if S.I=[] then 0 else 64*S.I.length+32):Nat):Int):=by
 unfold uT;split
 ·next e=>rw[e]; rfl
 ·next e=>rw[h.used e]
theorem Fam.nil:Fam []:=⟨fun i hi=>by simp at hi,fun i hi=>by simp at hi,List.nodup_nil⟩
theorem Fam.out{I:List It}(h:Fam I)(k:Ky):Fam (Vy I k):=⟨fun i hi=>h.a i ((VO _ _).subset hi),fun i hi=>h.k i ((VO _ _).subset hi),((VO I k).map _).nodup h.n⟩
abbrev Ae(s:St)(rank now exp:Int):It:=⟨Zk s,s,rank,now,exp,0⟩
def AX(s:St)(rank now exp:Int)(S:Ss):Ss:=⟨S.I++[Ae s rank now exp],S.P++[Zk s],S.Q,S.V⟩
theorem Fam.add{I:List It}(h:Fam I){s:St}(hs:lg s)(hb:VE I (Zk s)=none)(rank now exp:Int):Fam (I++[Ae s rank now exp]):=by
 refine⟨fun i hi=>?_,fun i hi=>?_,?_⟩
 ·rcases List.mem_append.1 hi with hi | hi
  ·exact h.a i hi
  ·rw[List.mem_singleton.1 hi]; exact hs
 ·rcases List.mem_append.1 hi with hi | hi
  ·exact h.k i hi
  ·rw[List.mem_singleton.1 hi]
 ·unfold keys;rw[List.map_append];refine List.nodup_append.2 ⟨h.n,by simp,fun a ha b hb2 q=>?_⟩;simp at hb2;exact vM.1 hb (by rw[←hb2, ←q]; exact ha)
theorem Qo(rank now exp:Int):Qp rank now exp=true↔(0≤now∧now≤1099511627776)∧(0≤exp∧exp≤1099511627776)∧now<exp∧0≤rank∧rank≤9:=by
 unfold Qp;rw[Bool.and_eq_true,Bool.and_eq_true,Bool.and_eq_true,kE,kE,kE];simp only[Bool.not_eq_true',decide_eq_false_iff_not];constructor
 ·rintro⟨⟨⟨h1,h2⟩,h3⟩,h4⟩;exact⟨h1,h2,by omega,h4⟩
 ·rintro⟨h1,h2,h3,h4⟩;exact⟨⟨⟨h1,h2⟩,by omega⟩,h4⟩
abbrev jD:Ss:=⟨[],[],[],[]⟩
abbrev bM(s:St)(p r c x:Int):It:=⟨Zk s,s,r,c,x,p⟩
abbrev one(s:St)(p r c x:Int)(P Q:List Ky):Ss:=⟨[bM s p r c x],P,Q,[]⟩
theorem oV(s:St)(p r c x:Int):VE [bM s p r c x] (Zk s)=some (bM s p r c x):=by
 unfold VE;rw[List.find?_cons,decide_eq_true rfl]
theorem A8(s:St)(p r c x:Int):Vy [bM s p r c x] (Zk s)=[]:=by
 unfold Vy;rw[List.filter_cons,if_neg (by simp)]; rfl
/-- the document's name -/
theorem AP:Av [1,97,0]:=⟨by decide+kernel,by decide+kernel,by decide,by decide⟩
theorem gF{d:Bs}(hd:d.length=4):lg (vY [1,97,0] d):=⟨_,d,AP,hd,rfl⟩
theorem DZ{d:Bs}(hd:d.length=4):Zk (vY [1,97,0] d)=⟨[1,97,0],1⟩:=(gF hd).q.key
end Go.Proofs.YtekgciopamkjlaaGreat
