/- Stores of addresses' sets, plainly: what they take, who goes. A store of one item, plainly. -/
import Derived.Test.YtekgciopamkjlaaGreatC1
import Derived.Test.YtekgciopamkjlaaGreatS1
namespace Go.Proofs.YtekgciopamkjlaaGreat
open Go.Xs
open Enc (enc)
/-- a short name in small letters, not the root's -/
structure Av(n:Bs):Prop where
 v:WQ n=true
 f:zA n=n
 l:1≤n.length∧n.length≤16
 z:n≠[0]
def mo(s:St):Prop:=∃n d,Av n∧d.length=4∧s=Vi n d
theorem YU:zA [0]=[0]:=by decide+kernel
theorem xK{k:Nat}(h:9≤k∧k≤24):zU k=32:=by
 unfold zU;rw[if_neg (by omega),if_pos (by omega)]
structure Mv(s:St):Prop where
 err:ZU s=0
 ok:kM s
 nms:Z8 s=[s.name,[0]]
 siz:zU (Zm s).toNat=32
 cst:cost (Zm s)=32
 key:Zg s=⟨s.name,1⟩
 nm:Av s.name
theorem mo.q{s:St}(h:mo s):Mv s:=by
 obtain⟨n,d,hn,hd,rfl⟩:=h;obtain⟨h1,h2,h3,h4⟩:=Ka hn.v hd;refine⟨h1,h4,h3,by rw[h2]; decide,by rw[h2]; decide,?_,hn⟩;show fk ⟨n,1⟩=⟨n,1⟩;unfold fk;rw[hn.f]
theorem GZ{n:Bs}(h:Av n)(t:Int):fk ⟨n,t⟩=⟨n,t⟩:=by unfold fk; rw[h.f]
theorem VG{α:Type}{f:α→Nat}{c:Nat}:∀{l:List α},(∀x∈l,f x=c)→(l.map f).sum=c*l.length
 | [],_=>by simp
 | x::l,h=>by
  rw[List.map_cons,List.sum_cons,VG fun y hy=>h y (List.mem_cons_of_mem _ hy),h x (by simp),List.length_cons,Nat.mul_succ]; omega
theorem gV{I:List St}(h:∀s∈I,mo s)(n:Bs):n∈QO I↔n∈I.map (·.name)∨(n=[0]∧I≠[]):=by
 rw[QN,List.mem_map];have e:∀s∈I,(Z8 s).map zA=[s.name,[0]]:=fun s hs=>by
  rw[(h s hs).q.nms];simp only[List.map_cons,List.map_nil,(h s hs).q.nm.f,YU]
 constructor
 ·rintro⟨s,hs,hn⟩;rw[e s hs] at hn;rcases List.mem_cons.1 hn with rfl | hn
  ·exact .inl ⟨s,hs,rfl⟩
  ·exact .inr ⟨List.mem_singleton.1 hn,fun q=>by rw[q] at hs; simp at hs⟩
 ·rintro(⟨s,hs,rfl⟩ | ⟨rfl,hne⟩)
  ·exact⟨s,hs,by rw[e s hs]; simp⟩
  ·obtain⟨s,hs⟩:=List.exists_mem_of_ne_nil _ hne;exact⟨s,hs,by rw[e s hs]; simp⟩
theorem mQ{I:List St}(h:∀s∈I,mo s)(hn:(I.map (·.name)).Nodup)(h0:I≠[]):uT I=64*I.length+32:=by
 have hd:([0]::I.map (·.name)).Nodup:=List.nodup_cons.2 ⟨fun hm=>by
  obtain⟨s,hs,e⟩:=List.mem_map.1 hm;exact(h s hs).q.nm.z e,hn⟩
 rw[aV hd fun n=>by
  rw[gV h,List.mem_cons];constructor
  ·rintro(rfl | h2)
   ·exact .inr ⟨rfl,h0⟩
   ·exact .inl h2
  ·rintro(h2 | ⟨rfl,_⟩)
   ·exact .inr h2
   ·exact .inl rfl]
 rw[List.map_cons,List.sum_cons,VG (f:=fun n:Bs=>zU (8+n.length)) (c:=32) (l:=I.map (·.name)) fun n hn=>by
  obtain⟨s,hs,rfl⟩:=List.mem_map.1 hn;have:=(h s hs).q.nm.l;exact xK (by omega),VG (f:=fun s=>zU (Zm s).toNat) (c:=32) fun s hs=>(h s hs).q.siz,List.length_map]
 show zU 9+_+_=_;rw[xK (by decide)];omega
theorem oH{I:List St}{s:St}(h:∀s∈I,mo s)(hs:mo s)(hn:s.name ∉ I.map (·.name)):Vx I s=if I=[] then 96 else 64:=by
 have q:=hs.q;have hl:=q.nm.l;have hz:=q.nm.z;have e0:([0]:Bs)∈QO I↔I≠[]:=by
  rw[gV h];constructor
  ·rintro(hm | hm)
   ·obtain⟨x,hx,e⟩:=List.mem_map.1 hm;exact absurd e (h x hx).q.nm.z
   ·exact hm.2
  ·exact fun hm=> .inr ⟨rfl,hm⟩
 have e1:s.name ∉ QO I:=fun hm=>by
  rcases(gV h _).1 hm with hm | hm
  ·exact hn hm
  ·exact hz hm.1
 unfold Vx;rw[if_pos q.err,q.cst,q.nms];unfold xL xL xL;rw[q.nm.f,YU,if_neg (by simpa using e1),xK (by omega),show zU (8+([0]:Bs).length)=32 from xK (by decide)];by_cases hI:I=[]
 ·rw[if_pos hI,if_neg]
  ·rfl
  ·rw[e0];rintro(hm | hm)
   ·exact hz (List.mem_singleton.1 hm).symm
   ·exact hm hI
 ·rw[if_neg hI,if_pos (.inr (e0.2 hI))]; rfl
/-! ### items of such sets -/
structure Fam(I:List It):Prop where
 a:∀i∈I,mo i.s
 k:∀i∈I,i.k=Zg i.s
 n:(keys I).Nodup
theorem Fam.key{I:List It}(h:Fam I){i:It}(hi:i∈I):i.k=⟨i.s.name,1⟩:=by rw[h.k i hi,(h.a i hi).q.key]
theorem Fam.sa{I:List It}(h:Fam I):∀s∈sets I,mo s:=fun s hs=>by
 obtain⟨i,hi,rfl⟩:=List.mem_map.1 hs;exact h.a i hi
theorem Fam.nms{I:List It}(h:Fam I):(sets I).map (·.name)=(keys I).map (·.n):=by
 unfold sets keys;rw[List.map_map,List.map_map];refine List.map_congr_left fun i hi=>?_
 show i.s.name=i.k.n;rw[h.key hi]
theorem Fam.NG{I:List It}(h:Fam I):((keys I).map (·.n)).Nodup:=by
 have:∀k∈keys I,k.t=1:=fun k hk=>by
  obtain⟨i,hi,rfl⟩:=List.mem_map.1 hk;rw[h.key hi]
 have hn:=h.n;generalize keys I=K at*
 induction K with
 | nil=>simp
 | cons k K ih=>
  have h2:=List.nodup_cons.1 hn;rw[List.map_cons];refine List.nodup_cons.2 ⟨fun hm=>?_,ih (fun x hx=>this x (List.mem_cons_of_mem _ hx)) h2.2⟩;obtain⟨x,hx,e⟩:=List.mem_map.1 hm;exact h2.1 (by rw[show k=x from Ky.ext' e.symm (by rw[this k (by simp),this x (List.mem_cons_of_mem _ hx)])]; exact hx)
theorem Fam.used{I:List It}(h:Fam I)(h0:I≠[]):uT (sets I)=64*I.length+32:=by
 rw[mQ h.sa (by rw[h.nms]; exact h.NG) (by unfold sets; simpa using h0)];unfold sets;rw[List.length_map]
theorem Fam.cost{I:List It}(h:Fam I){s:St}(hs:mo s)(hb:V6 I (Zg s)=none):Vx (sets I) s=if I=[] then 96 else 64:=by
 rw[oH h.sa hs fun hm=>?_]
 ·unfold sets;cases I<;>rfl
 ·rw[h.nms] at hm;obtain⟨k,hk,e⟩:=List.mem_map.1 hm;refine vO.1 hb ?_;obtain⟨i,hi,rfl⟩:=List.mem_map.1 hk;rw[hs.q.key, ←e,show(⟨i.k.n,1⟩:Ky)=i.k from by rw[h.key hi]];exact hk
theorem Fam.left{N:Nat}{S:Ss}(h:Fam S.I):uY N S=((N-(if S.I=[] then 0 else 64*S.I.length+32):Nat):Int):=by
 unfold uY;split
 ·next e=>rw[e]; rfl
 ·next e=>rw[h.used e]
theorem Fam.nil:Fam []:=⟨fun i hi=>by simp at hi,fun i hi=>by simp at hi,List.nodup_nil⟩
theorem Fam.out{I:List It}(h:Fam I)(k:Ky):Fam (Vk I k):=⟨fun i hi=>h.a i ((Vj _ _).subset hi),fun i hi=>h.k i ((Vj _ _).subset hi),((Vj I k).map _).nodup h.n⟩
theorem Fam.um{I:List It}(h:Fam I)(k:Ky)(p:Int):Fam (um I k p):=by
 have hq:∀i∈Go.Proofs.YtekgciopamkjlaaGreat.um I k p,∃j∈I,i.s=j.s∧i.k=j.k:=fun i hi=>by
  obtain⟨j,hj,rfl⟩:=List.mem_map.1 hi;refine⟨j,hj,?_⟩;show(if j.k=k then {j with pins:=p} else j).s=j.s∧(if j.k=k then {j with pins:=p} else j).k=j.k;split<;>exact⟨rfl,rfl⟩
 refine⟨fun i hi=>?_,fun i hi=>?_,by rw[X0]; exact h.n⟩
 ·obtain⟨j,hj,e,_⟩:=hq i hi;rw[e]; exact h.a j hj
 ·obtain⟨j,hj,e1,e2⟩:=hq i hi;rw[e1,e2]; exact h.k j hj
abbrev AX(s:St)(rank now exp:Int):It:=⟨Zg s,s,rank,now,exp,0⟩
def BG(s:St)(rank now exp:Int)(S:Ss):Ss:=⟨S.I++[AX s rank now exp],S.P++[Zg s],S.Q,S.V⟩
theorem Fam.add{I:List It}(h:Fam I){s:St}(hs:mo s)(hb:V6 I (Zg s)=none)(rank now exp:Int):Fam (I++[AX s rank now exp]):=by
 refine⟨fun i hi=>?_,fun i hi=>?_,?_⟩
 ·rcases List.mem_append.1 hi with hi | hi
  ·exact h.a i hi
  ·rw[List.mem_singleton.1 hi]; exact hs
 ·rcases List.mem_append.1 hi with hi | hi
  ·exact h.k i hi
  ·rw[List.mem_singleton.1 hi]
 ·unfold keys;rw[List.map_append];refine List.nodup_append.2 ⟨h.n,by simp,fun a ha b hb2 q=>?_⟩;simp at hb2;exact vO.1 hb (by rw[←hb2, ←q]; exact ha)
theorem Ku(rank now exp:Int):qh rank now exp=true↔(0≤now∧now≤1099511627776)∧(0≤exp∧exp≤1099511627776)∧now<exp∧0≤rank∧rank≤9:=by
 unfold qh;rw[Bool.and_eq_true,Bool.and_eq_true,Bool.and_eq_true,UN,UN,UN];simp only[Bool.not_eq_true',decide_eq_false_iff_not];constructor
 ·rintro⟨⟨⟨h1,h2⟩,h3⟩,h4⟩;exact⟨h1,h2,by omega,h4⟩
 ·rintro⟨h1,h2,h3,h4⟩;exact⟨⟨⟨h1,h2⟩,by omega⟩,h4⟩
abbrev jV:Ss:=⟨[],[],[],[]⟩
abbrev JC(s:St)(p r c x:Int):It:=⟨Zg s,s,r,c,x,p⟩
abbrev one(s:St)(p r c x:Int)(P Q:List Ky):Ss:=⟨[JC s p r c x],P,Q,[]⟩
theorem jT(s:St)(p r c x:Int):V6 [JC s p r c x] (Zg s)=some (JC s p r c x):=by
 unfold V6;rw[List.find?_cons,decide_eq_true rfl]
theorem AO(s:St)(p r c x:Int):Vk [JC s p r c x] (Zg s)=[]:=by
 unfold Vk;rw[List.filter_cons,if_neg (by simp)]; rfl
theorem Kt{s:St}{k:Ky}(hk:fk k=Zg s){p r c x b:Int}{P Q:List Ky}(h:0≤p+b∧p+b≤1000):yh k b (one s p r c x P Q)=(one s (p+b) r c x P Q,0):=by
 unfold yh;rw[hk,show V6 (one s p r c x P Q).I (Zg s)=_ from jT s p r c x];show(if Qk (p+b) 1000=false then _ else _)=_;rw[(UN _ _).2 h,if_neg (by decide)];show((⟨[if Zg s=Zg s then _ else _],P,Q,[]⟩:Ss),(0:Int))=_;rw[if_pos rfl]
theorem oF{s:St}{p r c x now:Int}:due now [JC s p r c x]=if x≤now then [Zg s] else []:=by
 show((List.filter (fun e=>decide (Uk e≤now)) [(⟨Zg s,x⟩:De)]).map (·.k))=_;rw[List.filter_cons];by_cases h:x≤now
 ·rw[if_pos h,if_pos (by show decide (x≤now)=true; rw[decide_eq_true h])]; rfl
 ·rw[if_neg h,if_neg (by show ¬decide (x≤now)=true; rw[decide_eq_false h]; decide)]; rfl
theorem jQ{s:St}{p r c x now:Int}{P Q:List Ky}(h:now<x∨0<p):jr now (one s p r c x P Q)=(one s p r c x P Q,0):=by
 unfold jr;rw[show(one s p r c x P Q).I=[JC s p r c x] from rfl,oF];split
 ·next h2=>
  show swp _ _=_;unfold swp free;rw[show V6 (one s p r c x P Q,0).1.I (Zg s)=_ from jT s p r c x];show(if decide (p=0)=true then _ else _)=_;rw[if_neg (by simp; omega)]
 ·rfl
/-- the document's name -/
theorem Bz:Av [1,97,0]:=⟨by decide+kernel,by decide+kernel,by decide,by decide⟩
theorem iC{d:Bs}(hd:d.length=4):mo (Vi [1,97,0] d):=⟨_,d,Bz,hd,rfl⟩
theorem EC{d:Bs}(hd:d.length=4):Zg (Vi [1,97,0] d)=⟨[1,97,0],1⟩:=(iC hd).q.key
end Go.Proofs.YtekgciopamkjlaaGreat
