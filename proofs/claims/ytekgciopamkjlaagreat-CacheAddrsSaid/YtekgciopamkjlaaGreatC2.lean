/- Stores of addresses' sets, plainly: what they take, who goes. A store of one item, plainly. -/
import Derived.Test.YtekgciopamkjlaaGreatC1
import Derived.Test.YtekgciopamkjlaaGreatS1
namespace Go.Proofs.YtekgciopamkjlaaGreat
open Go.Xs
open Enc (enc)
/-- a short name in small letters, not the root's -/
structure Av(n:Bs):Prop where
 v:WR n=true
 f:zC n=n
 l:1≤n.length∧n.length≤16
 z:n≠[0]
def mJ(s:St):Prop:=∃n d,Av n∧d.length=4∧s=uo n d
theorem YW:zC [0]=[0]:=by decide+kernel
theorem xC{k:Nat}(h:9≤k∧k≤24):zZ k=32:=by
 unfold zZ;rw[if_neg (by omega),if_pos (by omega)]
structure NH(s:St):Prop where
 err:wh s=0
 ok:kK s
 nms:Zb s=[s.name,[0]]
 siz:zZ (Zp s).toNat=32
 cst:cost (Zp s)=32
 key:ZA s=⟨s.name,1⟩
 nm:Av s.name
theorem mJ.q{s:St}(h:mJ s):NH s:=by
 obtain⟨n,d,hn,hd,rfl⟩:=h;obtain⟨h1,h2,h3,h4⟩:=nR hn.v hd;refine⟨h1,h4,h3,by rw[h2]; decide,by rw[h2]; decide,?_,hn⟩;show fk ⟨n,1⟩=⟨n,1⟩;unfold fk;rw[hn.f]
theorem Ip{n:Bs}(h:Av n)(t:Int):fk ⟨n,t⟩=⟨n,t⟩:=by unfold fk; rw[h.f]
theorem VG{α:Type}{f:α→Nat}{c:Nat}:∀{l:List α},(∀x∈l,f x=c)→(l.map f).sum=c*l.length
 | [],_=>by simp
 | x::l,h=>by
  rw[List.map_cons,List.sum_cons,VG fun y hy=>h y (List.mem_cons_of_mem _ hy),h x (by simp),List.length_cons,Nat.mul_succ]; omega
theorem iq{I:List St}(h:∀s∈I,mJ s)(n:Bs):n∈QJ I↔n∈I.map (·.name)∨(n=[0]∧I≠[]):=by
 rw[QI,List.mem_map];have e:∀s∈I,(Zb s).map zC=[s.name,[0]]:=fun s hs=>by
  rw[(h s hs).q.nms];simp only[List.map_cons,List.map_nil,(h s hs).q.nm.f,YW]
 constructor
 ·rintro⟨s,hs,hn⟩;rw[e s hs] at hn;rcases List.mem_cons.1 hn with rfl | hn
  ·exact .inl ⟨s,hs,rfl⟩
  ·exact .inr ⟨List.mem_singleton.1 hn,fun q=>by rw[q] at hs; simp at hs⟩
 ·rintro(⟨s,hs,rfl⟩ | ⟨rfl,hne⟩)
  ·exact⟨s,hs,by rw[e s hs]; simp⟩
  ·obtain⟨s,hs⟩:=List.exists_mem_of_ne_nil _ hne;exact⟨s,hs,by rw[e s hs]; simp⟩
theorem nA{I:List St}(h:∀s∈I,mJ s)(hn:(I.map (·.name)).Nodup)(h0:I≠[]):uR I=64*I.length+32:=by
 have hd:([0]::I.map (·.name)).Nodup:=List.nodup_cons.2 ⟨fun hm=>by
  obtain⟨s,hs,e⟩:=List.mem_map.1 hm;exact(h s hs).q.nm.z e,hn⟩
 rw[aQ hd fun n=>by
  rw[iq h,List.mem_cons];constructor
  ·rintro(rfl | h2)
   ·exact .inr ⟨rfl,h0⟩
   ·exact .inl h2
  ·rintro(h2 | ⟨rfl,_⟩)
   ·exact .inr h2
   ·exact .inl rfl]
 rw[List.map_cons,List.sum_cons,VG (f:=fun n:Bs=>zZ (8+n.length)) (c:=32) (l:=I.map (·.name)) fun n hn=>by
  obtain⟨s,hs,rfl⟩:=List.mem_map.1 hn;have:=(h s hs).q.nm.l;exact xC (by omega),VG (f:=fun s=>zZ (Zp s).toNat) (c:=32) fun s hs=>(h s hs).q.siz,List.length_map]
 show zZ 9+_+_=_;rw[xC (by decide)];omega
theorem pO{I:List St}{s:St}(h:∀s∈I,mJ s)(hs:mJ s)(hn:s.name ∉ I.map (·.name)):Vx I s=if I=[] then 96 else 64:=by
 have q:=hs.q;have hl:=q.nm.l;have hz:=q.nm.z;have e0:([0]:Bs)∈QJ I↔I≠[]:=by
  rw[iq h];constructor
  ·rintro(hm | hm)
   ·obtain⟨x,hx,e⟩:=List.mem_map.1 hm;exact absurd e (h x hx).q.nm.z
   ·exact hm.2
  ·exact fun hm=> .inr ⟨rfl,hm⟩
 have e1:s.name ∉ QJ I:=fun hm=>by
  rcases(iq h _).1 hm with hm | hm
  ·exact hn hm
  ·exact hz hm.1
 unfold Vx;rw[if_pos q.err,q.cst,q.nms];unfold xD xD xD;rw[q.nm.f,YW,if_neg (by simpa using e1),xC (by omega),show zZ (8+([0]:Bs).length)=32 from xC (by decide)];by_cases hI:I=[]
 ·rw[if_pos hI,if_neg]
  ·rfl
  ·rw[e0];rintro(hm | hm)
   ·exact hz (List.mem_singleton.1 hm).symm
   ·exact hm hI
 ·rw[if_neg hI,if_pos (.inr (e0.2 hI))]; rfl
/-! ### items of such sets -/
structure Fam(I:List It):Prop where
 a:∀i∈I,mJ i.s
 k:∀i∈I,i.k=ZA i.s
 n:(keys I).Nodup
theorem Fam.key{I:List It}(h:Fam I){i:It}(hi:i∈I):i.k=⟨i.s.name,1⟩:=by rw[h.k i hi,(h.a i hi).q.key]
theorem Fam.sa{I:List It}(h:Fam I):∀s∈sets I,mJ s:=fun s hs=>by
 obtain⟨i,hi,rfl⟩:=List.mem_map.1 hs;exact h.a i hi
theorem Fam.nms{I:List It}(h:Fam I):(sets I).map (·.name)=(keys I).map (·.n):=by
 unfold sets keys;rw[List.map_map,List.map_map];refine List.map_congr_left fun i hi=>?_
 show i.s.name=i.k.n;rw[h.key hi]
theorem Fam.OE{I:List It}(h:Fam I):((keys I).map (·.n)).Nodup:=by
 have:∀k∈keys I,k.t=1:=fun k hk=>by
  obtain⟨i,hi,rfl⟩:=List.mem_map.1 hk;rw[h.key hi]
 have hn:=h.n;generalize keys I=K at*
 induction K with
 | nil=>simp
 | cons k K ih=>
  have h2:=List.nodup_cons.1 hn;rw[List.map_cons];refine List.nodup_cons.2 ⟨fun hm=>?_,ih (fun x hx=>this x (List.mem_cons_of_mem _ hx)) h2.2⟩;obtain⟨x,hx,e⟩:=List.mem_map.1 hm;exact h2.1 (by rw[show k=x from Ky.ext' e.symm (by rw[this k (by simp),this x (List.mem_cons_of_mem _ hx)])]; exact hx)
theorem Fam.used{I:List It}(h:Fam I)(h0:I≠[]):uR (sets I)=64*I.length+32:=by
 rw[nA h.sa (by rw[h.nms]; exact h.OE) (by unfold sets; simpa using h0)];unfold sets;rw[List.length_map]
theorem Fam.cost{I:List It}(h:Fam I){s:St}(hs:mJ s)(hb:VJ I (ZA s)=none):Vx (sets I) s=if I=[] then 96 else 64:=by
 rw[pO h.sa hs fun hm=>?_]
 ·unfold sets;cases I<;>rfl
 ·rw[h.nms] at hm;obtain⟨k,hk,e⟩:=List.mem_map.1 hm;refine vP.1 hb ?_;obtain⟨i,hi,rfl⟩:=List.mem_map.1 hk;rw[hs.q.key, ←e,show(⟨i.k.n,1⟩:Ky)=i.k from by rw[h.key hi]];exact hk
theorem Fam.left{N:Nat}{S:Ss}(h:Fam S.I):uV N S=((N-(if S.I=[] then 0 else 64*S.I.length+32):Nat):Int):=by
 unfold uV;split
 ·next e=>rw[e]; rfl
 ·next e=>rw[h.used e]
theorem Fam.nil:Fam []:=⟨fun i hi=>by simp at hi,fun i hi=>by simp at hi,List.nodup_nil⟩
theorem Fam.out{I:List It}(h:Fam I)(k:Ky):Fam (uN I k):=⟨fun i hi=>h.a i ((VR _ _).subset hi),fun i hi=>h.k i ((VR _ _).subset hi),((VR I k).map _).nodup h.n⟩
abbrev BO(s:St)(rank now exp:Int):It:=⟨ZA s,s,rank,now,exp,0⟩
def CB(s:St)(rank now exp:Int)(S:Ss):Ss:=⟨S.I++[BO s rank now exp],S.P++[ZA s],S.Q,S.V⟩
theorem Fam.add{I:List It}(h:Fam I){s:St}(hs:mJ s)(hb:VJ I (ZA s)=none)(rank now exp:Int):Fam (I++[BO s rank now exp]):=by
 refine⟨fun i hi=>?_,fun i hi=>?_,?_⟩
 ·rcases List.mem_append.1 hi with hi | hi
  ·exact h.a i hi
  ·rw[List.mem_singleton.1 hi]; exact hs
 ·rcases List.mem_append.1 hi with hi | hi
  ·exact h.k i hi
  ·rw[List.mem_singleton.1 hi]
 ·unfold keys;rw[List.map_append];refine List.nodup_append.2 ⟨h.n,by simp,fun a ha b hb2 q=>?_⟩;simp at hb2;exact vP.1 hb (by rw[←hb2, ←q]; exact ha)
abbrev qd:Ss:=⟨[],[],[],[]⟩
abbrev sS(s:St)(p r c x:Int):It:=⟨ZA s,s,r,c,x,p⟩
abbrev one(s:St)(p r c x:Int)(P Q:List Ky):Ss:=⟨[sS s p r c x],P,Q,[]⟩
theorem EZ(s:St)(p r c x:Int):VJ [sS s p r c x] (ZA s)=some (sS s p r c x):=by
 unfold VJ;rw[List.find?_cons,decide_eq_true rfl]
/-- the document's name -/
theorem II:Av [1,97,0]:=⟨by decide+kernel,by decide+kernel,by decide,by decide⟩
theorem sU{d:Bs}(hd:d.length=4):mJ (uo [1,97,0] d):=⟨_,d,II,hd,rfl⟩
end Go.Proofs.YtekgciopamkjlaaGreat
