/- Records (chapter 3), plainly: where names stand in data, and what data may be. Names added and dropped, one behind the other: how often each is used, and what they cost. Sets (chapter 8), plainly: what may be, its names, its size, its block's bytes. Names that live: each is used as often as numbers of it are held; arenas that are alike. A set's block (chapter 8), plainly: data with names in other letters, or with numbers in their places. Parts of strings, strings put together, as lists of bytes. Records (chapter 3): what data may be, and its names. A range over the names in data. -/
import Derived.Test.YtekgciopamkjlaaGreatN1
import Derived.Test.YtekgciopamkjlaaGreatI1
import Derived.Test.YtekgciopamkjlaaGreatFPack
namespace Go.Proofs.YtekgciopamkjlaaGreat
open Go.Xs
open Enc (enc)
/-! ### what a text begins with -/
theorem yE:∀(f:Nat) (Y:Bs) (a n:Nat),Xx f Y a=(n,true)→a<n∧n≤Y.length
 | 0,_,_,_,h=>by simp[Xx] at h
 | f+1,Y,a,n,h=>by
  unfold Xx at h;cases hy:Y[a]? with
  | none=>rw[hy] at h; simp at h
  | some b=>
   have hlt:=(List.getElem?_eq_some_iff.1 hy).1;rw[hy] at h;simp only at h;split at h
   ·simp at h
   ·split at h
    ·obtain rfl:a+1=n:=(Prod.mk.inj h).1;omega
    ·split at h
     ·simp at h
     ·have:=yE f Y _ n h;omega
theorem J2:∀(f:Nat) (Y:Bs) (a n m:Nat),Xx f Y a=(n,true)→n≤m→Xx f (Y.take m) a=(n,true)
 | 0,_,_,_,_,h,_=>by simp[Xx] at h
 | f+1,Y,a,n,m,h,hm=>by
  have hb:=yE (f+1) Y a n h;have hg:(Y.take m)[a]?=Y[a]?:=List.getElem?_take_of_lt (by omega);unfold Xx at h ⊢;rw[hg];cases hy:Y[a]? with
  | none=>rw[hy] at h; simp at h
  | some b=>
   rw[hy] at h;simp only at h ⊢;split at h
   ·simp at h
   ·next h0=>
    rw[if_neg h0];split at h
    ·next h1=>rw[if_pos h1]; exact h
    ·next h1=>
     rw[if_neg h1];split at h
     ·simp at h
     ·next h2=>rw[if_neg h2]; exact J2 f Y _ n m h hm
theorem yD:∀(f:Nat) (Y:Bs) (a n m:Nat),Xx f (Y.take m) a=(n,true)→Xx f Y a=(n,true)
 | 0,_,_,_,_,h=>by simp[Xx] at h
 | f+1,Y,a,n,m,h=>by
  have hb:=yE (f+1) _ a n h;have hg:(Y.take m)[a]?=Y[a]?:=List.getElem?_take_of_lt (by have:=List.length_take_le m Y; omega);unfold Xx at h ⊢;rw[hg] at h;cases hy:Y[a]? with
  | none=>rw[hy] at h; simp at h
  | some b=>
   rw[hy] at h;simp only at h ⊢;split at h
   ·simp at h
   ·next h0=>
    rw[if_neg h0];split at h
    ·next h1=>rw[if_pos h1]; exact h
    ·next h1=>
     rw[if_neg h1];split at h
     ·simp at h
     ·next h2=>rw[if_neg h2]; exact yD f Y _ n m h
/-- a text begins with a name of n bytes: its first n bytes are one -/
theorem yC{Y:Bs}{n:Nat}:lead Y=(n,true)↔n≤Y.length∧WQ (Y.take n)=true:=by
 unfold WQ lead;constructor
 ·intro h;have hb:=yE _ _ _ _ h;rw[J2 _ _ _ _ n h (Nat.le_refl _),List.length_take,Nat.min_eq_left hb.2];exact⟨hb.2,by simp⟩
 ·rintro⟨h1,h2⟩;rw[Bool.and_eq_true] at h2;have hlen:(Y.take n).length=n:=by rw[List.length_take]; omega
  have h3:(Xx 256 (Y.take n) 0).1=n:=by have:=h2.2; rw[hlen] at this; simpa using this
  exact yD 256 Y 0 n n (Prod.ext h3 h2.1)
theorem vI{Y:Bs}{n:Nat}(h:lead Y=(n,true)):1≤n∧n≤255∧n≤Y.length:=by
 have hb:=yE _ _ _ _ h;have:=qx 256 Y 0;unfold lead at h;rw[h] at this;exact⟨by omega,this,hb.2⟩
/-- ahead of anything -/
theorem ig{Y Z:Bs}(h:WQ Y=true):lead (Y++Z)=(Y.length,true):=yC.2 ⟨by simp,by rw[List.take_left]; exact h⟩
/-! ### where names stand -/
structure Pl where
 at_:Nat
 n:Nat
instance:Enc Pl:=⟨fun x=>[.int .i64 (x.at_:Int),.int .i64 (x.n:Int)],2,fun _=>rfl,fun _=>rfl⟩
def wo(t:Int):Option (Nat × Nat × Nat):=if t=2∨t=5∨t=12 then some (0,1,0) else if t=15 then some (2,1,0) else if t=33 then some (6,1,0) else if t=6 then some (0,2,20) else none
/-- names, one behind the other -/
def Yf(d:Bs):Nat→Nat→Option (List Pl × Nat)
 | 0,a=>some ([],a)
 | k+1,a=>if(lead (d.drop a)).2=true then(Yf d k (a+(lead (d.drop a)).1)).map fun x=>(⟨a,(lead (d.drop a)).1⟩::x.1,x.2) else none
def X4(t:Int)(d:Bs):Option (List Pl):=match wo t with
 | none=>some []
 | some (a,k,b)=>if d.length<a then none else match Yf d k a with
  | some (l,e)=>if d.length=e+b then some l else none
  | none=>none
/-- texts -/
def mR:Nat→Bs→Nat→Bool
 | 0,_,_=>false
 | f+1,d,a=>match d[a]? with
  | some b=>mR f d (a+1+b.toNat)
  | none=>a==d.length
def txt(d:Bs):Bool:=d !=[] && mR (d.length+1) d 0
def Zo(t:Int)(d:Bs):Bool:=if 1000<d.length then false else if t=1 then d.length==4 else if t=28 then d.length==16 else if t=16 then txt d else(X4 t d).isSome
def prt(t:Int)(d:Bs):List Pl:=if Zo t d=true then(X4 t d).getD [] else []
theorem fU{d:Bs}:∀{k a:Nat} {l:List Pl} {e:Nat},Yf d k a=some (l,e)→a≤d.length→e≤d.length∧a≤e∧l.length=k
 | 0,a,l,e,h,ha=>by
  obtain⟨rfl,rfl⟩:=Prod.mk.inj (Option.some.inj h);exact⟨ha,Nat.le_refl _,rfl⟩
 | k+1,a,l,e,h,ha=>by
  unfold Yf at h;split at h
  ·next h2=>
   have hl:lead (d.drop a)=((lead (d.drop a)).1,true):=by rw[←h2]
   have hp:=vI hl;rw[List.length_drop] at hp;cases hx:Yf d k (a+(lead (d.drop a)).1) with
   | none=>rw[hx] at h; cases h
   | some x=>
    obtain⟨l2,e2⟩:=x;rw[hx] at h;obtain⟨rfl,rfl⟩:=Prod.mk.inj (Option.some.inj h);have:=fU hx (by omega);exact⟨this.1,by omega,by simp[this.2.2]⟩
  ·cases h
/-- places, one behind the other, from a on -/
def Row(d:Bs):Nat→List Pl→Prop
 | a,[]=>a≤d.length
 | a,p::l=>p.at_=a∧lead (d.drop a)=(p.n,true)∧Row d (a+p.n) l
theorem Kj{d:Bs}:∀{k a:Nat} {l:List Pl} {e:Nat},Yf d k a=some (l,e)→a≤d.length→Row d a l
 | 0,a,l,e,h,ha=>by
  obtain⟨rfl,rfl⟩:=Prod.mk.inj (Option.some.inj h);exact ha
 | k+1,a,l,e,h,ha=>by
  unfold Yf at h;split at h
  ·next h2=>
   have hl:lead (d.drop a)=((lead (d.drop a)).1,true):=by rw[←h2]
   have hp:=vI hl;rw[List.length_drop] at hp;cases hx:Yf d k (a+(lead (d.drop a)).1) with
   | none=>rw[hx] at h; cases h
   | some x=>
    obtain⟨l2,e2⟩:=x;rw[hx] at h;obtain⟨rfl,rfl⟩:=Prod.mk.inj (Option.some.inj h);exact⟨rfl,hl,Kj hx (show a+(lead (d.drop a)).1≤d.length from by omega)⟩
  ·cases h
theorem QD{t:Int}{d:Bs}{l:List Pl}(h:X4 t d=some l):l=[]∨∃a k b e,wo t=some (a,k,b)∧a≤d.length∧Yf d k a=some (l,e)∧d.length=e+b:=by
 unfold X4 at h;split at h
 ·exact .inl (Option.some.inj h).symm
 ·next a k b hs=>
  split at h
  ·cases h
  ·split at h
   ·next l2 e hp=>
    split at h
    ·next he=>
     obtain rfl:=Option.some.inj h;exact .inr ⟨a,k,b,e,hs,by omega,hp,he⟩
    ·cases h
   ·cases h
theorem jD{t:Int}{x:Nat × Nat × Nat}(h:wo t=some x):t≠1∧t≠28∧t≠16:=by
 unfold wo at h;refine⟨fun e=>?_,fun e=>?_,fun e=>?_⟩<;>(subst e; simp at h)
theorem xZ{t:Int}{x:Nat × Nat × Nat}(h:wo t=some x):x.1≤6∧x.2.1≤2∧x.2.2≤20:=by
 unfold wo at h;split at h
 ·obtain rfl:=Option.some.inj h; decide
 ·split at h
  ·obtain rfl:=Option.some.inj h; decide
  ·split at h
   ·obtain rfl:=Option.some.inj h; decide
   ·split at h
    ·obtain rfl:=Option.some.inj h; decide
    ·cases h
theorem Ki{t:Int}{d:Bs}{l:List Pl}(h:X4 t d=some l):l.length≤2:=by
 rcases QD h with rfl | ⟨a,k,b,e,hs,ha,hp,_⟩
 ·exact Nat.zero_le _
 ·have h1:=(xZ hs).2.1;have h2:=(fU hp ha).2.2;simp only at h1;omega
/-! ### Drop, and one use more, step by step -/
def Br:List Nm→Int→List Nm
 | [],_=>[]
 | e::l,i=>if e.id=i then(if e.u=1 then l else⟨e.id,e.n,e.u-1⟩::l) else e::Br l i
def inc:List Nm→Int→List Nm
 | [],_=>[]
 | e::l,i=>if e.id=i then⟨e.id,e.n,e.u+1⟩::l else e::inc l i
theorem ko:∀(L:List Nm) (i:Int),vK L i=Br L i
 | [],_=>rfl
 | e::l,i=>by
  have ih:=ko l i;unfold vK at ih ⊢;unfold Br VQ;by_cases h:e.id=i
  ·rw[if_pos h,if_pos h];simp only[List.getElem?_cons_zero,List.eraseIdx_cons_zero];unfold reuse;rw[List.set_cons_zero]
  ·rw[if_neg h,if_neg h, ←ih];cases hx:VQ i l with
   | none=>rfl
   | some k=>
    obtain⟨x,h1,_⟩:=Ue hx;simp only[Option.map_some,List.getElem?_cons_succ,h1,List.eraseIdx_cons_succ];unfold reuse;rw[List.set_cons_succ];split<;>rfl
theorem YF:∀{L:List Nm} {j:Nat} {e:Nm},(L.map (·.id)).Nodup→L[j]?=some e→reuse L j e (e.u+1)=inc L e.id
 | [],_,_,_,h=>by simp at h
 | x::l,0,e,_,h=>by
  obtain rfl:x=e:=by simpa using h
  unfold inc reuse;rw[if_pos rfl,List.set_cons_zero]
 | x::l,j+1,e,hd,h=>by
  rw[List.map_cons,List.nodup_cons] at hd;have hl:l[j]?=some e:=by simpa using h
  have hne:x.id≠e.id:=fun h2=>hd.1 (h2▸List.mem_map.2 ⟨e,List.mem_of_getElem? hl,rfl⟩)
  have ih:=YF hd.2 hl;unfold reuse at ih ⊢;unfold inc;rw[if_neg hne,List.set_cons_succ,ih]
/-! ### a list of names, each used so often more -/
def Wp:List Nm→(Int→Nat)→List Nm
 | [],_=>[]
 | e::l,c=>if e.u+c e.id=0 then Wp l c else⟨e.id,e.n,e.u+c e.id⟩::Wp l c
theorem Y5(e:Nm)(l:List Nm)(c:Int→Nat):Wp (e::l) c=if e.u+c e.id=0 then Wp l c else⟨e.id,e.n,e.u+c e.id⟩::Wp l c:=rfl
theorem WY:∀{L:List Nm} {c c':Int→Nat},(∀e∈L,c e.id=c' e.id)→Wp L c=Wp L c'
 | [],_,_,_=>rfl
 | e::l,c,c',h=>by
  unfold Wp;rw[h e (by simp),WY fun x hx=>h x (List.mem_cons_of_mem _ hx)]
theorem UF(c:Int→Nat):∀(L M:List Nm),Wp (L++M) c=Wp L c++Wp M c
 | [],_=>rfl
 | e::l,M=>by
  rw[List.cons_append,Y5,Y5,UF c l M];split
  ·rfl
  ·rfl
theorem aJ:∀{L:List Nm},Pos L→Wp L (fun _=>0)=L
 | [],_=>rfl
 | e::l,h=>by
  unfold Wp;have:=h e (by simp);rw[if_neg (by omega),aJ fun x hx=>h x (List.mem_cons_of_mem _ hx)];rfl
theorem Jm:∀{L:List Nm} {c:Int→Nat},(∀e∈L,e.u+c e.id=0)→Wp L c=[]
 | [],_,_=>rfl
 | e::l,c,h=>by
  unfold Wp;rw[if_pos (h e (by simp))];exact Jm fun x hx=>h x (List.mem_cons_of_mem _ hx)
theorem Vz:∀{L:List Nm} {c:Int→Nat} {x:Nm},x∈Wp L c↔∃e∈L,x=⟨e.id,e.n,e.u+c e.id⟩∧x.u≠0
 | [],c,x=>by unfold Wp; simp
 | e::l,c,x=>by
  unfold Wp;split
  ·next h0=>
   rw[Vz];constructor
   ·rintro⟨y,hy,h1,h2⟩; exact⟨y,List.mem_cons_of_mem _ hy,h1,h2⟩
   ·rintro⟨y,hy,h1,h2⟩;rcases List.mem_cons.1 hy with rfl | hy
    ·rw[h1] at h2; exact absurd h0 h2
    ·exact⟨y,hy,h1,h2⟩
  ·next h0=>
   rw[List.mem_cons,Vz];constructor
   ·rintro(rfl | ⟨y,hy,h1,h2⟩)
    ·exact⟨e,by simp,rfl,h0⟩
    ·exact⟨y,List.mem_cons_of_mem _ hy,h1,h2⟩
   ·rintro⟨y,hy,h1,h2⟩;rcases List.mem_cons.1 hy with rfl | hy
    ·exact .inl h1
    ·exact .inr ⟨y,hy,h1,h2⟩
theorem KS(c:Int→Nat):∀(L:List Nm),List.Sublist ((Wp L c).map (·.id)) (L.map (·.id))∧List.Sublist ((Wp L c).map (·.n)) (L.map (·.n))
 | []=>⟨.slnil,.slnil⟩
 | e::l=>by
  have ih:=KS c l;unfold Wp;split
  ·exact⟨.cons _ ih.1,.cons _ ih.2⟩
  ·exact⟨.cons_cons _ ih.1,.cons_cons _ ih.2⟩
theorem aL{L:List Nm}(c:Int→Nat)(h:xS L):xS (Wp L c):=⟨(KS c L).1.nodup h.ids,(KS c L).2.nodup h.ns⟩
theorem Jo{c:Int→Nat}{i:Int}:∀{L:List Nm},(L.map (·.id)).Nodup→(∃e∈L,e.id=i)→1≤c i→Br (Wp L c) i=Wp L (fun k=>if k=i then c k-1 else c k)
 | [],_,h,_=>by simp at h
 | e::l,hd,h,hc=>by
  rw[List.map_cons,List.nodup_cons] at hd;unfold Wp;by_cases he:e.id=i
  ·have htl:Wp l c=Wp l (fun k=>if k=i then c k-1 else c k):=WY fun x hx=>by
    have hne:x.id≠i:=fun h2=>hd.1 (he▸h2▸List.mem_map.2 ⟨x,hx,rfl⟩)
    show c x.id=if x.id=i then c x.id-1 else c x.id
    rw[if_neg hne]
   rw[if_neg (by rw[he]; omega)];unfold Br;rw[if_pos he];simp only[he,if_true];by_cases h1:e.u+c i=1
   ·rw[if_pos h1,if_pos (by omega),htl]
   ·rw[if_neg h1,if_neg (by omega), ←htl,show e.u+c i-1=e.u+(c i-1) from by omega]
  ·have h2:∃e∈l,e.id=i:=by
    obtain⟨x,hx,hxi⟩:=h;rcases List.mem_cons.1 hx with rfl | hx
    ·exact absurd hxi he
    ·exact⟨x,hx,hxi⟩
   have ih:=Jo hd.2 h2 hc;simp only[if_neg he];by_cases h0:e.u+c e.id=0
   ·rw[if_pos h0,if_pos h0]; exact ih
   ·rw[if_neg h0,if_neg h0];show Br (_::_) i=_;unfold Br;rw[if_neg (show ¬(⟨e.id,e.n,e.u+c e.id⟩:Nm).id=i from he),ih]
theorem aK{c:Int→Nat}{i:Int}:∀{L:List Nm},(L.map (·.id)).Nodup→(∀e∈L,1≤e.u+c e.id)→inc (Wp L c) i=Wp L (fun k=>if k=i then c k+1 else c k)
 | [],_,_=>rfl
 | e::l,hd,h=>by
  rw[List.map_cons,List.nodup_cons] at hd;have h1:=h e (by simp);unfold Wp;rw[if_neg (by omega)];show inc (_::_) i=_;unfold inc;by_cases he:e.id=i
  ·have htl:Wp l c=Wp l (fun k=>if k=i then c k+1 else c k):=WY fun x hx=>by
    have hne:x.id≠i:=fun h2=>hd.1 (he▸h2▸List.mem_map.2 ⟨x,hx,rfl⟩)
    show c x.id=if x.id=i then c x.id+1 else c x.id
    rw[if_neg hne]
   rw[if_pos (show(⟨e.id,e.n,e.u+c e.id⟩:Nm).id=i from he)];simp only[he,if_true];rw[if_neg (by omega), ←htl]; rfl
  ·have ih:=aK (c:=c) (i:=i) hd.2 fun x hx=>h x (List.mem_cons_of_mem _ hx)
   rw[if_neg (show ¬(⟨e.id,e.n,e.u+c e.id⟩:Nm).id=i from he)];simp only[if_neg he];rw[if_neg (by omega),ih]
/-! ### drops -/
def drops(L:List Nm)(ids:List Int):List Nm:=ids.foldl vK L
theorem Xd:∀{ids:List Int} {L:List Nm} {c:Int→Nat},(L.map (·.id)).Nodup→(∀i∈ids,∃e∈L,e.id=i)→drops (Wp L fun k=>c k+ids.count k) ids=Wp L c
 | [],L,c,_,_=>by unfold drops; simp
 | i::ids,L,c,hd,h=>by
  have h1:=Jo (c:=fun k=>c k+(i::ids).count k) (i:=i) hd (h i (by simp)) (by simp; omega);have h2:(Wp L fun k=>if k=i then c k+(i::ids).count k-1 else c k+(i::ids).count k)=Wp L fun k=>c k+ids.count k:=WY fun e _=>by
   show(if e.id=i then c e.id+(i::ids).count e.id-1 else c e.id+(i::ids).count e.id)=c e.id+ids.count e.id;rw[List.count_cons];by_cases he:e.id=i
   ·subst he; simp
   ·have:(i==e.id)=false:=by simpa using fun h3:i=e.id=>he h3.symm
    rw[if_neg he,this]; simp
  show(ids.foldl vK (vK (Wp L fun k=>c k+(i::ids).count k) i))=_;rw[ko,h1,h2];exact Xd hd fun j hj=>h j (List.mem_cons_of_mem _ hj)
/-! ### adds -/
structure Ad where
 D:List (Option Bt)
 L:List Nm
 ids:List Int
 e:Int
def wO(N:Nat):List (Option Bt)→List Nm→List Bs→Ad
 | D,L,[]=>⟨D,L,[],0⟩
 | D,L,n::l=>if WJ N D L n=0 then⟨(wO N (WK D L (zA n)) (ZI D L (zA n)) l).D,(wO N (WK D L (zA n)) (ZI D L (zA n)) l).L,U6 D L (zA n)::(wO N (WK D L (zA n)) (ZI D L (zA n)) l).ids,(wO N (WK D L (zA n)) (ZI D L (zA n)) l).e⟩ else⟨D,L,[],WJ N D L n⟩
theorem KQ{L:List Nm}{m:Bs}:(Vp L m).isSome=true↔∃e∈L,e.n=m:=by
 constructor
 ·intro h;obtain⟨e,he⟩:=Option.isSome_iff_exists.1 h;obtain⟨j,_,h2,h3⟩:=vN he;exact⟨e,List.mem_of_getElem? h2,h3⟩
 ·rintro⟨e,he,rfl⟩;exact qU he
theorem mg{D:List (Option Bt)}{L:List Nm}{n m:Bs}:(Vp (ZI D L n) m).isSome=true↔m=n∨(Vp L m).isSome=true:=by
 rw[KQ,KQ];cases hb:Vp L n with
 | some x=>
  obtain⟨j,h1,h2,rfl⟩:=vN hb;have:ZI D L x.n=reuse L j x (x.u+1):=by unfold ZI; rw[h1]; simp only[h2]
  rw[this];constructor
  ·rintro⟨e,he,rfl⟩;obtain⟨y,hy,_,h4⟩:=VT h2 he;exact .inr ⟨y,hy,h4⟩
  ·rintro(rfl | ⟨y,hy,rfl⟩)
   ·obtain⟨z,hz,_,h4⟩:=WR (u:=x.u+1) h2 (List.mem_of_getElem? h2);exact⟨z,hz,h4⟩
   ·obtain⟨z,hz,_,h4⟩:=WR (u:=x.u+1) h2 hy;exact⟨z,hz,h4⟩
 | none=>
  have:ZI D L n=L++[⟨((hnd D:Nat):Int),n,1⟩]:=by unfold ZI; rw[WI hb]
  rw[this];constructor
  ·rintro⟨e,he,rfl⟩;rcases List.mem_append.1 he with he | he
   ·exact .inr ⟨e,he,rfl⟩
   ·rw[List.mem_singleton.1 he]; exact .inl rfl
  ·rintro(rfl | ⟨y,hy,rfl⟩)
   ·exact⟨⟨((hnd D:Nat):Int),m,1⟩,by simp,rfl⟩
   ·exact⟨y,List.mem_append.2 (.inl hy),rfl⟩
theorem yH(D:List (Option Bt)):Zk D ((hnd D:Nat):Int)=none:=by
 have:=vJ D;have hp:=wR D;rw[show((hnd D:Nat):Int)=((hnd D-1:Nat):Int)+1 from by omega,ZB]; exact this
/-- what adds leave: the elder names, new ones behind them, each used as often as its number was told -/
theorem XP(N:Nat):∀(l:List Bs) (D:List (Option Bt)) (L:List Nm) (c:Int→Nat),xS L→(∀e∈L,(Zk D e.id).isSome=true)→(∀e∈L,1≤e.u+c e.id)→(∀i,(∀e∈L,e.id≠i)→c i=0)→
 ∃M:List Nm,(∀e∈M,e.u=0)∧xS (L++M)∧(wO N D (Wp L c) l).L=Wp (L++M) (fun k=>c k+(wO N D (Wp L c) l).ids.count k)∧(∀i∈(wO N D (Wp L c) l).ids,∃e∈L++M,e.id=i)∧
  (∀e∈L++M,(Zk (wO N D (Wp L c) l).D e.id).isSome=true)∧(∀e∈M,Zk D e.id=none)
 | [],D,L,c,hd,hD,_,_=>⟨[],fun e he=>by simp at he,by rw[List.append_nil]; exact hd,by unfold wO; simp,fun i hi=>by unfold wO at hi; simp at hi,by rw[List.append_nil]; exact hD,fun e he=>by simp at he⟩
 | n::l,D,L,c,hd,hD,hu,hc=>by
  unfold wO;by_cases hE:WJ N D (Wp L c) n=0
  ·rw[if_pos hE];have hcount:∀(i k:Int) (ids:List Int),(i::ids).count k=ids.count k+if k=i then 1 else 0:=fun i k ids=>by
    rw[List.count_cons];by_cases h:k=i
    ·subst h; simp
    ·have:(i==k)=false:=by simpa using fun h3:i=k=>h h3.symm
     rw[if_neg h,this]; simp
   cases hb:Vp (Wp L c) (zA n) with
   | some x=>
    obtain⟨j,h1,h2,h3⟩:=vN hb;have hxm:=List.mem_of_getElem? h2;obtain⟨e,heL,hxe,_⟩:=Vz.1 hxm;have hL:ZI D (Wp L c) (zA n)=Wp L (fun k=>if k=x.id then c k+1 else c k):=by
     unfold ZI; rw[h1]; simp only[h2];rw[YF (aL c hd).ids h2,aK hd.ids hu]
    have hDD:WK D (Wp L c) (zA n)=D:=by unfold WK; rw[hb]; rfl
    have hI:U6 D (Wp L c) (zA n)=x.id:=by unfold U6; rw[hb]; rfl
    rw[hL,hDD,hI];have hxid:x.id=e.id:=by rw[hxe]
    obtain⟨M,i1,i2,i3,i4,i5,i6⟩:=XP N l D L (fun k=>if k=x.id then c k+1 else c k) hd hD (fun y hy=>by
     have:=hu y hy;show 1≤y.u+if y.id=x.id then c y.id+1 else c y.id
     split<;>omega) (fun i hi=>by
     show(if i=x.id then c i+1 else c i)=0;rw[if_neg fun h4=>hi e heL (by rw[h4,hxid])]; exact hc i hi)
    refine⟨M,i1,i2,?_,fun i hi=>?_,i5,i6⟩
    ·rw[i3];refine WY fun y _=>?_
     show(if y.id=x.id then c y.id+1 else c y.id)+_=c y.id+_;rw[hcount];split<;>omega
    ·rcases List.mem_cons.1 hi with rfl | hi
     ·exact⟨e,List.mem_append.2 (.inl heL),hxid.symm⟩
     ·exact i4 i hi
   | none=>
    have hL0:ZI D (Wp L c) (zA n)=Wp L c++[⟨((hnd D:Nat):Int),zA n,1⟩]:=by unfold ZI; rw[WI hb]
    have hDD:WK D (Wp L c) (zA n)=ZE D (8+(zA n).length):=by unfold WK; rw[hb]; rfl
    have hI:U6 D (Wp L c) (zA n)=((hnd D:Nat):Int):=by unfold U6; rw[hb]; rfl
    have hno:=yH D;have hidn:∀y∈L,y.id≠((hnd D:Nat):Int):=fun y hy h=>by
     have:=hD y hy;rw[h,hno] at this; cases this
    have hnn:∀y∈L,y.n≠zA n:=fun y hy h=>by
     have hm:(⟨y.id,y.n,y.u+c y.id⟩:Nm)∈Wp L c:=Vz.2 ⟨y,hy,rfl,by have:=hu y hy; show y.u+c y.id≠0; omega⟩;exact Va (WI hb) _ hm h
    have hL:ZI D (Wp L c) (zA n)=Wp (L++[⟨((hnd D:Nat):Int),zA n,0⟩]) (fun k=>if k=((hnd D:Nat):Int) then 1 else c k):=by
     rw[hL0,UF];congr 1
     ·refine WY fun y hy=>?_
      show c y.id=if y.id=((hnd D:Nat):Int) then 1 else c y.id
      rw[if_neg (hidn y hy)]
     ·unfold Wp;simp[Wp]
    rw[hL,hDD,hI];have hd2:xS (L++[⟨((hnd D:Nat):Int),zA n,0⟩]):=hd.add hidn hnn;obtain⟨M,i1,i2,i3,i4,i5,i6⟩:=XP N l (ZE D (8+(zA n).length)) (L++[⟨((hnd D:Nat):Int),zA n,0⟩]) (fun k=>if k=((hnd D:Nat):Int) then 1 else c k) hd2 (fun y hy=>by
     rcases List.mem_append.1 hy with hy | hy
     ·rw[Zx (hidn y hy)]; exact hD y hy
     ·rw[List.mem_singleton.1 hy]; show(Zk _ ((hnd D:Nat):Int)).isSome=true; rw[W9]; rfl) (fun y hy=>by
     show 1≤y.u+if y.id=((hnd D:Nat):Int) then 1 else c y.id
     rcases List.mem_append.1 hy with hy | hy
     ·rw[if_neg (hidn y hy)]; exact hu y hy
     ·rw[List.mem_singleton.1 hy]; simp) (fun i hi=>by
     show(if i=((hnd D:Nat):Int) then 1 else c i)=0;have h5:¬i=((hnd D:Nat):Int):=fun h=>hi ⟨((hnd D:Nat):Int),zA n,0⟩ (by simp) h.symm
     rw[if_neg h5];exact hc i fun y hy=>hi y (List.mem_append.2 (.inl hy)))
    rw[List.append_assoc] at i2 i3 i4 i5;refine⟨[⟨((hnd D:Nat):Int),zA n,0⟩]++M,fun y hy=>?_,i2,?_,fun i hi=>?_,i5,fun y hy=>?_⟩
    ·rcases List.mem_append.1 hy with hy | hy
     ·rw[List.mem_singleton.1 hy]
     ·exact i1 y hy
    ·rw[i3];refine WY fun y _=>?_
     show(if y.id=((hnd D:Nat):Int) then 1 else c y.id)+_=c y.id+_;rw[hcount];by_cases h6:y.id=((hnd D:Nat):Int)
     ·rw[if_pos h6,if_pos h6,h6,hc _ hidn]; omega
     ·rw[if_neg h6,if_neg h6]; omega
    ·rcases List.mem_cons.1 hi with rfl | hi
     ·exact⟨⟨((hnd D:Nat):Int),zA n,0⟩,by simp,rfl⟩
     ·exact i4 i hi
    ·rcases List.mem_append.1 hy with hy | hy
     ·rw[List.mem_singleton.1 hy]; exact hno
     ·have h7:=i6 y hy;have hne:y.id≠((hnd D:Nat):Int):=fun h=>by rw[h,W9] at h7; cases h7
      rw[Zx hne] at h7; exact h7
  ·rw[if_neg hE];exact⟨[],fun e he=>by simp at he,by rw[List.append_nil]; exact hd,by simp,fun i hi=>by simp at hi,by rw[List.append_nil]; exact hD,fun e he=>by simp at he⟩
/-- all adds undone -/
theorem d9{N:Nat}{l:List Bs}{D:List (Option Bt)}{L:List Nm}(hd:xS L)(hp:Pos L)(hD:∀e∈L,(Zk D e.id).isSome=true):drops (wO N D L l).L (wO N D L l).ids=L:=by
 have h0:=aJ hp;obtain⟨M,i1,i2,i3,i4,_,_⟩:=XP N l D L (fun _=>0) hd hD (fun e he=>by have:=hp e he; omega) (fun _ _=>rfl);rw[h0] at i3 i4;rw[i3,Xd i2.ids i4,UF,h0,Jm (fun e he=>by rw[i1 e he]),List.append_nil]
/-! ### what they cost -/
def wL(L:List Nm):List Bs→List Bs→Nat
 | _,[]=>0
 | seen,n::l=>(if zA n∈seen∨(Vp L (zA n)).isSome=true then 0 else zU (8+n.length))+wL L (zA n::seen) l
theorem U1{L:List Nm}:∀{l:List Bs} {s s':List Bs},(∀m,m∈s↔m∈s')→wL L s l=wL L s' l
 | [],_,_,_=>rfl
 | n::l,s,s',h=>by
  unfold wL;rw[U1 (s:=zA n::s) (s':=zA n::s') fun m=>by rw[List.mem_cons,List.mem_cons,h m]];simp only[h (zA n)]
theorem kD{L L':List Nm}{x:Bs}(hL:∀m,(Vp L' m).isSome=true↔m=x∨(Vp L m).isSome=true):∀{l:List Bs} {s:List Bs},wL L' s l=wL L (x::s) l
 | [],_=>rfl
 | n::l,s=>by
  unfold wL;rw[kD hL (l:=l) (s:=zA n::s),U1 (s:=x::zA n::s) (s':=zA n::x::s) fun m=>by simp only[List.mem_cons]; exact⟨fun h=>by rcases h with h | h | h<;>simp[h],fun h=>by rcases h with h | h | h<;>simp[h]⟩];congr 1;have hiff:(zA n∈s∨(Vp L' (zA n)).isSome=true)↔(zA n∈x::s∨(Vp L (zA n)).isSome=true):=by
   rw[hL,List.mem_cons];exact⟨fun h=>by rcases h with h | h | h<;>simp[h],fun h=>by rcases h with(h | h) | h<;>simp[h]⟩
  simp only[hiff]
theorem yT(k:Nat):16≤zU k:=by
 unfold zU
 (repeat' split)<;>omega
theorem Ya{N:Nat}:∀{l:List Bs} {D:List (Option Bt)} {L:List Nm},(∀n∈l,WQ n=true)→Ze D≤N→
 (Ze D+wL L [] l≤N→(wO N D L l).e=0∧Ze (wO N D L l).D=Ze D+wL L [] l)∧(N<Ze D+wL L [] l→(wO N D L l).e=4)
 | [],D,L,_,hN=>⟨fun _=>⟨rfl,rfl⟩,fun h=>absurd h (Nat.not_lt.2 hN)⟩
 | n::l,D,L,hv,hN=>by
  have hvn:=hv n (by simp);have h255:=Ws hvn;have hfl:=wM n;have hstep:wL L [zA n] l=wL (ZI D L (zA n)) [] l:=(kD fun m=>mg).symm;have hcc:cost (8+(n.length:Int))=(zU (8+n.length):Nat):=by
   unfold cost; rw[if_neg (by omega)]; congr 1
  have h16:=yT (8+n.length);unfold wO wL;rw[hstep];have hnil:¬zA n∈([]:List Bs):=by simp
  cases hb:(Vp L (zA n)).isSome with
  | true=>
   have hE:WJ N D L n=0:=by unfold WJ; rw[if_neg (by rw[hvn]; decide),hb]; rfl
   have hDD:WK D L (zA n)=D:=by unfold WK; rw[hb]; rfl
   rw[if_pos hE,if_pos (.inr rfl),Nat.zero_add,hDD];exact Ya (fun m hm=>hv m (List.mem_cons_of_mem _ hm)) hN
  | false=>
   have hEa:WJ N D L n=if(N:Int)-Ze D<(zU (8+n.length):Nat) then 4 else 0:=by
    unfold WJ ZC;rw[if_neg (by rw[hvn]; decide),hb,if_neg (by decide),hcc,if_neg (by omega)]
   have hDD:WK D L (zA n)=ZE D (8+n.length):=by unfold WK; rw[hb,hfl]; rfl
   rw[if_neg (show ¬(zA n∈([]:List Bs)∨false=true) from by simp)];by_cases hroom:Ze D+zU (8+n.length)≤N
   ·have hE:WJ N D L n=0:=by rw[hEa,if_neg (by omega)]
    rw[if_pos hE];have hu:=Q0 D (8+n.length);rw[←hDD] at hu;have ih:=Ya (N:=N) (l:=l) (D:=WK D L (zA n)) (L:=ZI D L (zA n)) (fun m hm=>hv m (List.mem_cons_of_mem _ hm)) (by omega);rw[hu] at ih;refine⟨fun h=>?_,fun h=>ih.2 (by omega)⟩;obtain⟨h1,h2⟩:=ih.1 (by omega);exact⟨h1,by rw[←Nat.add_assoc]; exact h2⟩
   ·have hE:WJ N D L n=4:=by rw[hEa,if_pos (by omega)]
    rw[if_neg (by rw[hE]; decide)];exact⟨fun h=>by omega,fun _=>hE⟩
structure RR where
 n:Bs
 t:Int
 c:Int
 ttl:Int
 d:Bs
instance:Enc RR:=⟨fun x=>[sv x.n,.int .i64 x.t,.int .i64 x.c,.int .i64 x.ttl,sv x.d],5,fun _=>rfl,fun _=>rfl⟩
structure St where
 name:Bs
 typ:Int
 kind:Int
 zone:Bs
 rrs:List RR
def St.v(s:St)(w:Value):Value:= .agg #[sv s.name,.int .i64 s.typ,w,.int .i64 s.kind,sv s.zone]
def YE(a b:Bs):Bool:=WQ a && WQ b && (a.map low==b.map low)
def Xv(s:St)(r:RR):Bool:=YE r.n s.name && decide (r.t=s.typ) && decide (r.c=1) && Zo r.t r.d
def WV(s:St):Bool:=WQ s.name && WQ s.zone && decide (1≤s.typ∧s.typ≤65535∧0≤s.kind∧s.kind≤2) && decide (s.rrs.length≤32) && (decide (0<s.rrs.length)==decide (s.kind=0)) && s.rrs.all (Xv s)
def Uj(d:Bs)(p:Pl):Bs:=(d.drop p.at_).take p.n
def Zw(r:RR):List Bs:=(prt r.t r.d).map (Uj r.d)
def Z8(s:St):List Bs:=s.name::s.zone::(s.rrs.map Zw).flatten
def Wi(l:List Int):Int:=l.foldr (· + ·) 0
def vF(r:RR):Int:=2+(r.d.length:Int)+Wi ((prt r.t r.d).map fun p=>4-(p.n:Int))
def Zm(s:St):Int:=16+Wi (s.rrs.map vF)
def ZU(s:St):Int:=if WV s=false then 1 else if 4096<Zm s then 3 else 0
def xY(s:St):Int:=if ZU s=0 then Zm s else 0
/-- data with other bytes in the names' places -/
def splice(d:Bs):Nat→List Pl→List Bs→Bs
 | a,p::l,x::xs=>(d.drop a).take (p.at_-a)++x++splice d (p.at_+p.n) l xs
 | a,_,_=>d.drop a
def wW(t:Int)(d:Bs):Bs:=splice d 0 (prt t d) ((prt t d).map fun p=>zA (Uj d p))
def Zh(s:St):St:=⟨zA s.name,s.typ,s.kind,zA s.zone,s.rrs.map fun r=>⟨zA s.name,r.t,1,0,wW r.t r.d⟩⟩
/-- a number's bytes, the least first -/
def Uh:Nat→Nat→Bs
 | 0,_=>[]
 | k+1,n=>UInt8.ofNat (n%256)::Uh k (n/256)
theorem Zy:∀(k n:Nat),(Uh k n).length=k
 | 0,_=>rfl
 | k+1,n=>by show(Uh k (n/256)).length+1=k+1; rw[Zy k]
def Ui(i:Int):Bs:=Uh 4 i.toNat
def WW(r:RR)(ids:List Int):Bs:=splice r.d 0 (prt r.t r.d) (ids.map Ui)
def Uw:List RR→List Int→Bs
 | [],_=>[]
 | r::l,ids=>Uh 2 (WW r ids).length++WW r ids++Uw l (ids.drop (prt r.t r.d).length)
def Wq(s:St)(ids:List Int):Bs:=Ui (ids.getD 0 0)++Uh 2 s.typ.toNat++Uh 2 s.kind.toNat++Ui (ids.getD 1 0)++Uh 4 0x5e7b10c5++Uw s.rrs (ids.drop 2)
theorem V8(a:Int)(l:List Int):Wi (a::l)=a+Wi l:=rfl
theorem Xl(l m:List Int):Wi (l++m)=Wi l+Wi m:=by
 induction l with
 | nil=>show Wi m=0+Wi m; omega
 | cons a l ih=>rw[List.cons_append,V8,V8,ih]; omega
theorem QA(t:Int)(d:Bs):prt t d=[]∨∃a k b e,wo t=some (a,k,b)∧a≤d.length∧Yf d k a=some (prt t d,e)∧d.length=e+b:=by
 unfold prt;split
 ·next h=>
  cases hp:X4 t d with
  | none=>exact .inl rfl
  | some l=>exact QD hp
 ·exact .inl rfl
/-- names are names -/
theorem Qw{d:Bs}:∀{a:Nat} {l:List Pl},Row d a l→∀p∈l,WQ (Uj d p)=true∧(Uj d p).length=p.n∧p.at_+p.n≤d.length
 | _,[],_,p,hp=>by simp at hp
 | a,q::l,⟨h1,h2,h3⟩,p,hp=>by
  rcases List.mem_cons.1 hp with rfl | hp
  ·subst h1;have hb:=vI h2;rw[List.length_drop] at hb;exact⟨(yC.1 h2).2,by unfold Uj; rw[List.length_take,List.length_drop]; omega,by omega⟩
  ·exact Qw h3 p hp
theorem XG{t:Int}{d:Bs}{p:Pl}(hp:p∈prt t d):WQ (Uj d p)=true∧(Uj d p).length=p.n∧p.at_+p.n≤d.length:=by
 rcases QA t d with h | ⟨a,k,b,e,_,ha,hc,_⟩
 ·rw[h] at hp; simp at hp
 ·exact Qw (Kj hc ha) p hp
theorem yA{s:St}(h:WV s=true):∀n∈Z8 s,WQ n=true:=fun n hn=>by
 unfold WV at h;simp only[Bool.and_eq_true] at h;obtain⟨⟨⟨⟨⟨h1,h2⟩,_⟩,_⟩,_⟩,_⟩:=h;unfold Z8 at hn;rcases List.mem_cons.1 hn with rfl | hn
 ·exact h1
 rcases List.mem_cons.1 hn with rfl | hn
 ·exact h2
 obtain⟨l,hl,hn⟩:=List.mem_flatten.1 hn;obtain⟨r,_,rfl⟩:=List.mem_map.1 hl;unfold Zw at hn;obtain⟨p,hp,rfl⟩:=List.mem_map.1 hn;exact(XG hp).1
/-! ### numbers beside names -/
inductive Al (L:List Nm):List Int→List Bs→Prop
 | nil:Al L [] []
 | cons {i:Int} {n:Bs} {ids:List Int} {ns:List Bs} (h:∃e∈L,e.id=i∧e.n=n) (t:Al L ids ns):Al L (i::ids) (n::ns)
theorem Al.mono{L L':List Nm}(h:∀e∈L,∃e'∈L',e'.id=e.id∧e'.n=e.n):∀{ids:List Int} {ns:List Bs},Al L ids ns→Al L' ids ns
 | _,_,.nil=> .nil
 | _,_,.cons ⟨e,he,h1,h2⟩ t=>by
  obtain⟨e',he',h3,h4⟩:=h e he;exact .cons ⟨e',he',h3.trans h1,h4.trans h2⟩ (Al.mono h t)
theorem dw{D:List (Option Bt)}{L:List Nm}{n:Bs}{e:Nm}(he:e∈L):∃e'∈ZI D L n,e'.id=e.id∧e'.n=e.n:=by
 cases hb:Vp L n with
 | some x=>
  obtain⟨j,h1,h2,rfl⟩:=vN hb;have:ZI D L x.n=reuse L j x (x.u+1):=by unfold ZI; rw[h1]; simp only[h2]
  rw[this];exact WR h2 he
 | none=>
  have:ZI D L n=L++[⟨((hnd D:Nat):Int),n,1⟩]:=by unfold ZI; rw[WI hb]
  rw[this];exact⟨e,List.mem_append.2 (.inl he),rfl,rfl⟩
theorem dh{D:List (Option Bt)}{L:List Nm}{n:Bs}:∃e∈ZI D L n,e.id=U6 D L n∧e.n=n:=by
 cases hb:Vp L n with
 | some x=>
  obtain⟨j,h1,h2,rfl⟩:=vN hb;have:ZI D L x.n=reuse L j x (x.u+1):=by unfold ZI; rw[h1]; simp only[h2]
  rw[this];obtain⟨e,he,h3,h4⟩:=WR (u:=x.u+1) h2 (List.mem_of_getElem? h2);exact⟨e,he,by rw[h3]; unfold U6; rw[hb]; rfl,h4⟩
 | none=>
  have:ZI D L n=L++[⟨((hnd D:Nat):Int),n,1⟩]:=by unfold ZI; rw[WI hb]
  rw[this];exact⟨⟨((hnd D:Nat):Int),n,1⟩,by simp,by unfold U6; rw[hb]; rfl,rfl⟩
theorem U4{N:Nat}{D:List (Option Bt)}{L:List Nm}{n:Bs}{l:List Bs}(h:WJ N D L n=0):wO N D L (n::l)=⟨(wO N (WK D L (zA n)) (ZI D L (zA n)) l).D,(wO N (WK D L (zA n)) (ZI D L (zA n)) l).L,U6 D L (zA n)::(wO N (WK D L (zA n)) (ZI D L (zA n)) l).ids,(wO N (WK D L (zA n)) (ZI D L (zA n)) l).e⟩:=by
 rw[wO,if_pos h]
theorem Y8{N:Nat}{D:List (Option Bt)}{L:List Nm}{n:Bs}{l:List Bs}(h:WJ N D L n≠0):wO N D L (n::l)=⟨D,L,[],WJ N D L n⟩:=by
 rw[wO,if_neg h]
theorem Y9{N:Nat}:∀{l:List Bs} {D:List (Option Bt)} {L:List Nm} {e:Nm},e∈L→∃e'∈(wO N D L l).L,e'.id=e.id∧e'.n=e.n
 | [],_,_,e,he=>⟨e,he,rfl,rfl⟩
 | n::l,D,L,e,he=>by
  by_cases hE:WJ N D L n=0
  ·rw[U4 hE];obtain⟨e1,h1,h2,h3⟩:=dw (D:=D) (n:=zA n) he;obtain⟨e2,h4,h5,h6⟩:=Y9 (N:=N) (l:=l) (D:=WK D L (zA n)) h1;exact⟨e2,h4,h5.trans h2,h6.trans h3⟩
  ·rw[Y8 hE]; exact⟨e,he,rfl,rfl⟩
theorem Q5{N:Nat}:∀{l:List Bs} {D:List (Option Bt)} {L:List Nm},(wO N D L l).e=0→Al (wO N D L l).L (wO N D L l).ids (l.map zA)
 | [],_,_,_=> .nil
 | n::l,D,L,h=>by
  by_cases hE:WJ N D L n=0
  ·rw[U4 hE] at h ⊢;obtain⟨e1,h1,h2,h3⟩:=dh (D:=D) (L:=L) (n:=zA n);obtain⟨e2,h4,h5,h6⟩:=Y9 (N:=N) (l:=l) (D:=WK D L (zA n)) h1;exact .cons ⟨e2,h4,h5.trans h2,h6.trans h3⟩ (Q5 h)
  ·rw[Y8 hE] at h; exact absurd h hE
/-! ### names that live by the numbers that are held -/
structure j3(L:List Nm)(A:List Int):Prop where
 dis:xS L
 us:∀e∈L,e.u=A.count e.id
 pos:Pos L
 ids:∀i∈A,∃e∈L,e.id=i
theorem j3.nil:j3 [] []:=⟨⟨List.nodup_nil,List.nodup_nil⟩,fun e he=>by simp at he,Pos.nil,fun i hi=>by simp at hi⟩
def Qa(L:List Nm):List Nm:=L.map fun e=>⟨e.id,e.n,0⟩
theorem mF(L:List Nm):(Qa L).map (·.id)=L.map (·.id):=by unfold Qa; rw[List.map_map]; rfl
theorem sK(L:List Nm):(Qa L).map (·.n)=L.map (·.n):=by unfold Qa; rw[List.map_map]; rfl
theorem Xz{L:List Nm}{e:Nm}(h:e∈Qa L):e.u=0∧∃x∈L,x.id=e.id∧x.n=e.n:=by
 unfold Qa at h;obtain⟨x,hx,rfl⟩:=List.mem_map.1 h;exact⟨rfl,x,hx,rfl,rfl⟩
theorem xE{L:List Nm}{e:Nm}(h:e∈L):(⟨e.id,e.n,0⟩:Nm)∈Qa L:=List.mem_map.2 ⟨e,h,rfl⟩
theorem kP{L:List Nm}(h:xS L):xS (Qa L):=⟨by rw[mF]; exact h.ids,by rw[sK]; exact h.ns⟩
theorem aI{c:Int→Nat}:∀{L:List Nm},(∀e∈L,e.u=c e.id)→Pos L→Wp (Qa L) c=L
 | [],_,_=>rfl
 | e::l,h,hp=>by
  have h1:=h e (by simp);have h2:=hp e (by simp);show Wp (⟨e.id,e.n,0⟩::Qa l) c=_;rw[Y5,aI (fun x hx=>h x (List.mem_cons_of_mem _ hx)) fun x hx=>hp x (List.mem_cons_of_mem _ hx)];simp only;rw[if_neg (by omega),Nat.zero_add, ←h1]
theorem j3.Wp{L:List Nm}{A:List Int}(h:j3 L A):Wp (Qa L) (fun k=>A.count k)=L:=aI h.us h.pos
theorem j3.of{M:List Nm}{A:List Int}(hd:xS M)(h0:∀e∈M,e.u=0)(hi:∀i∈A,∃e∈M,e.id=i):j3 (Proofs.YtekgciopamkjlaaGreat.Wp M fun k=>A.count k) A:=by
 refine⟨aL _ hd,fun e he=>?_,fun e he=>?_,fun i hA=>?_⟩
 ·obtain⟨x,hx,rfl,_⟩:=Vz.1 he;show x.u+A.count x.id=A.count x.id;rw[h0 x hx,Nat.zero_add]
 ·obtain⟨x,hx,rfl,h1⟩:=Vz.1 he;exact Nat.pos_of_ne_zero h1
 ·obtain⟨e,he,rfl⟩:=hi i hA;refine⟨_,Vz.2 ⟨e,he,rfl,?_⟩,rfl⟩;have:=List.count_pos_iff.2 hA;show e.u+A.count e.id≠0;omega
theorem j3.adds{N:Nat}{l:List Bs}{D:List (Option Bt)}{L:List Nm}{A:List Int}(h:j3 L A)(hD:∀e∈L,(Zk D e.id).isSome=true):j3 (wO N D L l).L (A++(wO N D L l).ids):=by
 obtain⟨M,i1,i2,i3,i4,_,_⟩:=XP N l D (Qa L) (fun k=>A.count k) (kP h.dis) (fun e he=>by
  obtain⟨_,x,hx,h1,_⟩:=Xz he;rw[←h1]; exact hD x hx) (fun e he=>by
  obtain⟨_,x,hx,h1,_⟩:=Xz he;have:=h.us x hx;have:=h.pos x hx;show 1≤e.u+A.count e.id;rw[←h1]; omega) (fun i hi=>by
  refine List.count_eq_zero.2 fun hA=>?_
  obtain⟨e,he,rfl⟩:=h.ids i hA;exact hi _ (xE he) rfl)
 rw[h.Wp] at i3 i4;rw[i3];have hc:(fun k=>A.count k+(wO N D L l).ids.count k)=fun k=>(A++(wO N D L l).ids).count k:=by
  funext k; rw[List.count_append]
 rw[hc];refine j3.of i2 (fun e he=>?_) (fun i hi=>?_)
 ·rcases List.mem_append.1 he with he | he
  ·exact(Xz he).1
  ·exact i1 e he
 ·rcases List.mem_append.1 hi with hi | hi
  ·obtain⟨e,he,h1⟩:=h.ids i hi;exact⟨_,List.mem_append.2 (.inl (xE he)),h1⟩
  ·exact i4 i hi
/-- numbers are given back -/
theorem j3.drops{L:List Nm}{A ids R:List Int}(h:j3 L A)(hA:∀k,A.count k=R.count k+ids.count k):j3 (drops L ids) R∧∀e∈L,e.id∈R→∃e'∈Proofs.YtekgciopamkjlaaGreat.drops L ids,e'.id=e.id∧e'.n=e.n:=by
 have hb:=h.Wp;have hmem:∀i,i∈R∨i∈ids→i∈A:=fun i hi=>by
  rw[←List.count_pos_iff,hA];rcases hi with hi | hi
  ·have:=List.count_pos_iff.2 hi; omega
  ·have:=List.count_pos_iff.2 hi; omega
 have hfun:(fun k=>A.count k)=fun k=>R.count k+ids.count k:=funext hA
 have hd:Proofs.YtekgciopamkjlaaGreat.drops L ids=Proofs.YtekgciopamkjlaaGreat.Wp (Qa L) (fun k=>R.count k):=by
  rw[←hb,hfun];have:=Xd (ids:=ids) (L:=Qa L) (c:=fun k=>R.count k) (kP h.dis).ids (fun i hi=>by
   obtain⟨e,he,h1⟩:=h.ids i (hmem i (.inr hi));exact⟨_,xE he,h1⟩)
  rw[hfun] at hb;rw[hb] at this ⊢;exact this
 rw[hd];refine⟨j3.of (kP h.dis) (fun e he=>(Xz he).1) (fun i hi=>?_),fun e he hR=>?_⟩
 ·obtain⟨e,he,h1⟩:=h.ids i (hmem i (.inl hi));exact⟨_,xE he,h1⟩
 ·refine⟨_,Vz.2 ⟨_,xE he,rfl,?_⟩,rfl,rfl⟩;have:=List.count_pos_iff.2 hR;show 0+R.count e.id≠0;omega
theorem j3.empty{L:List Nm}(h:j3 L []):L=[]:=by
 cases L with
 | nil=>rfl
 | cons e l=>
  have h1:=h.us e (by simp);have h2:=h.pos e (by simp);simp at h1; omega
/-! ### arenas that are alike -/
def UH(D D':List (Option Bt)):Prop:=∀i,(Zk D i).map List.length=(Zk D' i).map List.length
theorem UH.symm{D D':List (Option Bt)}(h:UH D D'):UH D' D:=fun i=>(h i).symm
theorem UH.trans{D D' D'':List (Option Bt)}(h:UH D D')(k:UH D' D''):UH D D'':=fun i=>(h i).trans (k i)
theorem UH.refl(D:List (Option Bt)):UH D D:=fun _=>rfl
theorem UH.stand{D D':List (Option Bt)}(h:UH D D')(i:Int):(Zk D i).isSome=(Zk D' i).isSome:=by
 have:=congrArg Option.isSome (h i);simpa using this
theorem JN{D D':List (Option Bt)}(h:UH D D')(i:Nat):((D[i]?).join).map List.length=((D'[i]?).join).map List.length:=by
 have:=h ((i:Int)+1)
 rwa [ZB,ZB] at this
theorem K8{D D':List (Option Bt)}(h:dz D=dz D'):UH D D':=fun i=>by
 unfold Zk;split
 ·have h1:=congrArg (fun l=>(l[(i-1).toNat]?).join) h;simp only[dz,List.getElem?_map] at h1;cases h2:D[(i-1).toNat]? with
  | none=>
   rw[h2] at h1;cases h3:D'[(i-1).toNat]? with
   | none=>rfl
   | some y=>rw[h3] at h1; simpa using h1
  | some x=>
   rw[h2] at h1;cases h3:D'[(i-1).toNat]? with
   | none=>rw[h3] at h1; simpa using h1
   | some y=>rw[h3] at h1; simpa using h1
 ·rfl
theorem Ua{D D':List (Option Bt)}(h:UH D D'):hnd D=hnd D':=by
 refine J4 (wR D) (fun i hi=>?_) ?_
 ·obtain⟨b,hb⟩:=xH D i hi;have:=JN h i;rw[hb] at this;cases h2:D'[i]? with
  | none=>rw[h2] at this; simp at this
  | some x=>
   cases x with
   | none=>rw[h2] at this; simp at this
   | some c=>exact⟨c,rfl⟩
 ·have:=JN h (hnd D-1);rw[vJ D] at this;cases h2:(D'[hnd D-1]?).join with
  | none=>rfl
  | some c=>rw[h2] at this; simp at this
theorem U8:∀{D:List (Option Bt)},(∀i:Nat,(D[i]?).join=none)→Ze D=0
 | [],_=>rfl
 | a::l,h=>by
  have h0:=h 0;simp only[List.getElem?_cons_zero,Option.join_some] at h0;subst h0;have ih:=U8 (D:=l) fun i=>by simpa using h (i+1)
  unfold Ze at ih ⊢;rw[List.map_cons,List.sum_cons,ih]; rfl
theorem Qm:∀{D D':List (Option Bt)},(∀i:Nat,((D[i]?).join).map List.length=((D'[i]?).join).map List.length)→Ze D=Ze D'
 | [],D',h=>(U8 (D:=D') fun i=>by
  have:=h i;cases h2:(D'[i]?).join with
  | none=>rfl
  | some c=>rw[h2] at this; simp at this).symm
 | a::l,[],h=>U8 (D:=a::l) fun i=>by
  have:=h i;cases h2:((a::l)[i]?).join with
  | none=>rfl
  | some c=>rw[h2] at this; simp at this
 | a::l,b::m,h=>by
  have h0:=h 0;have ih:=Qm (D:=l) (D':=m) fun i=>by simpa using h (i+1)
  simp only[List.getElem?_cons_zero,Option.join_some] at h0;unfold Ze at ih ⊢;rw[List.map_cons,List.sum_cons,List.map_cons,List.sum_cons,ih];congr 1;cases a with
  | none=>
   cases b with
   | none=>rfl
   | some y=>simp at h0
  | some x=>
   cases b with
   | none=>simp at h0
   | some y=>
    have:x.length=y.length:=by simpa using h0
    show zU x.length=zU y.length;rw[this]
theorem fD{D D':List (Option Bt)}(h:UH D D'):Ze D=Ze D':=Qm (JN h)
theorem y8{D D':List (Option Bt)}(h:UH D D')(N:Nat)(n:Int):ZC N D n=ZC N D' n:=by unfold ZC; rw[fD h]
theorem YC{D D':List (Option Bt)}(h:UH D D')(m:Nat):UH (ZE D m) (ZE D' m):=fun i=>by
 by_cases hi:i=((hnd D:Nat):Int)
 ·have h2:=W9 D' m;rw[←Ua h] at h2;rw[hi,W9,h2]
 ·rw[Zx hi,Zx (by rw[←Ua h]; exact hi)]; exact h i
theorem Xa(D:List (Option Bt))(i:Int):Zk (WL D i) i=none:=by
 cases hb:Zk D i with
 | some b=>exact YS hb
 | none=>unfold WL; rw[hb,if_neg (by decide)]; exact hb
theorem jC{D D':List (Option Bt)}(h:UH D D')(i:Int):UH (WL D i) (WL D' i):=fun k=>by
 by_cases hk:k=i
 ·rw[hk,Xa,Xa]
 ·rw[wh hk,wh hk]; exact h k
theorem ny{D:List (Option Bt)}{h:Int}{b Y:Bt}(hg:Zk D h=some b)(hl:Y.length=b.length):UH (D.set (h-1).toNat (some Y)) D:=K8 (XF hg hl)
theorem WZ.stand{D:List (Option Bt)}{L:List Nm}{B:List (Int × Bs)}(h:WZ D L B):∀e∈L,(Zk D e.id).isSome=true:=fun e he=>by rw[h.blk e he]; rfl
theorem WZ.empty{D:List (Option Bt)}(h:WZ D [] []):Ze D=0:=by
 refine U8 fun i=>?_
 cases hb:(D[i]?).join with
 | none=>rfl
 | some b=>
  rw[←ZB] at hb;rcases h.all _ b hb with⟨e,he,_⟩ | ⟨x,hx,_⟩
  ·simp at he
  ·simp at hx
/-- a block more, of others -/
theorem WZ.alloc{D:List (Option Bt)}{L:List Nm}{B:List (Int × Bs)}(h:WZ D L B)(m:Nat):WZ (ZE D m) L ((((hnd D:Nat):Int),zeros m)::B):=by
 have hno:=yH D;have hid:∀e∈L,e.id≠((hnd D:Nat):Int):=fun x hx e=>by
  have:=h.blk x hx;rw[e,hno] at this; cases this
 refine⟨h.dis,fun e he=>by rw[Zx (hid e he)]; exact h.blk e he,fun x hx=>?_,fun i b hib=>?_,h.us,h.fold⟩
 ·rcases List.mem_cons.1 hx with rfl | hx
  ·exact⟨W9 D m,hid⟩
  ·obtain⟨h1,h2⟩:=h.oth x hx;have hne:x.1≠((hnd D:Nat):Int):=fun e=>by rw[e,hno] at h1; cases h1
   exact⟨by rw[Zx hne]; exact h1,h2⟩
 ·by_cases hi:i=((hnd D:Nat):Int)
  ·exact .inr ⟨_,List.mem_cons_self,hi.symm⟩
  ·rw[Zx hi] at hib;rcases h.all i b hib with hx | ⟨x,hx,hxi⟩
   ·exact .inl hx
   ·exact .inr ⟨x,List.mem_cons_of_mem _ hx,hxi⟩
/-- handles of others are told once -/
def Hs(B:List (Int × Bs)):Prop:=(B.map (·.1)).Nodup
theorem WZ.write{D:List (Option Bt)}{L:List Nm}{B:List (Int × Bs)}{k:Int}{b Y:Bs}(h:WZ D L ((k,b)::B))(hh:Hs ((k,b)::B)):WZ (D.set (k-1).toNat (some Y)) L ((k,Y)::B):=by
 obtain⟨h1,h2⟩:=h.oth (k,b) (by simp);have hg:Zk D k=some b:=h1;have hne:∀x∈B,x.1≠k:=fun x hx e=>(List.nodup_cons.1 hh).1 (List.mem_map.2 ⟨x,hx,e⟩)
 refine⟨h.dis,fun e he=>by rw[WE hg,if_neg (h2 e he)]; exact h.blk e he,fun x hx=>?_,fun i c hib=>?_,h.us,h.fold⟩
 ·rcases List.mem_cons.1 hx with rfl | hx
  ·exact⟨by rw[WE hg,if_pos rfl],h2⟩
  ·obtain⟨h3,h4⟩:=h.oth x (List.mem_cons_of_mem _ hx);exact⟨by rw[WE hg,if_neg (hne x hx)]; exact h3,h4⟩
 ·rw[WE hg] at hib;by_cases hi:i=k
  ·exact .inr ⟨_,List.mem_cons_self,hi.symm⟩
  ·rw[if_neg hi] at hib;rcases h.all i c hib with hx | ⟨x,hx,hxi⟩
   ·exact .inl hx
   ·rcases List.mem_cons.1 hx with rfl | hx
    ·exact absurd hxi.symm hi
    ·exact .inr ⟨x,List.mem_cons_of_mem _ hx,hxi⟩
/-- a block of others goes -/
theorem WZ.free{D:List (Option Bt)}{L:List Nm}{B B':List (Int × Bs)}{k:Int}{b:Bs}(h:WZ D L B)(hm:(k,b)∈B)(hB:∀x,x∈B'↔x∈B∧x.1≠k):WZ (WL D k) L B':=by
 obtain⟨h1,h2⟩:=h.oth (k,b) hm;refine⟨h.dis,fun e he=>by rw[wh (h2 e he)]; exact h.blk e he,fun x hx=>?_,fun i c hib=>?_,h.us,h.fold⟩
 ·obtain⟨h3,h4⟩:=(hB x).1 hx;obtain⟨h5,h6⟩:=h.oth x h3;exact⟨by rw[wh h4]; exact h5,h6⟩
 ·by_cases hi:i=k
  ·rw[hi,Xa] at hib; cases hib
  ·rw[wh hi] at hib;rcases h.all i c hib with hx | ⟨x,hx,hxi⟩
   ·exact .inl hx
   ·exact .inr ⟨x,(hB x).2 ⟨hx,by rw[hxi]; exact hi⟩,hxi⟩
def Xo:Nat→List Bs→List Pl
 | _,[]=>[]
 | a,x::xs=>⟨a,x.length⟩::Xo (a+x.length) xs
theorem QT:∀(a:Nat) (xs:List Bs),(Xo a xs).length=xs.length
 | _,[]=>rfl
 | a,x::xs=>by show(Xo _ xs).length+1=xs.length+1; rw[QT]
theorem jW:∀{a:Nat} {xs zs:List Bs},xs.map List.length=zs.map List.length→Xo a xs=Xo a zs
 | _,[],[],_=>rfl
 | _,[],_::_,h=>by simp at h
 | _,_::_,[],h=>by simp at h
 | a,x::xs,y::zs,h=>by
  rw[List.map_cons,List.map_cons,List.cons.injEq] at h;show(⟨a,x.length⟩:Pl)::Xo (a+x.length) xs=⟨a,y.length⟩::Xo (a+y.length) zs;rw[h.1,jW h.2]
theorem Kk:∀(xs:List Bs) (P Z:Bs),(∀x∈xs,WQ x=true)→Yf (P++xs.flatten++Z) xs.length P.length=some (Xo P.length xs,P.length+xs.flatten.length)
 | [],P,Z,_=>rfl
 | x::xs,P,Z,h=>by
  have hx:=h x (by simp);have hd:(P++(x::xs).flatten++Z).drop P.length=x++(xs.flatten++Z):=by
   rw[List.flatten_cons,List.append_assoc,List.append_assoc,List.drop_left]
  have hl:=ig (Z:=xs.flatten++Z) hx;have ih:=Kk xs (P++x) Z (fun y hy=>h y (List.mem_cons_of_mem _ hy));have e:P++(x::xs).flatten++Z=P++x++xs.flatten++Z:=by rw[List.flatten_cons,List.append_assoc P x]
  rw[List.length_append] at ih;show Yf _ (xs.length+1) P.length=_;unfold Yf;rw[hd,hl,e];simp only[if_true,ih,Option.map_some];show some (_,_)=some (_,_);rw[List.flatten_cons,List.length_append,Nat.add_assoc]; rfl
theorem yg{d:Bs}:∀{k a:Nat} {l:List Pl} {e:Nat},Yf d k a=some (l,e)→a≤d.length→∃xs:List Bs,xs.length=k∧(∀x∈xs,WQ x=true)∧l=Xo a xs∧d.drop a=xs.flatten++d.drop e∧l.map (Uj d)=xs∧e=a+xs.flatten.length
 | 0,a,l,e,h,ha=>by
  obtain⟨rfl,rfl⟩:=Prod.mk.inj (Option.some.inj h);exact⟨[],rfl,fun x hx=>by simp at hx,rfl,rfl,rfl,rfl⟩
 | k+1,a,l,e,h,ha=>by
  unfold Yf at h;split at h
  ·next h2=>
   have hl:lead (d.drop a)=((lead (d.drop a)).1,true):=by rw[←h2]
   have hp:=vI hl;have hv:=(yC.1 hl).2;rw[List.length_drop] at hp;cases hx:Yf d k (a+(lead (d.drop a)).1) with
   | none=>rw[hx] at h; cases h
   | some x=>
    obtain⟨l2,e2⟩:=x;rw[hx] at h;obtain⟨rfl,rfl⟩:=Prod.mk.inj (Option.some.inj h);obtain⟨xs,i1,i2,i3,i4,i5,i6⟩:=yg hx (by omega);have hlen:((d.drop a).take (lead (d.drop a)).1).length=(lead (d.drop a)).1:=by rw[List.length_take,List.length_drop]; omega
    refine⟨(d.drop a).take (lead (d.drop a)).1::xs,by rw[List.length_cons,i1],fun y hy=>?_,?_,?_,?_,?_⟩
    ·rcases List.mem_cons.1 hy with rfl | hy
     ·exact hv
     ·exact i2 y hy
    ·show _=(⟨a,_⟩:Pl)::Xo _ xs;rw[hlen,i3]
    ·rw[List.flatten_cons,List.append_assoc, ←i4, ←List.drop_drop,List.take_append_drop]
    ·rw[List.map_cons,i5]; rfl
    ·rw[List.flatten_cons,List.length_append,hlen,i6,Nat.add_assoc]
  ·cases h
theorem Uu{t:Int}{x:Nat × Nat × Nat}(h:wo t=some x):t≠1∧t≠28∧t≠16∧1≤x.2.1:=by
 unfold wo at h;split at h
 ·obtain rfl:=Option.some.inj h; exact⟨by omega,by omega,by omega,Nat.le_refl _⟩
 ·split at h
  ·obtain rfl:=Option.some.inj h; exact⟨by omega,by omega,by omega,Nat.le_refl _⟩
  ·split at h
   ·obtain rfl:=Option.some.inj h; exact⟨by omega,by omega,by omega,Nat.le_refl _⟩
   ·split at h
    ·obtain rfl:=Option.some.inj h; exact⟨by omega,by omega,by omega,by decide⟩
    ·cases h
/-- data in three parts: bytes, names, bytes -/
structure Form(t:Int)(d:Bs)(P:Bs)(xs:List Bs)(Z:Bs):Prop where
 shape:wo t=some (P.length,xs.length,Z.length)
 eq:d=P++xs.flatten++Z
 WQ:∀x∈xs,WQ x=true
theorem Form.X4{t:Int}{d P:Bs}{xs:List Bs}{Z:Bs}(h:Form t d P xs Z):X4 t d=some (Xo P.length xs):=by
 unfold Proofs.YtekgciopamkjlaaGreat.X4;rw[h.shape];have:=Kk xs P Z h.WQ;rw[←h.eq] at this;have hl:d.length=P.length+xs.flatten.length+Z.length:=by rw[h.eq,List.length_append,List.length_append]
 simp only;rw[if_neg (by omega),this];simp only;rw[if_pos hl]
theorem Form.ok{t:Int}{d P:Bs}{xs:List Bs}{Z:Bs}(h:Form t d P xs Z)(hd:d.length≤1000):Zo t d=true∧prt t d=Xo P.length xs:=by
 have hk:=Uu h.shape;have h1:Zo t d=true:=by
  unfold Zo;rw[if_neg (by omega),if_neg hk.1,if_neg hk.2.1,if_neg hk.2.2.1,h.X4]; rfl
 refine⟨h1,?_⟩;unfold prt;rw[if_pos h1,h.X4]; rfl
theorem wY{t:Int}{d:Bs}(h:Zo t d=true):d.length≤1000:=by
 unfold Zo at h;split at h
 ·cases h
 ·omega
theorem KJ{t:Int}{d:Bs}(h:Zo t d=true){x:Nat × Nat × Nat}(hs:wo t=some x):∃P xs Z,Form t d P xs Z∧(prt t d).map (Uj d)=xs:=by
 have hk:=Uu hs;have h0:=h;have hlen:=wY h;unfold Zo at h;rw[if_neg (by omega),if_neg hk.1,if_neg hk.2.1,if_neg hk.2.2.1] at h;have hprt:∀l,X4 t d=some l→prt t d=l:=fun l hl=>by unfold prt; rw[if_pos h0,hl]; rfl
 obtain⟨a,k,b⟩:=x;unfold X4 at h hprt;rw[hs] at h hprt;simp only at h hprt;split at h
 ·cases h
 ·next ha=>
  rw[if_neg ha] at hprt;split at h
  ·next l e hp=>
   rw[hp] at hprt;split at h
   ·next he=>
    obtain⟨xs,i1,i2,i3,i4,i5,i6⟩:=yg hp (by omega);have hpe:=hprt l (by simp only; rw[if_pos he]);refine⟨d.take a,xs,d.drop e,⟨?_,?_,i2⟩,by rw[hpe]; exact i5⟩
    ·rw[hs,i1,List.length_take,List.length_drop];congr 2
     ·omega
     ·congr 1; omega
    ·rw[List.append_assoc, ←i4,List.take_append_drop]
   ·cases h
  ·cases h
theorem VO{t:Int}{d:Bs}(hs:wo t=none):prt t d=[]:=by
 unfold prt X4;rw[hs];split<;>rfl
theorem YB:∀(xs zs:List Bs) (P Z:Bs),zs.length=xs.length→splice (P++xs.flatten++Z) P.length (Xo P.length xs) zs=zs.flatten++Z
 | [],zs,P,Z,h=>by
  have:zs=[]:=List.length_eq_zero_iff.1 h;subst this;show(P++[]++Z).drop P.length=[]++Z;rw[List.append_nil,List.drop_left]; rfl
 | x::xs,[],P,Z,h=>by simp at h
 | x::xs,y::zs,P,Z,h=>by
  have ih:=YB xs zs (P++x) Z (by simpa using h);have e:P++(x::xs).flatten++Z=P++x++xs.flatten++Z:=by rw[List.flatten_cons,List.append_assoc P x]
  rw[List.length_append] at ih;rw[e];show((P++x++xs.flatten++Z).drop P.length).take (P.length-P.length)++y++splice (P++x++xs.flatten++Z) (P.length+x.length) (Xo (P.length+x.length) xs) zs=_;rw[ih,Nat.sub_self,List.take_zero,List.nil_append,List.flatten_cons,List.append_assoc]
theorem Form.splice{t:Int}{d P:Bs}{xs:List Bs}{Z:Bs}(h:Form t d P xs Z){zs:List Bs}(hy:zs.length=xs.length):splice d 0 (Xo P.length xs) zs=P++zs.flatten++Z:=by
 have hk:=(Uu h.shape).2.2.2;have:=YB xs zs P Z hy;rw[←h.eq] at this;cases xs with
 | nil=>simp at hk
 | cons x xs=>
  cases zs with
  | nil=>simp at hy
  | cons y zs=>
   have e1:Proofs.YtekgciopamkjlaaGreat.splice d P.length (Xo P.length (x::xs)) (y::zs)=y++Proofs.YtekgciopamkjlaaGreat.splice d (P.length+x.length) (Xo (P.length+x.length) xs) zs:=by
    show(d.drop P.length).take (P.length-P.length)++y++_=_;rw[Nat.sub_self,List.take_zero]; rfl
   rw[e1] at this;show(d.drop 0).take (P.length-0)++y++Proofs.YtekgciopamkjlaaGreat.splice d (P.length+x.length) (Xo (P.length+x.length) xs) zs=_;rw[List.append_assoc,this,List.drop_zero,Nat.sub_zero,List.append_assoc];congr 1;rw[h.eq,List.append_assoc,List.take_left]
/-- folded -/
theorem Form.fold{t:Int}{d P:Bs}{xs:List Bs}{Z:Bs}(h:Form t d P xs Z):Form t (P++(xs.map zA).flatten++Z) P (xs.map zA) Z:=by
 refine⟨by rw[List.length_map]; exact h.shape,rfl,fun x hx=>?_⟩;obtain⟨y,hy,rfl⟩:=List.mem_map.1 hx;rw[VK]; exact h.WQ y hy
theorem YV(xs:List Bs):(xs.map zA).map List.length=xs.map List.length:=by
 rw[List.map_map]; exact List.map_congr_left fun x _=>wM x
theorem iQ(xs zs:List Bs)(h:xs.map List.length=zs.map List.length):xs.flatten.length=zs.flatten.length:=by
 rw[List.length_flatten,List.length_flatten,h]
theorem Form.cut{t:Int}{d P:Bs}{xs:List Bs}{Z:Bs}(h:Form t d P xs Z)(hd:d.length≤1000):(prt t d).map (Uj d)=xs:=by
 rw[(h.ok hd).2];have:=Kk xs P Z h.WQ;rw[←h.eq] at this;obtain⟨zs,_,_,i3,i4,i5,i6⟩:=yg this (by rw[h.eq,List.length_append,List.length_append]; omega);rw[i5];have hm:Xo P.length xs=Xo P.length zs:=i3
 -- the same lengths, the same bytes
 have key:∀(a:Nat) (xs zs:List Bs) (Z Z':Bs),Xo a xs=Xo a zs→xs.flatten++Z=zs.flatten++Z'→xs=zs:=by
  intro a xs
  induction xs generalizing a with
  | nil=>
   intro zs Z Z' h1 _;cases zs with
   | nil=>rfl
   | cons y zs=>cases h1
  | cons x xs ih=>
   intro zs Z Z' h1 h2;cases zs with
   | nil=>cases h1
   | cons y zs=>
    have h3:(⟨a,x.length⟩:Pl)::Xo (a+x.length) xs=⟨a,y.length⟩::Xo (a+y.length) zs:=h1;obtain⟨h4,h5⟩:=List.cons.inj h3;have hl:x.length=y.length:=congrArg Pl.n h4;rw[List.flatten_cons,List.flatten_cons,List.append_assoc,List.append_assoc] at h2;obtain⟨h6,h7⟩:=List.append_inj h2 hl;rw[h6,ih _ _ _ _ (by rw[hl] at h5; rw[←hl] at h5; rw[h5,hl]) h7]
 refine(key P.length xs zs Z (d.drop (P.length+xs.flatten.length)) hm ?_).symm;rw[←i4,h.eq,List.append_assoc,List.drop_left]
theorem Form.J5{t:Int}{d P:Bs}{xs:List Bs}{Z:Bs}(h:Form t d P xs Z):(P++(xs.map zA).flatten++Z).length=d.length:=by
 rw[h.eq,List.length_append,List.length_append,List.length_append,List.length_append,iQ _ _ (YV xs)]
theorem yL{t:Int}{d P:Bs}{xs:List Bs}{Z:Bs}(h:Form t d P xs Z)(hd:d.length≤1000):wW t d=P++(xs.map zA).flatten++Z:=by
 have h1:=h.cut hd;unfold wW;have:((prt t d).map fun p=>zA (Uj d p))=xs.map zA:=by rw[←h1,List.map_map]; rfl
 rw[this,(h.ok hd).2];exact h.splice (by rw[List.length_map])
theorem yK{t:Int}{d:Bs}(hs:wo t=none):wW t d=d:=by
 unfold wW;rw[VO hs]; rfl
/-- data folded is as good -/
theorem yJ{t:Int}{d:Bs}(h:Zo t d=true):Zo t (wW t d)=true∧prt t (wW t d)=prt t d∧(wW t d).length=d.length:=by
 cases hs:wo t with
 | none=>rw[yK hs]; exact⟨h,rfl,rfl⟩
 | some x=>
  have hd:=wY h;obtain⟨P,xs,Z,hf,_⟩:=KJ h hs;rw[yL hf hd];have hl:=hf.J5;obtain⟨h1,h2⟩:=hf.fold.ok (by omega);exact⟨h1,by rw[h2,(hf.ok hd).2,jW (YV xs)],hl⟩
theorem kC{r:RR}{P:Bs}{xs:List Bs}{Z:Bs}(h:Form r.t r.d P xs Z)(hd:r.d.length≤1000){ids:List Int}(hi:ids.length=xs.length):WW r ids=P++(ids.map Ui).flatten++Z:=by
 unfold WW;rw[(h.ok hd).2];exact h.splice (by rw[List.length_map,hi])
theorem ku{r:RR}(hs:wo r.t=none)(ids:List Int):WW r ids=r.d:=by
 unfold WW;rw[VO hs];cases ids<;>rfl
theorem ak:∀(ids:List Int),(ids.map Ui).flatten.length=4*ids.length
 | []=>rfl
 | i::l=>by rw[List.map_cons,List.flatten_cons,List.length_append,ak l,List.length_cons,Ui,Zy]; omega
theorem Qq:∀(a:Nat) (xs:List Bs),Wi ((Xo a xs).map fun p=>4-(p.n:Int))=4*(xs.length:Int)-(xs.flatten.length:Int)
 | _,[]=>rfl
 | a,x::xs=>by
  show Wi ((4-(x.length:Int))::(Xo (a+x.length) xs).map fun p=>4-(p.n:Int))=_;rw[V8,Qq,List.flatten_cons,List.length_append,List.length_cons]
  push_cast
  omega
theorem Jf{r:RR}(h:Zo r.t r.d=true){ids:List Int}(hi:ids.length=(prt r.t r.d).length):((WW r ids).length:Int)=vF r-2:=by
 unfold vF;cases hs:wo r.t with
 | none=>rw[ku hs,VO hs]; show(r.d.length:Int)=2+r.d.length+0-2; omega
 | some x=>
  have hd:=wY h;obtain⟨P,xs,Z,hf,_⟩:=KJ h hs;have hp:=(hf.ok hd).2;rw[hp,QT] at hi;rw[kC hf hd hi,hp,Qq,hf.eq];rw[List.length_append,List.length_append,List.length_append,List.length_append,ak,hi]
  push_cast
  omega
theorem nu{r:RR}(h:Zo r.t r.d=true):2≤vF r:=by
 have:=Jf h (ids:=List.replicate (prt r.t r.d).length 0) (by simp);omega
theorem jI:∀{l:List RR} {ids:List Int},(∀r∈l,Zo r.t r.d=true)→ids.length=((l.map Zw).flatten).length→((Uw l ids).length:Int)=Wi (l.map vF)
 | [],_,_,_=>rfl
 | r::l,ids,h,hi=>by
  rw[List.map_cons,List.flatten_cons,List.length_append,Zw,List.length_map] at hi;have hd:WW r ids=WW r (ids.take (prt r.t r.d).length):=by
   unfold WW;have key:∀(d:Bs) (l:List Pl) (a:Nat) (xs:List Bs),splice d a l xs=splice d a l (xs.take l.length):=by
    intro d l
    induction l with
    | nil=>intro a xs; cases xs<;>rfl
    | cons p l ih=>
     intro a xs;cases xs with
     | nil=>rfl
     | cons x xs=>
      show _=splice d a (p::l) (x::xs.take l.length);show(d.drop a).take (p.at_-a)++x++splice d (p.at_+p.n) l xs=(d.drop a).take (p.at_-a)++x++splice d (p.at_+p.n) l (xs.take l.length);rw[←ih]
   rw[key,List.map_take]
  have h1:=Jf (h r (by simp)) (ids:=ids.take (prt r.t r.d).length) (by rw[List.length_take]; omega);have ih:=jI (l:=l) (ids:=ids.drop (prt r.t r.d).length) (fun x hx=>h x (List.mem_cons_of_mem _ hx)) (by rw[List.length_drop]; omega);show((Uh 2 (WW r ids).length++WW r ids++Uw l (ids.drop (prt r.t r.d).length)).length:Int)=_;rw[List.length_append,List.length_append,Zy,List.map_cons,V8, ←ih];rw[←hd] at h1
  push_cast
  omega
theorem xP{s:St}{ids:List Int}(h:∀r∈s.rrs,Zo r.t r.d=true)(hi:ids.length=(Z8 s).length):((Wq s ids).length:Int)=Zm s:=by
 have h1:ids.length=((s.rrs.map Zw).flatten).length+2:=by rw[hi]; rfl
 have:=jI (l:=s.rrs) (ids:=ids.drop 2) h (by rw[List.length_drop]; omega);unfold Wq Zm Ui;simp only[List.length_append,Zy];rw[←this]
 push_cast
 omega
theorem Ww{s:St}(h:WV s=true):∀r∈s.rrs,Zo r.t r.d=true∧r.t=s.typ:=fun r hr=>by
 unfold WV at h;simp only[Bool.and_eq_true] at h;have:=List.all_eq_true.1 h.2 r hr;unfold Xv at this;simp only[Bool.and_eq_true,decide_eq_true_eq] at this;exact⟨this.2,this.1.1.2⟩
theorem VU{s:St}(h:WV s=true):WQ s.name=true∧WQ s.zone=true∧1≤s.typ∧s.typ≤65535∧0≤s.kind∧s.kind≤2∧s.rrs.length≤32∧(0<s.rrs.length↔s.kind=0):=by
 unfold WV at h;simp only[Bool.and_eq_true,decide_eq_true_eq,beq_iff_eq] at h;obtain⟨⟨⟨⟨⟨h1,h2⟩,h3⟩,h4⟩,h5⟩,_⟩:=h;exact⟨h1,h2,h3.1,h3.2.1,h3.2.2.1,h3.2.2.2,h4,decide_eq_decide.1 h5⟩
theorem iO{s:St}(h:WV s=true):WV (Zh s)=true∧Zm (Zh s)=Zm s:=by
 have hn:=VU h;have hd:=Ww h;constructor
 ·unfold WV Zh;simp only[Bool.and_eq_true,decide_eq_true_eq,beq_iff_eq,List.length_map];refine⟨⟨⟨⟨⟨by rw[VK]; exact hn.1,by rw[VK]; exact hn.2.1⟩,⟨hn.2.2.1,hn.2.2.2.1,hn.2.2.2.2.1,hn.2.2.2.2.2.1⟩⟩,hn.2.2.2.2.2.2.1⟩,decide_eq_decide.2 hn.2.2.2.2.2.2.2⟩,List.all_eq_true.2 fun r hr=>?_⟩;obtain⟨x,hx,rfl⟩:=List.mem_map.1 hr;obtain⟨h1,h2⟩:=hd x hx;unfold Xv YE;simp only[Bool.and_eq_true,decide_eq_true_eq,beq_self_eq_true,VK,hn.1,and_self,true_and];exact⟨⟨h2,trivial⟩,(yJ h1).1⟩
 ·unfold Zm Zh;simp only[List.map_map];congr 2;refine List.map_congr_left fun r hr=>?_
  obtain⟨h2,h3,h4⟩:=yJ (hd r hr).1;show vF ⟨zA s.name,r.t,1,0,wW r.t r.d⟩=vF r;unfold vF;simp only;rw[h3,h4]
theorem qE(Y:Bs)(j k:Nat):(⟨Y.toArray⟩:ByteArray).extract j k=⟨((Y.drop j).take (k-j)).toArray⟩:=by
 apply ByteArray.ext;rw[ByteArray.data_extract];apply Array.toList_inj.1;simp
theorem BD(Y Z:Bs):(⟨Y.toArray⟩:ByteArray)++(⟨Z.toArray⟩:ByteArray)=⟨(Y++Z).toArray⟩:=by
 apply ByteArray.ext;rw[ByteArray.data_append];simp
theorem Kq{E:Env}{x i:Operand}{Y:Bs}{j:Nat}{q:IntKind}(h1:ev E x=sv Y)(h2:ev E i= .int q (j:Int))(h:j≤Y.length):zm (ev E) (.sslc x (some i) none)=some (sv (Y.drop j)):=by
 rw[nQ (s:=⟨Y.toArray⟩) h1 h2 h,Qo,qE,List.take_of_length_le (by rw[List.length_drop]; omega)]
theorem rO{E:Env}{x i i':Operand}{Y:Bs}{j k:Nat}{q q':IntKind}(h1:ev E x=sv Y)(h2:ev E i= .int q (j:Int))(h2':ev E i'= .int q' (k:Int))(h:j≤k∧k≤Y.length):zm (ev E) (.sslc x (some i) (some i'))=some (sv ((Y.drop j).take (k-j))):=by
 rw[E8 (s:=⟨Y.toArray⟩) h1 h2 h2' h,qE]
theorem Ej{E:Env}{x y:Operand}{Y Z:Bs}(h1:ev E x=sv Y)(h2:ev E y=sv Z)(h:Y.length+Z.length≤9223372036854775807):zm (ev E) (.bin .add x y)=some (sv (Y++Z)):=by
 simp only[zm,h1,h2,WA,aS,Qo];rw[if_pos h,BD]
theorem JM{Y Z:Bs}:(⟨Y.toArray⟩:ByteArray)=⟨Z.toArray⟩↔Y=Z:=⟨fun h=>by have:=congrArg (fun b:ByteArray=>b.data.toList) h; simpa using this,fun h=>by rw[h]⟩
theorem JZ{E:Env}{S:zw}{t u s q:Tmp}{v v' v'' v3:Value}(hv:E t=v)(hv':E u=v')(hv'':E s=v'')(hv3:E q=v3):Xu Tryz.prog #[.tmp t,.tmp u,.tmp s,.tmp q] E S (.tuple #[v,v',v'',v3]):=fun fn F w tmps h _ he=>by
 rw[←hv, ←hv', ←hv'', ←hv3, ←he];simp[results,h,Sem.run_bind,Sem.run,Result.andThen,pure]
/-- append(b, s...) -/
theorem rz{r:Option Nat}{n:Nat}{K:Env→zw→Prop}{E:Env}{S G:zw}{d:Option Tmp}{e bytes:Nat}{z:List Value}{s x:Operand}{v:Value}{L Y:Bs}{H:List Chunk}[hp:Pick S H G](hs:ev E s=v)(hx:ev E x=sv Y)(hL:Zc e v L H)
 (hz:enc (0:UInt8)=z) (hb:(L.length+Y.length)*bytes≤140737488355328) (hl:L.length+Y.length≤9223372036854775807)
 (h:∀v' H',Zc e v' (L++Y) H'→K (Zi d v' E) (H'::G)):YO Tryz.prog r n d (.app e 1 bytes z s x) K E S:=by
 refine ru (α:=UInt8) hs hx hL (fun F w _=>⟨?_,?_⟩) rfl (0:UInt8) hz hb hl h
 ·show(pure (⟨Y.toArray⟩:ByteArray).size:Sem Nat).run Tryz.prog w=_;simp[pure,Qo]
 ·show(pure (((⟨Y.toArray⟩:ByteArray).extract 0 Y.length).data.map fun b=>Value.int .u8 b.toNat):Sem (Array Value)).run Tryz.prog w=_;rw[qE,List.drop_zero,Nat.sub_zero,List.take_length];have:(Y.toArray.map fun b=>Value.int .u8 b.toNat)=(cells Y).toArray:=by
   apply Array.toList_inj.1;rw[U2]; simp
  rw[this]; rfl
def nA(t:Int):Value:=match wo t with
 | some (a,k,b)=> .tuple #[.int .i64 (a:Int),.int .i64 (k:Int),.int .i64 (b:Int),.bool true]
 | none=> .tuple #[.int .i64 0,.int .i64 0,.int .i64 0,.bool false]
theorem Qx(t:Int):zP Tryz.prog 143 #[.int .i64 t] [] (fun r S=>r=nA t∧S=[]):=by
 refine zP.forget (zl Tryz.Gb (Nat.le_of_ble_eq_true rfl) ?_);unfold Tryz.CK;unfold nA wo;refine ze (z8 (yp pC (yp pC (yp pC (yp pC (zf (za (ze (ze (z8 (yp (pI rfl) (zf (za (zy (ze (ze (z8 (yp (WT rfl rfl) (yp (pB rfl) (zf (za ?_)))))))))))))))))))));by_cases h1:t=2
 ·rw[decide_eq_true h1,if_pos (.inl h1)];refine zF rfl (zq (za (zF rfl (ze (z8 (yp pC (yp pC (yp pC (yp pC (zf (za (zH (bret (zX ?_))))))))))))));exact zG (JZ rfl rfl rfl rfl) ⟨_,.of,rfl,rfl⟩
 rw[decide_eq_false h1];refine zx rfl (ze (z8 (yp (WT rfl rfl) (yp (pB rfl) (zf (za ?_))))));by_cases h2:t=5
 ·rw[decide_eq_true h2,if_pos (.inr (.inl h2))];refine zF rfl (zq (za (zF rfl (ze (z8 (yp pC (yp pC (yp pC (yp pC (zf (za (zH (bret (zX ?_))))))))))))));exact zG (JZ rfl rfl rfl rfl) ⟨_,.of,rfl,rfl⟩
 rw[decide_eq_false h2];refine zx rfl (z8 (yp (WT rfl rfl) (yp (pB rfl) (zf (za ?_)))));by_cases h3:t=12
 ·rw[decide_eq_true h3,if_pos (.inr (.inr h3))];refine zF rfl (ze (z8 (yp pC (yp pC (yp pC (yp pC (zf (za (zH (bret (zX ?_)))))))))));exact zG (JZ rfl rfl rfl rfl) ⟨_,.of,rfl,rfl⟩
 rw[decide_eq_false h3,if_neg (show ¬(t=2∨t=5∨t=12) from by omega)];refine zx rfl (ze (z8 (yp (WT rfl rfl) (yp (pB rfl) (zf (za ?_))))));by_cases h4:t=15
 ·rw[decide_eq_true h4,if_pos h4];refine zF rfl (ze (z8 (yp pC (yp pC (yp pC (yp pC (zf (za (zH (bret (zX ?_)))))))))));exact zG (JZ rfl rfl rfl rfl) ⟨_,.of,rfl,rfl⟩
 rw[decide_eq_false h4,if_neg h4];refine zx rfl (ze (z8 (yp (WT rfl rfl) (yp (pB rfl) (zf (za ?_))))));by_cases h5:t=33
 ·rw[decide_eq_true h5,if_pos h5];refine zF rfl (ze (z8 (yp pC (yp pC (yp pC (yp pC (zf (za (zH (bret (zX ?_)))))))))));exact zG (JZ rfl rfl rfl rfl) ⟨_,.of,rfl,rfl⟩
 rw[decide_eq_false h5,if_neg h5];refine zx rfl (ze (z8 (yp (WT rfl rfl) (yp (pB rfl) (zf (za ?_))))));by_cases h6:t=6
 ·rw[decide_eq_true h6,if_pos h6];refine zF rfl (ze (z8 (yp pC (yp pC (yp pC (yp pC (zf (za (zH (bret (zX ?_)))))))))));exact zG (JZ rfl rfl rfl rfl) ⟨_,.of,rfl,rfl⟩
 rw[decide_eq_false h6,if_neg h6];refine zx rfl (zq (zT (za (ze (z8 (yp pC (yp pC (yp pC (yp pC (zf (za (zH ?_))))))))))));exact zG (JZ rfl rfl rfl rfl) ⟨_,.of,rfl,rfl⟩
theorem jJ(t:Int)(d:Bs)(hd:d.length<2 ^ 40):zP Tryz.prog 97 #[.int .i64 t,sv d] [] (fun r S=>∃v L H,r= .tuple #[v,.bool (X4 t d).isSome]∧Zc 157 v (L:List Pl) H∧(∀l,X4 t d=some l→L=l)∧S=[H]):=by
 refine zP.forget (zl Tryz.Lf (Nat.le_of_ble_eq_true rfl) ?_);unfold Tryz.MB;refine ze (z8 (yp pC (yp pC (zf (za (ze (z8 (yp (pI rfl) ?_))))))));refine zh (zk (Qx t) rfl rfl fun r S' h=>?_);obtain⟨rfl,rfl⟩:=h;have hno:∀{v:Value},(X4 t d)=none→v= .tuple #[.slice none 0 0,.bool false]→∀S,∃S'',zD S S''∧∃w L H,v= .tuple #[w,.bool (X4 t d).isSome]∧Zc 157 w (L:List Pl) H∧(∀l,X4 t d=some l→L=l)∧S''=[H]:=fun h hv S=>⟨[[]],⟨S.flatten,by simp⟩,_,[],[],by rw[h]; exact hv,.nil,fun l hl=>by(rw[h] at hl; cases hl),rfl⟩
 unfold nA;cases hs:wo t with
 | none=>
  have hp:X4 t d=some []:=by unfold X4; rw[hs]
  simp only;refine yp (pU rfl) (yp (pExt rfl rfl) (yp (pExt rfl rfl) (yp (pExt rfl rfl) (yp (pExt rfl rfl) (yp (pI rfl) (yp (pI rfl) (yp (pI rfl) (yp (pB rfl) (zf (za (ze (ze (z8 (yp (pB rfl) (yp (Zd rfl) (zf (za (zF rfl (ze (z8 (yp pC (yp pC (zf (za (zH (zX ?_))))))))))))))))))))))))));exact zG (Ab rfl rfl) ⟨[[]],⟨[],by simp⟩,_,[],[],by rw[hp]; rfl,.nil,fun l hl=>by rw[hp] at hl; exact Option.some.inj hl,rfl⟩
 | some x=>
  obtain⟨a,k,b⟩:=x;have hp:X4 t d=if d.length<a then none else match Yf d k a with
   | some (l,e)=>if d.length=e+b then some l else none
   | none=>none:=by unfold X4; rw[hs]; try rfl
  have hab:a≤6∧k≤2∧b≤20:=xZ hs;simp only;refine yp (pU rfl) (yp (pExt rfl rfl) (yp (pExt rfl rfl) (yp (pExt rfl rfl) (yp (pExt rfl rfl) (yp (pI rfl) (yp (pI rfl) (yp (pI rfl) (yp (pB rfl) (zf (za (ze (ze (z8 (yp (pB rfl) (yp (Zd rfl) (zf (za (zx rfl (zq (za (ze (ze (z8 (yp (pT rfl) (yp (uX rfl) (yp (pI rfl) (yp (ZP rfl rfl) (zf (za ?_)))))))))))))))))))))))))))));rw[Qo];by_cases h1:d.length<a
  ·rw[decide_eq_true (show(d.length:Int)<(a:Int) from by omega)];rw[if_pos h1] at hp;refine zF rfl (ze (z8 (yp pC (yp pC (zf (za (zH (zX ?_))))))));exact zG (Ab rfl rfl) (hno hp rfl _)
  rw[decide_eq_false (show ¬(d.length:Int)<(a:Int) from by omega)];rw[if_neg h1] at hp;refine zx rfl (zq (za (ze (z8 (yp (pI rfl) (yp (pI rfl) (zf (za (ze (ze (z8 (yp (pI rfl) (yp pC (zf (za (zy ?_))))))))))))))));refine Zb (σ:=Nat) (fun i E S=>∃(v:Value) (L:List Pl) (H:List Chunk) (e:Nat),Has E [(1,sv d),(8,.int .i64 (b:Int)),(10,.int .i64 (e:Int)),(27,.int .i64 (k:Int)),(28,.int .i64 (i:Int))]∧E 4=v∧Zc 157 v L H∧L.length=i∧i≤k∧e≤d.length∧Yf d k a=(Yf d (k-i) e).map (fun x=>(L++x.1,x.2))∧zD S [H]) (fun i=>k-i) 0
   ⟨_,[],[],a,⟨rfl,rfl,rfl,rfl,rfl,trivial⟩,rfl,.nil,rfl,Nat.zero_le _,by omega,by cases Yf d (k-0) a<;>rfl,⟨[],by simp⟩⟩ fun i E S ⟨v,L,H,e,hE,hE4,hL,hLl,hi,he,hx,hJ⟩=>?_
  obtain⟨la,lc,rfl⟩:=hL.isSlice;have hE2:Has E [(1,sv d),(4,.slice la L.length lc),(8,.int .i64 (b:Int)),(10,.int .i64 (e:Int)),(27,.int .i64 (k:Int)),(28,.int .i64 (i:Int))]:=⟨hE.1,hE4,hE.2⟩
  clear hE hE4;obtain⟨E0,e0⟩:=zu hE2; subst e0; clear hE2;refine zo hJ (ze (z8 (yp (ZP rfl rfl) (zf (za (ze ?_))))));refine zR rfl (fun h2=>?_) (fun h2=>?_)
  ·obtain⟨m,hm⟩:∃m,k-i=m+1:=⟨k-i-1,by omega⟩
   rw[hm,Yf] at hx;refine zq (za (ze (zy (ze (z8 (yp (pT rfl) (yp (pI rfl) (yp (Kq (Y:=d) rfl rfl he) ?_))))))))
   skip
   refine zh (zk (gU (d.drop e) (by rw[List.length_drop]; omega)) rfl rfl fun r S' h=>?_);obtain⟨rfl,rfl⟩:=h;cases hb:(lead (d.drop e)).2 with
   | false=>
    rw[hb,if_neg (by decide)] at hx;rw[hx] at hp;refine yp (pU rfl) (yp (pExt rfl rfl) (yp (pExt rfl rfl) (yp (pI rfl) (yp (pB rfl) (zf (za (ze (ze (z8 (yp (pB rfl) (yp (Zd rfl) (zf (za (zF rfl (ze (z8 (yp pC (yp pC (zf (za (zH (zX (bret (zX (zX (bret (zX ?_)))))))))))))))))))))))))));exact zG (Ab rfl rfl) (hno hp rfl _)
   | true=>
    rw[hb,if_pos rfl] at hx;have hl:=vI (show lead (d.drop e)=((lead (d.drop e)).1,true) from by rw[←hb]);rw[List.length_drop] at hl;generalize (lead (d.drop e)).1=n at hx hl;refine yp (pU rfl) (yp (pExt rfl rfl) (yp (pExt rfl rfl) (yp (pI rfl) (yp (pB rfl) (zf (za (ze (ze (z8 (yp (pB rfl) (yp (Zd rfl) (zf (za (zx rfl (zq (za (ze (z8 (yp (pS rfl) (yp (pI rfl) (yp (pI rfl) (yp (WG (u7 rfl) (u7 rfl)) ?_))))))))))))))))))))));refine zh (Vf (⟨e,n⟩:Pl) rfl rfl (by decide) (by decide) rfl fun p43=>?_);refine zh (uQ (Y:=[(⟨e,n⟩:Pl)]) rfl rfl hL (.lit (by repeat (first | exact List.mem_cons_self | apply List.mem_cons_of_mem)) rfl) rfl (⟨0,0⟩:Pl) rfl (by simp; omega) (by simp; omega) fun v2 H2 hL2=>?_);obtain⟨la2,lc2,rfl⟩:=hL2.isSlice;refine yp (pS rfl) (zf (za (z8 (yp (pI rfl) (yp (pI rfl) (yp (Zt rfl rfl (by omega)) (yp (pI rfl) (zf (zT (za (z8 (yp (Zj rfl rfl (by omega)) (yp (pI rfl) (zf (za ?_)))))))))))))));refine⟨i+1,⟨.slice la2 (L++[(⟨e,n⟩:Pl)]).length lc2,L++[⟨e,n⟩],H2,e+n,⟨rfl,rfl,rfl,rfl,rfl,trivial⟩,rfl,hL2,by simp[hLl],by omega,by omega,?_,.of⟩,by omega⟩;rw[hx,Option.map_map,show k-(i+1)=m from by omega];congr 1;funext x;simp
  ·obtain rfl:i=k:=by omega
   rw[Nat.sub_self,Yf] at hx;rw[hx] at hp;simp only[Option.map_some,List.append_nil] at hp;refine Z0 (zI (zI (Z5 (za (ze (z8 (yp (pS rfl) (yp (pT rfl) (yp (uX rfl) (yp (pI rfl) ?_))))))))));rw[Qo];refine yp (ZG rfl rfl (by omega)) (yp (pI rfl) (yp (WT rfl rfl) (yp (pS rfl) (yp (pB rfl) (zf (za (zH ?_)))))));by_cases h3:d.length=e+b
   ·rw[if_pos h3] at hp;rw[decide_eq_true (show(d.length:Int)-(e:Int)=(b:Int) from by omega)];exact zG (Ab rfl rfl) ⟨_,.of,_,L,H,by rw[hp]; rfl,hL,fun l hl=>by rw[hp] at hl; exact Option.some.inj hl,rfl⟩
   ·rw[if_neg h3] at hp;rw[decide_eq_false (show ¬(d.length:Int)-(e:Int)=(b:Int) from by omega)];exact zG (Ab rfl rfl) ⟨_,.of,_,L,H,by rw[hp]; rfl,hL,fun l hl=>by(rw[hp] at hl; cases hl),rfl⟩
theorem eu{f:Nat}{d:Bs}{a:Nat}{b:UInt8}(h:d[a]?=some b):mR (f+1) d a=mR f d (a+1+b.toNat):=by rw[mR,h]
theorem Qn{f:Nat}{d:Bs}{a:Nat}(h:d.length≤a):mR (f+1) d a=(a==d.length):=by rw[mR,List.getElem?_eq_none h]
theorem Ns(Y:Bs):decide ((⟨Y.toArray⟩:ByteArray)=⟨#[]⟩)=decide (Y=[]):=by
 refine decide_eq_decide.2 ?_;exact JM (Z:=[])
theorem nL(d:Bs)(hd:d.length<2 ^ 40):zP Tryz.prog 142 #[sv d] [] (fun r S=>r= .bool (txt d)∧S=[]):=by
 refine zP.forget (zl Tryz.Gc (Nat.le_of_ble_eq_true rfl) ?_);unfold Tryz.CO;refine ze (z8 (yp pC (zf (za (ze (ze (z8 (yp (pT rfl) (yp (Eh rfl rfl) (zf (za ?_)))))))))));rw[Ns];by_cases h0:d=[]
 ·rw[decide_eq_true h0];subst h0;refine zF rfl (ze (z8 (yp pC (zf (za (zH (zX ?_)))))));exact zG (rB rfl) ⟨_,.of,rfl,rfl⟩
 rw[decide_eq_false h0];have ht:txt d=mR (d.length+1) d 0:=by unfold txt; rw[show(d !=[])=true from by simpa using h0]; rfl
 refine zx rfl (zq (za (ze (zy ?_))));refine Zb (σ:=Nat) (fun a E S=>Has E [(0,sv (d.drop a))]∧a≤d.length∧(∃f,txt d=mR f d a∧d.length+1≤f+a)∧zD S []) (fun a=>d.length-a) 0 ⟨⟨rfl,trivial⟩,Nat.zero_le _,⟨_,ht,Nat.le_refl _⟩,.of⟩ fun a E S ⟨hE,ha,⟨f,hf,hfl⟩,hJ⟩=>?_
 obtain⟨f,rfl⟩:∃g,f=g+1:=⟨f-1,by omega⟩
 obtain⟨E0,e0⟩:=zu hE; subst e0; clear hE;refine zo hJ ?_;have hdl:(d.drop a).length=d.length-a:=List.length_drop;refine ze (ze (z8 (yp (pT rfl) (yp (L9 rfl rfl) (zf (za ?_))))));rw[Ns];by_cases h1:a<d.length
 ·have hy:d[a]?=some d[a]:=List.getElem?_eq_getElem h1;have hy0:(d.drop a)[0]?=some d[a]:=by rw[List.getElem?_drop]; exact hy
  generalize d[a]=b at hy hy0;have hb:=b.toNat_lt;rw[decide_eq_false (show ¬d.drop a=[] from fun h=>by rw[h] at hdl; simp at hdl; omega)];rw[eu hy] at hf;refine zF rfl (zq (za (zy (ze (z8 (yp (pT rfl) (yp (bC (k:=0) rfl rfl hy0) (yp (jO rfl) (yp (Vq rfl rfl (by omega)) (yp (pI rfl) (zf (za (ze (ze (z8 (yp (pI rfl) (yp (pT rfl) (yp (uX rfl) (yp (uf rfl rfl) (zf (za ?_)))))))))))))))))))));rw[Qo];by_cases h2:a+1+b.toNat≤d.length
  ·rw[decide_eq_false (show ¬((d.drop a).length:Int)<1+(b.toNat:Int) from by omega)];refine zx rfl (zq (za (z8 (yp (pT rfl) (yp (pI rfl) (yp (Kq (Y:=d.drop a) (j:=1+b.toNat) rfl rfl (by omega)) ?_))))));rw[List.drop_drop,show a+(1+b.toNat)=a+1+b.toNat from by omega];refine yp (pT rfl) (zf (zT (za ?_)));exact⟨a+1+b.toNat,⟨⟨rfl,trivial⟩,h2,⟨f,hf,by omega⟩,.of⟩,by omega⟩
  ·rw[decide_eq_true (show((d.drop a).length:Int)<1+(b.toNat:Int) from by omega)];obtain⟨f,rfl⟩:∃g,f=g+1:=⟨f-1,by omega⟩
   rw[Qn (by omega)] at hf;refine zF rfl (ze (z8 (yp pC (zf (za (zH (zX (bret (zX (bret (zX ?_)))))))))));exact zG (rB rfl) ⟨_,.of,by rw[hf,beq_eq_false_iff_ne.2 (by omega)],rfl⟩
 ·have hda:d.drop a=[]:=List.drop_eq_nil_of_le (by omega);rw[decide_eq_true hda];rw[Qn (by omega)] at hf;refine zx rfl (Z0 (zI (zI (Z5 (za (ze (z8 (yp pC (zf (za (zH ?_)))))))))));exact zG (rB rfl) ⟨_,.of,by rw[hf,beq_iff_eq.2 (by omega)],rfl⟩
theorem Hg(n:Nat):decide ((n:Int)=4)=(n==4):=by
 by_cases h:n=4
 ·rw[decide_eq_true (by omega),beq_iff_eq.2 h]
 ·rw[decide_eq_false (by omega),beq_eq_false_iff_ne.2 h]
theorem Bu(n:Nat):decide ((n:Int)=16)=(n==16):=by
 by_cases h:n=16
 ·rw[decide_eq_true (by omega),beq_iff_eq.2 h]
 ·rw[decide_eq_false (by omega),beq_eq_false_iff_ne.2 h]
theorem q9(t:Int)(d:Bs)(hd:d.length<2 ^ 40):zP Tryz.prog 95 #[.int .i64 t,sv d] [] (fun r S=>r= .bool (Zo t d)∧S=[]):=by
 refine zP.forget (zl Tryz.Lh (Nat.le_of_ble_eq_true rfl) ?_);unfold Tryz.x95;refine ze (z8 (yp pC (zf (za (ze (z8 (yp (pI rfl) (yp (pT rfl) ?_))))))));refine zh (zk (jJ t d hd) rfl rfl fun r S' h=>?_);obtain⟨v,L,H,rfl,hL,_,rfl⟩:=h;obtain⟨la,lc,rfl⟩:=hL.isSlice;unfold Zo;refine yp (pU rfl) (yp (pExt rfl rfl) (yp (pExt rfl rfl) (yp (pS rfl) (yp (pB rfl) (zf (za (ze (zy (ze (z8 (yp (pT rfl) (yp (uX rfl) (yp (uf rfl rfl) (yp (pB rfl) (zf (za ?_))))))))))))))));rw[Qo];by_cases h1:1000<d.length
 ·rw[decide_eq_true (show(1000:Int)<(d.length:Int) from by omega),if_pos h1];refine zF rfl (ze (z8 (yp pC (zf (za (zH (bret (zX ?_))))))));exact zG (rB rfl) ⟨[],⟨H,by simp⟩,rfl,rfl⟩
 rw[decide_eq_false (show ¬(1000:Int)<(d.length:Int) from by omega),if_neg h1];refine zx rfl (ze (z8 (yp (pI rfl) (yp (WT rfl rfl) (yp (pB rfl) (zf (za ?_)))))));by_cases h2:t=1
 ·rw[decide_eq_true h2,if_pos h2];refine zF rfl (ze (z8 (yp (pT rfl) (yp (uX rfl) (yp (WT rfl rfl) (yp (pB rfl) (zf (za (zH (bret (zX ?_)))))))))));rw[Qo]
  skip
  exact zG (rB rfl) ⟨[],⟨H,by simp⟩,by rw[Hg],rfl⟩
 rw[decide_eq_false h2,if_neg h2];refine zx rfl (ze (z8 (yp (pI rfl) (yp (WT rfl rfl) (yp (pB rfl) (zf (za ?_)))))));by_cases h3:t=28
 ·rw[decide_eq_true h3,if_pos h3];refine zF rfl (ze (z8 (yp (pT rfl) (yp (uX rfl) (yp (WT rfl rfl) (yp (pB rfl) (zf (za (zH (bret (zX ?_)))))))))));rw[Qo]
  skip
  exact zG (rB rfl) ⟨[],⟨H,by simp⟩,by rw[Bu],rfl⟩
 rw[decide_eq_false h3,if_neg h3];refine zx rfl (ze (z8 (yp (pI rfl) (yp (WT rfl rfl) (yp (pB rfl) (zf (za ?_)))))));by_cases h4:t=16
 ·rw[decide_eq_true h4,if_pos h4];refine zF rfl (ze (z8 (yp (pT rfl) ?_)));refine zh (zk (nL d hd) rfl rfl fun r S' h=>?_);obtain⟨rfl,rfl⟩:=h;refine yp (pB rfl) (zf (za (zH (bret (zX ?_)))));exact zG (rB rfl) ⟨[],⟨H,by simp⟩,rfl,rfl⟩
 rw[decide_eq_false h4,if_neg h4];refine zx rfl (zq (zT (za (ze (z8 (yp (pB rfl) (yp (pB rfl) (zf (za (zH ?_))))))))));exact zG (rB rfl) ⟨[],⟨H,by simp⟩,rfl,rfl⟩
/-! ### the walk over the names in data -/
def pv(p:Pl):Array Value:= #[.int .i64 (p.at_:Int),.int .i64 (p.n:Int)]
abbrev ql(bt bd:Nat)(t:Int)(d:Bs):zw:=[[(bt,.cells #[.int .i64 t] 3)],[(bd,.cells #[sv d] 9)]]
theorem Kh(t:Int)(d:Bs):zP Tryz.prog 51 #[.int .i64 t,sv d] [] (fun r S=>∃bt bd,r= .func (.func 96) #[] #[.pointer (some ⟨bt,0,none⟩),.pointer (some ⟨bd,0,none⟩)]∧S=ql bt bd t d):=by
 refine zP.forget (zl Tryz.M4 (Nat.le_of_ble_eq_true rfl) ?_);unfold Tryz.Na;refine ze (z8 ?_);refine zh (dM (u7 rfl) fun p2=>?_);refine zh (dM (dA rfl) fun p3=>?_);refine yp pC (zf (za (ze (z8 (yp (Ef (j5 rfl) (j5 rfl)) (yp (pF rfl) (zf (za (zH ?_)))))))));exact zG (rF rfl) ⟨ql p2 p3 t d,⟨[],by simp; exact List.Perm.swap _ _ _⟩,p2,p3,rfl,rfl⟩
theorem og{bt bd:Nat}{t:Int}{d:Bs}{S0:zw}(hd:d.length<2 ^ 40):
 Yc Tryz.prog 96 #[] #[.pointer (some ⟨bt,0,none⟩),.pointer (some ⟨bd,0,none⟩)] (ql bt bd t d) S0
  (fun pre x=>pre++[x]<+:(prt t d).map pv) (fun xs=>xs=(prt t d).map pv):=by
 intro l c J Jx hJ0 hround;have e0:(#[]++ #[.func (.yield l) #[] #[]]++ #[.pointer (some ⟨bt,0,none⟩),.pointer (some ⟨bd,0,none⟩)]:Array Value)= #[.func (.yield l) #[] #[],.pointer (some ⟨bt,0,none⟩),.pointer (some ⟨bd,0,none⟩)]:=rfl;rw[e0];refine zP.forget (zl Tryz.Lg (Nat.le_of_ble_eq_true rfl) ?_);unfold Tryz.x96;refine ze (ze (z8 ?_));refine zh (zB rfl rfl ?_);refine zh (zB rfl rfl ?_);refine zh (zk (q9 t d hd) rfl rfl fun r S' h=>?_);obtain⟨rfl,rfl⟩:=h;cases hok:Zo t d with
 | false=>
  have hp:prt t d=[]:=by unfold prt; rw[if_neg (by rw[hok]; decide)]
  refine yp (Zd rfl) (zf (za (zF rfl (zH (zX ?_)))));exact zG w9 ⟨[c]::S0,⟨(ql bt bd t d).flatten,by simp; exact List.perm_append_comm (l₁:=[_,_])⟩,.inl ⟨[],by rw[hp]; rfl,hJ0⟩⟩
 | true=>
  have hsome:∃l,X4 t d=some l:=by
   have h0:=hok;unfold Zo at h0;cases hs:wo t with
   | none=>exact⟨[],by unfold X4; rw[hs]⟩
   | some x=>
    have hk:=jD hs;split at h0
    ·cases h0
    ·rw[if_neg hk.1,if_neg hk.2.1,if_neg hk.2.2] at h0;exact Option.isSome_iff_exists.1 h0
  obtain⟨L0,hp0⟩:=hsome;have hp:prt t d=L0:=by unfold prt; rw[if_pos hok,hp0]; rfl
  refine yp (Zd rfl) (zf (za (zx rfl (zq (za (ze (z8 ?_)))))));refine zh (zB rfl rfl ?_);refine zh (zB rfl rfl ?_);refine zh (zk (jJ t d hd) rfl rfl fun r S' h=>?_);obtain⟨v,L,H,rfl,hL,hLe,rfl⟩:=h;obtain rfl:=hLe L0 hp0;have hL2:=Ki hp0;obtain⟨la,lc,rfl⟩:=hL.isSlice;rw[hp];refine yp (pU rfl) (yp (pExt rfl rfl) (yp (pExt rfl rfl) (yp (pS rfl) (yp (pB rfl) (zf (za (ze (z8 (yp (pS rfl) (yp (ZM rfl) (yp pC (zf (za (zy ?_))))))))))))));refine Zb (σ:=Nat) (fun i E S=>Has E [(0,.func (.yield l) #[] #[]),(18,.slice la L.length lc),(19,.int .i64 (L.length:Int)),(20,.int .i64 i)]∧i≤L.length∧∃T',J ((L.take i).map pv) T'∧zD S (H::T')) (fun i=>L.length-i) 0
   ⟨⟨rfl,rfl,rfl,rfl,trivial⟩,Nat.zero_le _,[c]::S0,hJ0,⟨(ql bt bd t d).flatten,?_⟩⟩ fun i E S ⟨hE,hi,T',hJ,hk⟩=>?_
  ·simp;exact List.Perm.append_left H ((List.perm_append_comm (l₁:=[_,_])).cons _)
  obtain⟨E0,e0⟩:=zu hE; subst e0; clear hE;refine zo hk (ze (z8 (yp (ZP rfl rfl) (zf (za (ze ?_))))));refine zR rfl (fun h=>?_) (fun h=>?_)
  ·have hlt:i<L.length:=by omega
   obtain⟨bb2,sp,fz,hz,rfl,hm,hc,rfl⟩:=hL.at' (by intro h; simp[h] at hlt);refine zq (za (ze (zy (ze (z8 (yp (zV rfl rfl (by omega)) ?_))))));refine zh (wC (l:=enc L[i]) rfl (vH hlt rfl) rfl ?_);refine zh (Z6 fun p7=>?_);refine zh (vQ (c':=[.int .i64 (L[i].at_:Int),.int .i64 (L[i].n:Int)]) rfl rfl rfl rfl rfl ?_);refine zf (za (ze (z8 (yp (pF rfl) (yp (zn rfl) ?_)))));refine zh (zB rfl rfl ?_);refine yp (zn rfl) ?_;refine zh (zB rfl rfl ?_);have ht:L.take (i+1)=L.take i++[L[i]]:=List.take_succ_eq_append_getElem hlt;have hV:(L.take i).map pv++[pv L[i]]<+:L.map pv:=by
    rw[show(L.take i).map pv++[pv L[i]]=(L.take (i+1)).map pv from by rw[ht,List.map_append]; rfl];exact(List.take_prefix _ _).map _
   refine zh (XB (hround _ (pv L[i]) T' (by rw[hp]; exact hV) hJ) rfl rfl fun bl T2 h=>?_);rcases h with⟨rfl,hJ'⟩ | ⟨rfl,hJx⟩
   ·refine yp (Zd rfl) (zf (za (zx rfl (zq (zT (za (z8 (yp (Zj rfl rfl (by omega)) (yp (pI rfl) (zf (za ?_)))))))))));refine⟨i+1,⟨⟨rfl,rfl,rfl,rfl,trivial⟩,by omega,T2,?_,.of⟩,by omega⟩;rw[ht,List.map_append]; exact hJ'
   ·refine yp (Zd rfl) (zf (za (zF rfl (zH (bret (zX (zX (bret ?_))))))));exact zG w9 ⟨T2,.of,.inr ⟨_,hJx⟩⟩
  ·refine Z0 (zI (zI (Z5 ?_)));refine ZW w9 ⟨T',.of,.inl ⟨_,?_,hJ⟩⟩;rw[List.take_of_length_le (by omega)]
theorem kQ{n:Nat}{Q:Exit→Env→zw→Prop}{E:Env}{g:Operand}{p q:Tmp}{xa xb:zC}{bt bd:Nat}{t:Int}{d:Bs}{S S0 G0:zw}[hsub:Sub S0 (ql bt bd t d++S) G0](J:Nat→zw→Prop)
 (hg:ev E g= .func (.func 96) #[] #[.pointer (some ⟨bt,0,none⟩),.pointer (some ⟨bd,0,none⟩)]) (hps:[p,q].all (fun t=>Nat.blt t n)=true) (hd:d.length<2 ^ 40) (hJ0:J 0 S)
 (hround:∀(l k:Nat) (x:Pl) (T:zw),(prt t d)[k]?=some x→J k T→Y Tryz.prog (some l) n xa (VL (fun E1 S1=>Y Tryz.prog (some l) n xb (Ke (fun _ S'=>J (k+1) S') (fun _ _ _=>False) []) E1 S1) (fun _ _ _=>False)) (x8 [p,q] [.int .i64 (x.at_:Int),.int .i64 (x.n:Int)] E) T)
 (hdone:∀S',J (prt t d).length S'→Q .normal E S'):Y Tryz.prog none n (.range g [p,q] xa xb) Q E S0:=by
 refine XU (S:=S) (own:=ql bt bd t d) (G0:=G0) (fun pre T=>pre<+:(prt t d).map pv∧J pre.length T) (fun _ _ _=>False) hg hps (og (bt:=bt) (bd:=bd) (S0:=S) hd) ⟨List.nil_prefix,hJ0⟩ ?_ ?_ ?_ ?_
 ·intro pre x hx;have:x∈(prt t d).map pv:=hx.subset (by simp);obtain⟨e,_,rfl⟩:=List.mem_map.1 this;rfl
 ·rintro l pre x T hx ⟨_,hJ⟩;have hxl:((prt t d).map pv)[pre.length]?=some x:=by
   obtain⟨u,hu⟩:=hx;rw[←hu,List.append_assoc,List.getElem?_append_right (Nat.le_refl _),Nat.sub_self]; rfl
  rw[List.getElem?_map] at hxl;cases he:(prt t d)[pre.length]? with
  | none=>rw[he] at hxl; cases hxl
  | some e=>
   rw[he] at hxl;obtain rfl:=(Option.some.inj hxl).symm;have h:=hround l pre.length e T he hJ;have hx2:pre++[pv e]<+:(prt t d).map pv:=hx;refine Y.mono h ?_;rintro ex E1 S1 h1;cases ex with
   | normal=>
    refine Y.mono h1 ?_;rintro ex2 E2 S2 h2;cases ex2 with
    | normal=>exact⟨hx2,by rw[List.length_append]; exact h2⟩
    | _=>exact h2
   | _=>exact h1
 ·rintro xs S' hx ⟨_,hJ⟩;rw[hx,List.length_map] at hJ;exact hdone S' hJ
 ·rintro e pre S' _ h;exact h.elim
end Go.Proofs.YtekgciopamkjlaaGreat
