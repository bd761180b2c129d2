/- Records (chapter 3), plainly: where names stand in data, and what data may be. Names added and dropped, one behind the other: how often each is used, and what they cost. Sets (chapter 8), plainly: what may be, its names, its size, its block's bytes. Names that live: each is used as often as numbers of it are held; arenas that are alike. A set's block (chapter 8), plainly: data with names in other letters, or with numbers in their places. Parts of strings, strings put together, as lists of bytes. Records (chapter 3): what data may be, and its names. A range over the names in data. -/
import Derived.Test.YtekgciopamkjlaaGreatN1
import Derived.Test.YtekgciopamkjlaaGreatI1
import Derived.Test.YtekgciopamkjlaaGreatFPack
namespace Go.Proofs.YtekgciopamkjlaaGreat
open Go.Xs
open Enc (enc)
/-! ### what a text begins with -/
theorem Xc:∀(f:Nat) (Y:Bs) (a n:Nat),Ua f Y a=(n,true)→a<n∧n≤Y.length
 | 0,_,_,_,h=>by simp[Ua] at h
 | f+1,Y,a,n,h=>by
  unfold Ua at h;cases hy:Y[a]? with
  | none=>rw[hy] at h; simp at h
  | some b=>
   have hlt:=(List.getElem?_eq_some_iff.1 hy).1;rw[hy] at h;simp only at h;split at h
   ·simp at h
   ·split at h
    ·obtain rfl:a+1=n:=(Prod.mk.inj h).1;omega
    ·split at h
     ·simp at h
     ·have:=Xc f Y _ n h;omega
theorem Qr:∀(f:Nat) (Y:Bs) (a n m:Nat),Ua f Y a=(n,true)→n≤m→Ua f (Y.take m) a=(n,true)
 | 0,_,_,_,_,h,_=>by simp[Ua] at h
 | f+1,Y,a,n,m,h,hm=>by
  have hb:=Xc (f+1) Y a n h;have hg:(Y.take m)[a]?=Y[a]?:=List.getElem?_take_of_lt (by omega);unfold Ua at h ⊢;rw[hg];cases hy:Y[a]? with
  | none=>rw[hy] at h; simp at h
  | some b=>
   rw[hy] at h;simp only at h ⊢;split at h
   ·simp at h
   ·next h0=>
    rw[if_neg h0];split at h
    ·next h1=>rw[if_pos h1]; exact h
    ·next h1=>
     rw[if_neg h1];split at h
     ·simp at h
     ·next h2=>rw[if_neg h2]; exact Qr f Y _ n m h hm
theorem kL:∀(f:Nat) (Y:Bs) (a n m:Nat),Ua f (Y.take m) a=(n,true)→Ua f Y a=(n,true)
 | 0,_,_,_,_,h=>by simp[Ua] at h
 | f+1,Y,a,n,m,h=>by
  have hb:=Xc (f+1) _ a n h;have hg:(Y.take m)[a]?=Y[a]?:=List.getElem?_take_of_lt (by have:=List.length_take_le m Y; omega);unfold Ua at h ⊢;rw[hg] at h;cases hy:Y[a]? with
  | none=>rw[hy] at h; simp at h
  | some b=>
   rw[hy] at h;simp only at h ⊢;split at h
   ·simp at h
   ·next h0=>
    rw[if_neg h0];split at h
    ·next h1=>rw[if_pos h1]; exact h
    ·next h1=>
     rw[if_neg h1];split at h
     ·simp at h
     ·next h2=>rw[if_neg h2]; exact kL f Y _ n m h
/-- a text begins with a name of n bytes: its first n bytes are one -/
theorem UL{Y:Bs}{n:Nat}:lead Y=(n,true)↔n≤Y.length∧wm (Y.take n)=true:=by
 unfold wm lead;constructor
 ·intro h;have hb:=Xc _ _ _ _ h;rw[Qr _ _ _ _ n h (Nat.le_refl _),List.length_take,Nat.min_eq_left hb.2];exact⟨hb.2,by simp⟩
 ·rintro⟨h1,h2⟩;rw[Bool.and_eq_true] at h2;have hlen:(Y.take n).length=n:=by rw[List.length_take]; omega
  have h3:(Ua 256 (Y.take n) 0).1=n:=by have:=h2.2; rw[hlen] at this; simpa using this
  exact kL 256 Y 0 n n (Prod.ext h3 h2.1)
theorem WC{Y:Bs}{n:Nat}(h:lead Y=(n,true)):1≤n∧n≤255∧n≤Y.length:=by
 have hb:=Xc _ _ _ _ h;have:=bM 256 Y 0;unfold lead at h;rw[h] at this;exact⟨by omega,this,hb.2⟩
/-- ahead of anything -/
theorem rR{Y Z:Bs}(h:wm Y=true):lead (Y++Z)=(Y.length,true):=UL.2 ⟨by simp,by rw[List.take_left]; exact h⟩
/-! ### where names stand -/
structure Pl where
 at_:Nat
 n:Nat
instance:Enc Pl:=⟨fun x=>[.int .i64 (x.at_:Int),.int .i64 (x.n:Int)],2,fun _=>rfl,fun _=>rfl⟩
def wE(t:Int):Option (Nat × Nat × Nat):=if t=2∨t=5∨t=12 then some (0,1,0) else if t=15 then some (2,1,0) else if t=33 then some (6,1,0) else if t=6 then some (0,2,20) else none
/-- names, one behind the other -/
def Xm(d:Bs):Nat→Nat→Option (List Pl × Nat)
 | 0,a=>some ([],a)
 | k+1,a=>if(lead (d.drop a)).2=true then(Xm d k (a+(lead (d.drop a)).1)).map fun x=>(⟨a,(lead (d.drop a)).1⟩::x.1,x.2) else none
def xX(t:Int)(d:Bs):Option (List Pl):=match wE t with
 | none=>some []
 | some (a,k,b)=>if d.length<a then none else match Xm d k a with
  | some (l,e)=>if d.length=e+b then some l else none
  | none=>none
/-- texts -/
def mg:Nat→Bs→Nat→Bool
 | 0,_,_=>false
 | f+1,d,a=>match d[a]? with
  | some b=>mg f d (a+1+b.toNat)
  | none=>a==d.length
def txt(d:Bs):Bool:=d !=[] && mg (d.length+1) d 0
def Zk(t:Int)(d:Bs):Bool:=if 1000<d.length then false else if t=1 then d.length==4 else if t=28 then d.length==16 else if t=16 then txt d else(xX t d).isSome
def prt(t:Int)(d:Bs):List Pl:=if Zk t d=true then(xX t d).getD [] else []
theorem oP{d:Bs}:∀{k a:Nat} {l:List Pl} {e:Nat},Xm d k a=some (l,e)→a≤d.length→e≤d.length∧a≤e∧l.length=k
 | 0,a,l,e,h,ha=>by
  obtain⟨rfl,rfl⟩:=Prod.mk.inj (Option.some.inj h);exact⟨ha,Nat.le_refl _,rfl⟩
 | k+1,a,l,e,h,ha=>by
  unfold Xm at h;split at h
  ·next h2=>
   have hl:lead (d.drop a)=((lead (d.drop a)).1,true):=by rw[←h2]
   have hp:=WC hl;rw[List.length_drop] at hp;cases hx:Xm d k (a+(lead (d.drop a)).1) with
   | none=>rw[hx] at h; cases h
   | some x=>
    obtain⟨l2,e2⟩:=x;rw[hx] at h;obtain⟨rfl,rfl⟩:=Prod.mk.inj (Option.some.inj h);have:=oP hx (by omega);exact⟨this.1,by omega,by simp[this.2.2]⟩
  ·cases h
/-- places, one behind the other, from a on -/
def Row(d:Bs):Nat→List Pl→Prop
 | a,[]=>a≤d.length
 | a,p::l=>p.at_=a∧lead (d.drop a)=(p.n,true)∧Row d (a+p.n) l
theorem Jq{d:Bs}:∀{k a:Nat} {l:List Pl} {e:Nat},Xm d k a=some (l,e)→a≤d.length→Row d a l
 | 0,a,l,e,h,ha=>by
  obtain⟨rfl,rfl⟩:=Prod.mk.inj (Option.some.inj h);exact ha
 | k+1,a,l,e,h,ha=>by
  unfold Xm at h;split at h
  ·next h2=>
   have hl:lead (d.drop a)=((lead (d.drop a)).1,true):=by rw[←h2]
   have hp:=WC hl;rw[List.length_drop] at hp;cases hx:Xm d k (a+(lead (d.drop a)).1) with
   | none=>rw[hx] at h; cases h
   | some x=>
    obtain⟨l2,e2⟩:=x;rw[hx] at h;obtain⟨rfl,rfl⟩:=Prod.mk.inj (Option.some.inj h);exact⟨rfl,hl,Jq hx (show a+(lead (d.drop a)).1≤d.length from by omega)⟩
  ·cases h
theorem eH{t:Int}{d:Bs}{l:List Pl}(h:xX t d=some l):l=[]∨∃a k b e,wE t=some (a,k,b)∧a≤d.length∧Xm d k a=some (l,e)∧d.length=e+b:=by
 unfold xX at h;split at h
 ·exact .inl (Option.some.inj h).symm
 ·next a k b hs=>
  split at h
  ·cases h
  ·split at h
   ·next l2 e hp=>
    split at h
    ·next he=>
     obtain rfl:=Option.some.inj h;exact .inr ⟨a,k,b,e,hs,by omega,hp,he⟩
    ·cases h
   ·cases h
theorem yV{t:Int}{x:Nat × Nat × Nat}(h:wE t=some x):t≠1∧t≠28∧t≠16:=by
 unfold wE at h;refine⟨fun e=>?_,fun e=>?_,fun e=>?_⟩<;>(subst e; simp at h)
theorem xC{t:Int}{x:Nat × Nat × Nat}(h:wE t=some x):x.1≤6∧x.2.1≤2∧x.2.2≤20:=by
 unfold wE at h;split at h
 ·obtain rfl:=Option.some.inj h; decide
 ·split at h
  ·obtain rfl:=Option.some.inj h; decide
  ·split at h
   ·obtain rfl:=Option.some.inj h; decide
   ·split at h
    ·obtain rfl:=Option.some.inj h; decide
    ·cases h
theorem Jp{t:Int}{d:Bs}{l:List Pl}(h:xX t d=some l):l.length≤2:=by
 rcases eH h with rfl | ⟨a,k,b,e,hs,ha,hp,_⟩
 ·exact Nat.zero_le _
 ·have h1:=(xC hs).2.1;have h2:=(oP hp ha).2.2;simp only at h1;omega
/-! ### Drop, and one use more, step by step -/
def GD:List Nm→Int→List Nm
 | [],_=>[]
 | e::l,i=>if e.id=i then(if e.u=1 then l else⟨e.id,e.n,e.u-1⟩::l) else e::GD l i
def inc:List Nm→Int→List Nm
 | [],_=>[]
 | e::l,i=>if e.id=i then⟨e.id,e.n,e.u+1⟩::l else e::inc l i
theorem jE:∀(L:List Nm) (i:Int),Vs L i=GD L i
 | [],_=>rfl
 | e::l,i=>by
  have ih:=jE l i;unfold Vs at ih ⊢;unfold GD U2;by_cases h:e.id=i
  ·rw[if_pos h,if_pos h];simp only[List.getElem?_cons_zero,List.eraseIdx_cons_zero];unfold reuse;rw[List.set_cons_zero]
  ·rw[if_neg h,if_neg h, ←ih];cases hx:U2 i l with
   | none=>rfl
   | some k=>
    obtain⟨x,h1,_⟩:=xI hx;simp only[Option.map_some,List.getElem?_cons_succ,h1,List.eraseIdx_cons_succ];unfold reuse;rw[List.set_cons_succ];split<;>rfl
theorem jc:∀{L:List Nm} {j:Nat} {e:Nm},(L.map (·.id)).Nodup→L[j]?=some e→reuse L j e (e.u+1)=inc L e.id
 | [],_,_,_,h=>by simp at h
 | x::l,0,e,_,h=>by
  obtain rfl:x=e:=by simpa using h
  unfold inc reuse;rw[if_pos rfl,List.set_cons_zero]
 | x::l,j+1,e,hd,h=>by
  rw[List.map_cons,List.nodup_cons] at hd;have hl:l[j]?=some e:=by simpa using h
  have hne:x.id≠e.id:=fun h2=>hd.1 (h2▸List.mem_map.2 ⟨e,List.mem_of_getElem? hl,rfl⟩)
  have ih:=jc hd.2 hl;unfold reuse at ih ⊢;unfold inc;rw[if_neg hne,List.set_cons_succ,ih]
/-! ### a list of names, each used so often more -/
def vw:List Nm→(Int→Nat)→List Nm
 | [],_=>[]
 | e::l,c=>if e.u+c e.id=0 then vw l c else⟨e.id,e.n,e.u+c e.id⟩::vw l c
theorem Kk(e:Nm)(l:List Nm)(c:Int→Nat):vw (e::l) c=if e.u+c e.id=0 then vw l c else⟨e.id,e.n,e.u+c e.id⟩::vw l c:=rfl
theorem Vf:∀{L:List Nm} {c c':Int→Nat},(∀e∈L,c e.id=c' e.id)→vw L c=vw L c'
 | [],_,_,_=>rfl
 | e::l,c,c',h=>by
  unfold vw;rw[h e (by simp),Vf fun x hx=>h x (List.mem_cons_of_mem _ hx)]
theorem Xk(c:Int→Nat):∀(L M:List Nm),vw (L++M) c=vw L c++vw M c
 | [],_=>rfl
 | e::l,M=>by
  rw[List.cons_append,Kk,Kk,Xk c l M];split
  ·rfl
  ·rfl
theorem gV:∀{L:List Nm},Pos L→vw L (fun _=>0)=L
 | [],_=>rfl
 | e::l,h=>by
  unfold vw;have:=h e (by simp);rw[if_neg (by omega),gV fun x hx=>h x (List.mem_cons_of_mem _ hx)];rfl
theorem QO:∀{L:List Nm} {c:Int→Nat},(∀e∈L,e.u+c e.id=0)→vw L c=[]
 | [],_,_=>rfl
 | e::l,c,h=>by
  unfold vw;rw[if_pos (h e (by simp))];exact QO fun x hx=>h x (List.mem_cons_of_mem _ hx)
theorem uL:∀{L:List Nm} {c:Int→Nat} {x:Nm},x∈vw L c↔∃e∈L,x=⟨e.id,e.n,e.u+c e.id⟩∧x.u≠0
 | [],c,x=>by unfold vw; simp
 | e::l,c,x=>by
  unfold vw;split
  ·next h0=>
   rw[uL];constructor
   ·rintro⟨y,hy,h1,h2⟩; exact⟨y,List.mem_cons_of_mem _ hy,h1,h2⟩
   ·rintro⟨y,hy,h1,h2⟩;rcases List.mem_cons.1 hy with rfl | hy
    ·rw[h1] at h2; exact absurd h0 h2
    ·exact⟨y,hy,h1,h2⟩
  ·next h0=>
   rw[List.mem_cons,uL];constructor
   ·rintro(rfl | ⟨y,hy,h1,h2⟩)
    ·exact⟨e,by simp,rfl,h0⟩
    ·exact⟨y,List.mem_cons_of_mem _ hy,h1,h2⟩
   ·rintro⟨y,hy,h1,h2⟩;rcases List.mem_cons.1 hy with rfl | hy
    ·exact .inl h1
    ·exact .inr ⟨y,hy,h1,h2⟩
theorem qg(c:Int→Nat):∀(L:List Nm),List.Sublist ((vw L c).map (·.id)) (L.map (·.id))∧List.Sublist ((vw L c).map (·.n)) (L.map (·.n))
 | []=>⟨.slnil,.slnil⟩
 | e::l=>by
  have ih:=qg c l;unfold vw;split
  ·exact⟨.cons _ ih.1,.cons _ ih.2⟩
  ·exact⟨.cons_cons _ ih.1,.cons_cons _ ih.2⟩
theorem gX{L:List Nm}(c:Int→Nat)(h:y8 L):y8 (vw L c):=⟨(qg c L).1.nodup h.ids,(qg c L).2.nodup h.ns⟩
theorem QS{c:Int→Nat}{i:Int}:∀{L:List Nm},(L.map (·.id)).Nodup→(∃e∈L,e.id=i)→1≤c i→GD (vw L c) i=vw L (fun k=>if k=i then c k-1 else c k)
 | [],_,h,_=>by simp at h
 | e::l,hd,h,hc=>by
  rw[List.map_cons,List.nodup_cons] at hd;unfold vw;by_cases he:e.id=i
  ·have htl:vw l c=vw l (fun k=>if k=i then c k-1 else c k):=Vf fun x hx=>by
    have hne:x.id≠i:=fun h2=>hd.1 (he▸h2▸List.mem_map.2 ⟨x,hx,rfl⟩)
    show c x.id=if x.id=i then c x.id-1 else c x.id
    rw[if_neg hne]
   rw[if_neg (by rw[he]; omega)];unfold GD;rw[if_pos he];simp only[he,if_true];by_cases h1:e.u+c i=1
   ·rw[if_pos h1,if_pos (by omega),htl]
   ·rw[if_neg h1,if_neg (by omega), ←htl,show e.u+c i-1=e.u+(c i-1) from by omega]
  ·have h2:∃e∈l,e.id=i:=by
    obtain⟨x,hx,hxi⟩:=h;rcases List.mem_cons.1 hx with rfl | hx
    ·exact absurd hxi he
    ·exact⟨x,hx,hxi⟩
   have ih:=QS hd.2 h2 hc;simp only[if_neg he];by_cases h0:e.u+c e.id=0
   ·rw[if_pos h0,if_pos h0]; exact ih
   ·rw[if_neg h0,if_neg h0];show GD (_::_) i=_;unfold GD;rw[if_neg (show ¬(⟨e.id,e.n,e.u+c e.id⟩:Nm).id=i from he),ih]
theorem gW{c:Int→Nat}{i:Int}:∀{L:List Nm},(L.map (·.id)).Nodup→(∀e∈L,1≤e.u+c e.id)→inc (vw L c) i=vw L (fun k=>if k=i then c k+1 else c k)
 | [],_,_=>rfl
 | e::l,hd,h=>by
  rw[List.map_cons,List.nodup_cons] at hd;have h1:=h e (by simp);unfold vw;rw[if_neg (by omega)];show inc (_::_) i=_;unfold inc;by_cases he:e.id=i
  ·have htl:vw l c=vw l (fun k=>if k=i then c k+1 else c k):=Vf fun x hx=>by
    have hne:x.id≠i:=fun h2=>hd.1 (he▸h2▸List.mem_map.2 ⟨x,hx,rfl⟩)
    show c x.id=if x.id=i then c x.id+1 else c x.id
    rw[if_neg hne]
   rw[if_pos (show(⟨e.id,e.n,e.u+c e.id⟩:Nm).id=i from he)];simp only[he,if_true];rw[if_neg (by omega), ←htl]; rfl
  ·have ih:=gW (c:=c) (i:=i) hd.2 fun x hx=>h x (List.mem_cons_of_mem _ hx)
   rw[if_neg (show ¬(⟨e.id,e.n,e.u+c e.id⟩:Nm).id=i from he)];simp only[if_neg he];rw[if_neg (by omega),ih]
/-! ### drops -/
def drops(L:List Nm)(ids:List Int):List Nm:=ids.foldl Vs L
theorem yK:∀{ids:List Int} {L:List Nm} {c:Int→Nat},(L.map (·.id)).Nodup→(∀i∈ids,∃e∈L,e.id=i)→drops (vw L fun k=>c k+ids.count k) ids=vw L c
 | [],L,c,_,_=>by unfold drops; simp
 | i::ids,L,c,hd,h=>by
  have h1:=QS (c:=fun k=>c k+(i::ids).count k) (i:=i) hd (h i (by simp)) (by simp; omega);have h2:(vw L fun k=>if k=i then c k+(i::ids).count k-1 else c k+(i::ids).count k)=vw L fun k=>c k+ids.count k:=Vf fun e _=>by
   show(if e.id=i then c e.id+(i::ids).count e.id-1 else c e.id+(i::ids).count e.id)=c e.id+ids.count e.id;rw[List.count_cons];by_cases he:e.id=i
   ·subst he; simp
   ·have:(i==e.id)=false:=by simpa using fun h3:i=e.id=>he h3.symm
    rw[if_neg he,this]; simp
  show(ids.foldl Vs (Vs (vw L fun k=>c k+(i::ids).count k) i))=_;rw[jE,h1,h2];exact yK hd fun j hj=>h j (List.mem_cons_of_mem _ hj)
/-! ### adds -/
structure Ad where
 D:List (Option Bt)
 L:List Nm
 ids:List Int
 e:Int
def Wq(N:Nat):List (Option Bt)→List Nm→List Bs→Ad
 | D,L,[]=>⟨D,L,[],0⟩
 | D,L,n::l=>if vW N D L n=0 then⟨(Wq N (vX D L (zM n)) (wu D L (zM n)) l).D,(Wq N (vX D L (zM n)) (wu D L (zM n)) l).L,UZ D L (zM n)::(Wq N (vX D L (zM n)) (wu D L (zM n)) l).ids,(Wq N (vX D L (zM n)) (wu D L (zM n)) l).e⟩ else⟨D,L,[],vW N D L n⟩
theorem qb{L:List Nm}{m:Bs}:(uq L m).isSome=true↔∃e∈L,e.n=m:=by
 constructor
 ·intro h;obtain⟨e,he⟩:=Option.isSome_iff_exists.1 h;obtain⟨j,_,h2,h3⟩:=Vu he;exact⟨e,List.mem_of_getElem? h2,h3⟩
 ·rintro⟨e,he,rfl⟩;exact cK he
theorem Az{D:List (Option Bt)}{L:List Nm}{n m:Bs}:(uq (wu D L n) m).isSome=true↔m=n∨(uq L m).isSome=true:=by
 rw[qb,qb];cases hb:uq L n with
 | some x=>
  obtain⟨j,h1,h2,rfl⟩:=Vu hb;have:wu D L x.n=reuse L j x (x.u+1):=by unfold wu; rw[h1]; simp only[h2]
  rw[this];constructor
  ·rintro⟨e,he,rfl⟩;obtain⟨y,hy,_,h4⟩:=U3 h2 he;exact .inr ⟨y,hy,h4⟩
  ·rintro(rfl | ⟨y,hy,rfl⟩)
   ·obtain⟨z,hz,_,h4⟩:=V8 (u:=x.u+1) h2 (List.mem_of_getElem? h2);exact⟨z,hz,h4⟩
   ·obtain⟨z,hz,_,h4⟩:=V8 (u:=x.u+1) h2 hy;exact⟨z,hz,h4⟩
 | none=>
  have:wu D L n=L++[⟨((hnd D:Nat):Int),n,1⟩]:=by unfold wu; rw[vV hb]
  rw[this];constructor
  ·rintro⟨e,he,rfl⟩;rcases List.mem_append.1 he with he | he
   ·exact .inr ⟨e,he,rfl⟩
   ·rw[List.mem_singleton.1 he]; exact .inl rfl
  ·rintro(rfl | ⟨y,hy,rfl⟩)
   ·exact⟨⟨((hnd D:Nat):Int),m,1⟩,by simp,rfl⟩
   ·exact⟨y,List.mem_append.2 (.inl hy),rfl⟩
theorem kS(D:List (Option Bt)):Zt D ((hnd D:Nat):Int)=none:=by
 have:=Vr D;have hp:=Wx D;rw[show((hnd D:Nat):Int)=((hnd D-1:Nat):Int)+1 from by omega,ZR]; exact this
/-- what adds leave: the elder names, new ones behind them, each used as often as its number was told -/
theorem YE(N:Nat):∀(l:List Bs) (D:List (Option Bt)) (L:List Nm) (c:Int→Nat),y8 L→(∀e∈L,(Zt D e.id).isSome=true)→(∀e∈L,1≤e.u+c e.id)→(∀i,(∀e∈L,e.id≠i)→c i=0)→
 ∃M:List Nm,(∀e∈M,e.u=0)∧y8 (L++M)∧(Wq N D (vw L c) l).L=vw (L++M) (fun k=>c k+(Wq N D (vw L c) l).ids.count k)∧(∀i∈(Wq N D (vw L c) l).ids,∃e∈L++M,e.id=i)∧
  (∀e∈L++M,(Zt (Wq N D (vw L c) l).D e.id).isSome=true)∧(∀e∈M,Zt D e.id=none)
 | [],D,L,c,hd,hD,_,_=>⟨[],fun e he=>by simp at he,by rw[List.append_nil]; exact hd,by unfold Wq; simp,fun i hi=>by unfold Wq at hi; simp at hi,by rw[List.append_nil]; exact hD,fun e he=>by simp at he⟩
 | n::l,D,L,c,hd,hD,hu,hc=>by
  unfold Wq;by_cases hE:vW N D (vw L c) n=0
  ·rw[if_pos hE];have hcount:∀(i k:Int) (ids:List Int),(i::ids).count k=ids.count k+if k=i then 1 else 0:=fun i k ids=>by
    rw[List.count_cons];by_cases h:k=i
    ·subst h; simp
    ·have:(i==k)=false:=by simpa using fun h3:i=k=>h h3.symm
     rw[if_neg h,this]; simp
   cases hb:uq (vw L c) (zM n) with
   | some x=>
    obtain⟨j,h1,h2,h3⟩:=Vu hb;have hxm:=List.mem_of_getElem? h2;obtain⟨e,heL,hxe,_⟩:=uL.1 hxm;have hL:wu D (vw L c) (zM n)=vw L (fun k=>if k=x.id then c k+1 else c k):=by
     unfold wu; rw[h1]; simp only[h2];rw[jc (gX c hd).ids h2,gW hd.ids hu]
    have hDD:vX D (vw L c) (zM n)=D:=by unfold vX; rw[hb]; rfl
    have hI:UZ D (vw L c) (zM n)=x.id:=by unfold UZ; rw[hb]; rfl
    rw[hL,hDD,hI];have hxid:x.id=e.id:=by rw[hxe]
    obtain⟨M,i1,i2,i3,i4,i5,i6⟩:=YE N l D L (fun k=>if k=x.id then c k+1 else c k) hd hD (fun y hy=>by
     have:=hu y hy;show 1≤y.u+if y.id=x.id then c y.id+1 else c y.id
     split<;>omega) (fun i hi=>by
     show(if i=x.id then c i+1 else c i)=0;rw[if_neg fun h4=>hi e heL (by rw[h4,hxid])]; exact hc i hi)
    refine⟨M,i1,i2,?_,fun i hi=>?_,i5,i6⟩
    ·rw[i3];refine Vf fun y _=>?_
     show(if y.id=x.id then c y.id+1 else c y.id)+_=c y.id+_;rw[hcount];split<;>omega
    ·rcases List.mem_cons.1 hi with rfl | hi
     ·exact⟨e,List.mem_append.2 (.inl heL),hxid.symm⟩
     ·exact i4 i hi
   | none=>
    have hL0:wu D (vw L c) (zM n)=vw L c++[⟨((hnd D:Nat):Int),zM n,1⟩]:=by unfold wu; rw[vV hb]
    have hDD:vX D (vw L c) (zM n)=ZW D (8+(zM n).length):=by unfold vX; rw[hb]; rfl
    have hI:UZ D (vw L c) (zM n)=((hnd D:Nat):Int):=by unfold UZ; rw[hb]; rfl
    have hno:=kS D;have hidn:∀y∈L,y.id≠((hnd D:Nat):Int):=fun y hy h=>by
     have:=hD y hy;rw[h,hno] at this; cases this
    have hnn:∀y∈L,y.n≠zM n:=fun y hy h=>by
     have hm:(⟨y.id,y.n,y.u+c y.id⟩:Nm)∈vw L c:=uL.2 ⟨y,hy,rfl,by have:=hu y hy; show y.u+c y.id≠0; omega⟩;exact VU (vV hb) _ hm h
    have hL:wu D (vw L c) (zM n)=vw (L++[⟨((hnd D:Nat):Int),zM n,0⟩]) (fun k=>if k=((hnd D:Nat):Int) then 1 else c k):=by
     rw[hL0,Xk];congr 1
     ·refine Vf fun y hy=>?_
      show c y.id=if y.id=((hnd D:Nat):Int) then 1 else c y.id
      rw[if_neg (hidn y hy)]
     ·unfold vw;simp[vw]
    rw[hL,hDD,hI];have hd2:y8 (L++[⟨((hnd D:Nat):Int),zM n,0⟩]):=hd.add hidn hnn;obtain⟨M,i1,i2,i3,i4,i5,i6⟩:=YE N l (ZW D (8+(zM n).length)) (L++[⟨((hnd D:Nat):Int),zM n,0⟩]) (fun k=>if k=((hnd D:Nat):Int) then 1 else c k) hd2 (fun y hy=>by
     rcases List.mem_append.1 hy with hy | hy
     ·rw[ZJ (hidn y hy)]; exact hD y hy
     ·rw[List.mem_singleton.1 hy]; show(Zt _ ((hnd D:Nat):Int)).isSome=true; rw[WL]; rfl) (fun y hy=>by
     show 1≤y.u+if y.id=((hnd D:Nat):Int) then 1 else c y.id
     rcases List.mem_append.1 hy with hy | hy
     ·rw[if_neg (hidn y hy)]; exact hu y hy
     ·rw[List.mem_singleton.1 hy]; simp) (fun i hi=>by
     show(if i=((hnd D:Nat):Int) then 1 else c i)=0;have h5:¬i=((hnd D:Nat):Int):=fun h=>hi ⟨((hnd D:Nat):Int),zM n,0⟩ (by simp) h.symm
     rw[if_neg h5];exact hc i fun y hy=>hi y (List.mem_append.2 (.inl hy)))
    rw[List.append_assoc] at i2 i3 i4 i5;refine⟨[⟨((hnd D:Nat):Int),zM n,0⟩]++M,fun y hy=>?_,i2,?_,fun i hi=>?_,i5,fun y hy=>?_⟩
    ·rcases List.mem_append.1 hy with hy | hy
     ·rw[List.mem_singleton.1 hy]
     ·exact i1 y hy
    ·rw[i3];refine Vf fun y _=>?_
     show(if y.id=((hnd D:Nat):Int) then 1 else c y.id)+_=c y.id+_;rw[hcount];by_cases h6:y.id=((hnd D:Nat):Int)
     ·rw[if_pos h6,if_pos h6,h6,hc _ hidn]; omega
     ·rw[if_neg h6,if_neg h6]; omega
    ·rcases List.mem_cons.1 hi with rfl | hi
     ·exact⟨⟨((hnd D:Nat):Int),zM n,0⟩,by simp,rfl⟩
     ·exact i4 i hi
    ·rcases List.mem_append.1 hy with hy | hy
     ·rw[List.mem_singleton.1 hy]; exact hno
     ·have h7:=i6 y hy;have hne:y.id≠((hnd D:Nat):Int):=fun h=>by rw[h,WL] at h7; cases h7
      rw[ZJ hne] at h7; exact h7
  ·rw[if_neg hE];exact⟨[],fun e he=>by simp at he,by rw[List.append_nil]; exact hd,by simp,fun i hi=>by simp at hi,by rw[List.append_nil]; exact hD,fun e he=>by simp at he⟩
/-- all adds undone -/
theorem lW{N:Nat}{l:List Bs}{D:List (Option Bt)}{L:List Nm}(hd:y8 L)(hp:Pos L)(hD:∀e∈L,(Zt D e.id).isSome=true):drops (Wq N D L l).L (Wq N D L l).ids=L:=by
 have h0:=gV hp;obtain⟨M,i1,i2,i3,i4,_,_⟩:=YE N l D L (fun _=>0) hd hD (fun e he=>by have:=hp e he; omega) (fun _ _=>rfl);rw[h0] at i3 i4;rw[i3,yK i2.ids i4,Xk,h0,QO (fun e he=>by rw[i1 e he]),List.append_nil]
/-! ### what they cost -/
def Wo(L:List Nm):List Bs→List Bs→Nat
 | _,[]=>0
 | seen,n::l=>(if zM n∈seen∨(uq L (zM n)).isSome=true then 0 else Z4 (8+n.length))+Wo L (zM n::seen) l
theorem UR{L:List Nm}:∀{l:List Bs} {s s':List Bs},(∀m,m∈s↔m∈s')→Wo L s l=Wo L s' l
 | [],_,_,_=>rfl
 | n::l,s,s',h=>by
  unfold Wo;rw[UR (s:=zM n::s) (s':=zM n::s') fun m=>by rw[List.mem_cons,List.mem_cons,h m]];simp only[h (zM n)]
theorem jI{L L':List Nm}{x:Bs}(hL:∀m,(uq L' m).isSome=true↔m=x∨(uq L m).isSome=true):∀{l:List Bs} {s:List Bs},Wo L' s l=Wo L (x::s) l
 | [],_=>rfl
 | n::l,s=>by
  unfold Wo;rw[jI hL (l:=l) (s:=zM n::s),UR (s:=x::zM n::s) (s':=zM n::x::s) fun m=>by simp only[List.mem_cons]; exact⟨fun h=>by rcases h with h | h | h<;>simp[h],fun h=>by rcases h with h | h | h<;>simp[h]⟩];congr 1;have hiff:(zM n∈s∨(uq L' (zM n)).isSome=true)↔(zM n∈x::s∨(uq L (zM n)).isSome=true):=by
   rw[hL,List.mem_cons];exact⟨fun h=>by rcases h with h | h | h<;>simp[h],fun h=>by rcases h with(h | h) | h<;>simp[h]⟩
  simp only[hiff]
theorem K8(k:Nat):16≤Z4 k:=by
 unfold Z4
 (repeat' split)<;>omega
theorem Kr{N:Nat}:∀{l:List Bs} {D:List (Option Bt)} {L:List Nm},(∀n∈l,wm n=true)→Zn D≤N→
 (Zn D+Wo L [] l≤N→(Wq N D L l).e=0∧Zn (Wq N D L l).D=Zn D+Wo L [] l)∧(N<Zn D+Wo L [] l→(Wq N D L l).e=4)
 | [],D,L,_,hN=>⟨fun _=>⟨rfl,rfl⟩,fun h=>absurd h (Nat.not_lt.2 hN)⟩
 | n::l,D,L,hv,hN=>by
  have hvn:=hv n (by simp);have h255:=Wt hvn;have hfl:=Wp n;have hstep:Wo L [zM n] l=Wo (wu D L (zM n)) [] l:=(jI fun m=>Az).symm;have hcc:cost (8+(n.length:Int))=(Z4 (8+n.length):Nat):=by
   unfold cost; rw[if_neg (by omega)]; congr 1
  have h16:=K8 (8+n.length);unfold Wq Wo;rw[hstep];have hnil:¬zM n∈([]:List Bs):=by simp
  cases hb:(uq L (zM n)).isSome with
  | true=>
   have hE:vW N D L n=0:=by unfold vW; rw[if_neg (by rw[hvn]; decide),hb]; rfl
   have hDD:vX D L (zM n)=D:=by unfold vX; rw[hb]; rfl
   rw[if_pos hE,if_pos (.inr rfl),Nat.zero_add,hDD];exact Kr (fun m hm=>hv m (List.mem_cons_of_mem _ hm)) hN
  | false=>
   have hEa:vW N D L n=if(N:Int)-Zn D<(Z4 (8+n.length):Nat) then 4 else 0:=by
    unfold vW ZV;rw[if_neg (by rw[hvn]; decide),hb,if_neg (by decide),hcc,if_neg (by omega)]
   have hDD:vX D L (zM n)=ZW D (8+n.length):=by unfold vX; rw[hb,hfl]; rfl
   rw[if_neg (show ¬(zM n∈([]:List Bs)∨false=true) from by simp)];by_cases hroom:Zn D+Z4 (8+n.length)≤N
   ·have hE:vW N D L n=0:=by rw[hEa,if_neg (by omega)]
    rw[if_pos hE];have hu:=dw D (8+n.length);rw[←hDD] at hu;have ih:=Kr (N:=N) (l:=l) (D:=vX D L (zM n)) (L:=wu D L (zM n)) (fun m hm=>hv m (List.mem_cons_of_mem _ hm)) (by omega);rw[hu] at ih;refine⟨fun h=>?_,fun h=>ih.2 (by omega)⟩;obtain⟨h1,h2⟩:=ih.1 (by omega);exact⟨h1,by rw[←Nat.add_assoc]; exact h2⟩
   ·have hE:vW N D L n=4:=by rw[hEa,if_pos (by omega)]
    rw[if_neg (by rw[hE]; decide)];exact⟨fun h=>by omega,fun _=>hE⟩
structure RR where
 n:Bs
 t:Int
 c:Int
 ttl:Int
 d:Bs
instance:Enc RR:=⟨fun x=>[sv x.n,.int .i64 x.t,.int .i64 x.c,.int .i64 x.ttl,sv x.d],5,fun _=>rfl,fun _=>rfl⟩
structure St where
 name:Bs
 typ:Int
 kind:Int
 zone:Bs
 rrs:List RR
def St.v(s:St)(w:Value):Value:= .agg #[sv s.name,.int .i64 s.typ,w,.int .i64 s.kind,sv s.zone]
def UG(a b:Bs):Bool:=wm a && wm b && (a.map low==b.map low)
def vY(s:St)(r:RR):Bool:=UG r.n s.name && decide (r.t=s.typ) && decide (r.c=1) && Zk r.t r.d
def Wh(s:St):Bool:=wm s.name && wm s.zone && decide (1≤s.typ∧s.typ≤65535∧0≤s.kind∧s.kind≤2) && decide (s.rrs.length≤32) && (decide (0<s.rrs.length)==decide (s.kind=0)) && s.rrs.all (vY s)
def UO(d:Bs)(p:Pl):Bs:=(d.drop p.at_).take p.n
def ZF(r:RR):List Bs:=(prt r.t r.d).map (UO r.d)
def Ze(s:St):List Bs:=s.name::s.zone::(s.rrs.map ZF).flatten
def WA(l:List Int):Int:=l.foldr (· + ·) 0
def vF(r:RR):Int:=2+(r.d.length:Int)+WA ((prt r.t r.d).map fun p=>4-(p.n:Int))
def Zx(s:St):Int:=16+WA (s.rrs.map vF)
def w9(s:St):Int:=if Wh s=false then 1 else if 4096<Zx s then 3 else 0
def yw(s:St):Int:=if w9 s=0 then Zx s else 0
/-- data with other bytes in the names' places -/
def splice(d:Bs):Nat→List Pl→List Bs→Bs
 | a,p::l,x::xs=>(d.drop a).take (p.at_-a)++x++splice d (p.at_+p.n) l xs
 | a,_,_=>d.drop a
def W9(t:Int)(d:Bs):Bs:=splice d 0 (prt t d) ((prt t d).map fun p=>zM (UO d p))
def Zh(s:St):St:=⟨zM s.name,s.typ,s.kind,zM s.zone,s.rrs.map fun r=>⟨zM s.name,r.t,1,0,W9 r.t r.d⟩⟩
/-- a number's bytes, the least first -/
def xO:Nat→Nat→Bs
 | 0,_=>[]
 | k+1,n=>UInt8.ofNat (n%256)::xO k (n/256)
theorem ZL:∀(k n:Nat),(xO k n).length=k
 | 0,_=>rfl
 | k+1,n=>by show(xO k (n/256)).length+1=k+1; rw[ZL k]
def xP(i:Int):Bs:=xO 4 i.toNat
def Ve(r:RR)(ids:List Int):Bs:=splice r.d 0 (prt r.t r.d) (ids.map xP)
def X8:List RR→List Int→Bs
 | [],_=>[]
 | r::l,ids=>xO 2 (Ve r ids).length++Ve r ids++X8 l (ids.drop (prt r.t r.d).length)
def vB(s:St)(ids:List Int):Bs:=xP (ids.getD 0 0)++xO 2 s.typ.toNat++xO 2 s.kind.toNat++xP (ids.getD 1 0)++xO 4 0x5e7b10c5++X8 s.rrs (ids.drop 2)
theorem VR(a:Int)(l:List Int):WA (a::l)=a+WA l:=rfl
theorem yT(l m:List Int):WA (l++m)=WA l+WA m:=by
 induction l with
 | nil=>show WA m=0+WA m; omega
 | cons a l ih=>rw[List.cons_append,VR,VR,ih]; omega
theorem eB(t:Int)(d:Bs):prt t d=[]∨∃a k b e,wE t=some (a,k,b)∧a≤d.length∧Xm d k a=some (prt t d,e)∧d.length=e+b:=by
 unfold prt;split
 ·next h=>
  cases hp:xX t d with
  | none=>exact .inl rfl
  | some l=>exact eH hp
 ·exact .inl rfl
/-- names are names -/
theorem dX{d:Bs}:∀{a:Nat} {l:List Pl},Row d a l→∀p∈l,wm (UO d p)=true∧(UO d p).length=p.n∧p.at_+p.n≤d.length
 | _,[],_,p,hp=>by simp at hp
 | a,q::l,⟨h1,h2,h3⟩,p,hp=>by
  rcases List.mem_cons.1 hp with rfl | hp
  ·subst h1;have hb:=WC h2;rw[List.length_drop] at hb;exact⟨(UL.1 h2).2,by unfold UO; rw[List.length_take,List.length_drop]; omega,by omega⟩
  ·exact dX h3 p hp
theorem Ym{t:Int}{d:Bs}{p:Pl}(hp:p∈prt t d):wm (UO d p)=true∧(UO d p).length=p.n∧p.at_+p.n≤d.length:=by
 rcases eB t d with h | ⟨a,k,b,e,_,ha,hc,_⟩
 ·rw[h] at hp; simp at hp
 ·exact dX (Jq hc ha) p hp
theorem kJ{s:St}(h:Wh s=true):∀n∈Ze s,wm n=true:=fun n hn=>by
 unfold Wh at h;simp only[Bool.and_eq_true] at h;obtain⟨⟨⟨⟨⟨h1,h2⟩,_⟩,_⟩,_⟩,_⟩:=h;unfold Ze at hn;rcases List.mem_cons.1 hn with rfl | hn
 ·exact h1
 rcases List.mem_cons.1 hn with rfl | hn
 ·exact h2
 obtain⟨l,hl,hn⟩:=List.mem_flatten.1 hn;obtain⟨r,_,rfl⟩:=List.mem_map.1 hl;unfold ZF at hn;obtain⟨p,hp,rfl⟩:=List.mem_map.1 hn;exact(Ym hp).1
theorem Qy{Y:Bs}(h:wm Y=true):zM Y=Y.map low:=by unfold zM; rw[if_pos h]
/-! ### numbers beside names -/
inductive Al (L:List Nm):List Int→List Bs→Prop
 | nil:Al L [] []
 | cons {i:Int} {n:Bs} {ids:List Int} {ns:List Bs} (h:∃e∈L,e.id=i∧e.n=n) (t:Al L ids ns):Al L (i::ids) (n::ns)
theorem Al.mono{L L':List Nm}(h:∀e∈L,∃e'∈L',e'.id=e.id∧e'.n=e.n):∀{ids:List Int} {ns:List Bs},Al L ids ns→Al L' ids ns
 | _,_,.nil=> .nil
 | _,_,.cons ⟨e,he,h1,h2⟩ t=>by
  obtain⟨e',he',h3,h4⟩:=h e he;exact .cons ⟨e',he',h3.trans h1,h4.trans h2⟩ (Al.mono h t)
theorem lY{D:List (Option Bt)}{L:List Nm}{n:Bs}{e:Nm}(he:e∈L):∃e'∈wu D L n,e'.id=e.id∧e'.n=e.n:=by
 cases hb:uq L n with
 | some x=>
  obtain⟨j,h1,h2,rfl⟩:=Vu hb;have:wu D L x.n=reuse L j x (x.u+1):=by unfold wu; rw[h1]; simp only[h2]
  rw[this];exact V8 h2 he
 | none=>
  have:wu D L n=L++[⟨((hnd D:Nat):Int),n,1⟩]:=by unfold wu; rw[vV hb]
  rw[this];exact⟨e,List.mem_append.2 (.inl he),rfl,rfl⟩
theorem lX{D:List (Option Bt)}{L:List Nm}{n:Bs}:∃e∈wu D L n,e.id=UZ D L n∧e.n=n:=by
 cases hb:uq L n with
 | some x=>
  obtain⟨j,h1,h2,rfl⟩:=Vu hb;have:wu D L x.n=reuse L j x (x.u+1):=by unfold wu; rw[h1]; simp only[h2]
  rw[this];obtain⟨e,he,h3,h4⟩:=V8 (u:=x.u+1) h2 (List.mem_of_getElem? h2);exact⟨e,he,by rw[h3]; unfold UZ; rw[hb]; rfl,h4⟩
 | none=>
  have:wu D L n=L++[⟨((hnd D:Nat):Int),n,1⟩]:=by unfold wu; rw[vV hb]
  rw[this];exact⟨⟨((hnd D:Nat):Int),n,1⟩,by simp,by unfold UZ; rw[hb]; rfl,rfl⟩
theorem UY{N:Nat}{D:List (Option Bt)}{L:List Nm}{n:Bs}{l:List Bs}(h:vW N D L n=0):Wq N D L (n::l)=⟨(Wq N (vX D L (zM n)) (wu D L (zM n)) l).D,(Wq N (vX D L (zM n)) (wu D L (zM n)) l).L,UZ D L (zM n)::(Wq N (vX D L (zM n)) (wu D L (zM n)) l).ids,(Wq N (vX D L (zM n)) (wu D L (zM n)) l).e⟩:=by
 rw[Wq,if_pos h]
theorem Ko{N:Nat}{D:List (Option Bt)}{L:List Nm}{n:Bs}{l:List Bs}(h:vW N D L n≠0):Wq N D L (n::l)=⟨D,L,[],vW N D L n⟩:=by
 rw[Wq,if_neg h]
theorem Kq{N:Nat}:∀{l:List Bs} {D:List (Option Bt)} {L:List Nm} {e:Nm},e∈L→∃e'∈(Wq N D L l).L,e'.id=e.id∧e'.n=e.n
 | [],_,_,e,he=>⟨e,he,rfl,rfl⟩
 | n::l,D,L,e,he=>by
  by_cases hE:vW N D L n=0
  ·rw[UY hE];obtain⟨e1,h1,h2,h3⟩:=lY (D:=D) (n:=zM n) he;obtain⟨e2,h4,h5,h6⟩:=Kq (N:=N) (l:=l) (D:=vX D L (zM n)) h1;exact⟨e2,h4,h5.trans h2,h6.trans h3⟩
  ·rw[Ko hE]; exact⟨e,he,rfl,rfl⟩
theorem dx{N:Nat}:∀{l:List Bs} {D:List (Option Bt)} {L:List Nm},(Wq N D L l).e=0→Al (Wq N D L l).L (Wq N D L l).ids (l.map zM)
 | [],_,_,_=> .nil
 | n::l,D,L,h=>by
  by_cases hE:vW N D L n=0
  ·rw[UY hE] at h ⊢;obtain⟨e1,h1,h2,h3⟩:=lX (D:=D) (L:=L) (n:=zM n);obtain⟨e2,h4,h5,h6⟩:=Kq (N:=N) (l:=l) (D:=vX D L (zM n)) h1;exact .cons ⟨e2,h4,h5.trans h2,h6.trans h3⟩ (dx h)
  ·rw[Ko hE] at h; exact absurd h hE
/-! ### names that live by the numbers that are held -/
structure qy(L:List Nm)(A:List Int):Prop where
 dis:y8 L
 us:∀e∈L,e.u=A.count e.id
 pos:Pos L
 ids:∀i∈A,∃e∈L,e.id=i
theorem qy.nil:qy [] []:=⟨⟨List.nodup_nil,List.nodup_nil⟩,fun e he=>by simp at he,Pos.nil,fun i hi=>by simp at hi⟩
def dD(L:List Nm):List Nm:=L.map fun e=>⟨e.id,e.n,0⟩
theorem AU(L:List Nm):(dD L).map (·.id)=L.map (·.id):=by unfold dD; rw[List.map_map]; rfl
theorem Er(L:List Nm):(dD L).map (·.n)=L.map (·.n):=by unfold dD; rw[List.map_map]; rfl
theorem Yc{L:List Nm}{e:Nm}(h:e∈dD L):e.u=0∧∃x∈L,x.id=e.id∧x.n=e.n:=by
 unfold dD at h;obtain⟨x,hx,rfl⟩:=List.mem_map.1 h;exact⟨rfl,x,hx,rfl,rfl⟩
theorem XG{L:List Nm}{e:Nm}(h:e∈L):(⟨e.id,e.n,0⟩:Nm)∈dD L:=List.mem_map.2 ⟨e,h,rfl⟩
theorem jS{L:List Nm}(h:y8 L):y8 (dD L):=⟨by rw[AU]; exact h.ids,by rw[Er]; exact h.ns⟩
theorem gU{c:Int→Nat}:∀{L:List Nm},(∀e∈L,e.u=c e.id)→Pos L→vw (dD L) c=L
 | [],_,_=>rfl
 | e::l,h,hp=>by
  have h1:=h e (by simp);have h2:=hp e (by simp);show vw (⟨e.id,e.n,0⟩::dD l) c=_;rw[Kk,gU (fun x hx=>h x (List.mem_cons_of_mem _ hx)) fun x hx=>hp x (List.mem_cons_of_mem _ hx)];simp only;rw[if_neg (by omega),Nat.zero_add, ←h1]
theorem qy.vw{L:List Nm}{A:List Int}(h:qy L A):vw (dD L) (fun k=>A.count k)=L:=gU h.us h.pos
theorem qy.of{M:List Nm}{A:List Int}(hd:y8 M)(h0:∀e∈M,e.u=0)(hi:∀i∈A,∃e∈M,e.id=i):qy (Proofs.YtekgciopamkjlaaGreat.vw M fun k=>A.count k) A:=by
 refine⟨gX _ hd,fun e he=>?_,fun e he=>?_,fun i hA=>?_⟩
 ·obtain⟨x,hx,rfl,_⟩:=uL.1 he;show x.u+A.count x.id=A.count x.id;rw[h0 x hx,Nat.zero_add]
 ·obtain⟨x,hx,rfl,h1⟩:=uL.1 he;exact Nat.pos_of_ne_zero h1
 ·obtain⟨e,he,rfl⟩:=hi i hA;refine⟨_,uL.2 ⟨e,he,rfl,?_⟩,rfl⟩;have:=List.count_pos_iff.2 hA;show e.u+A.count e.id≠0;omega
theorem qy.adds{N:Nat}{l:List Bs}{D:List (Option Bt)}{L:List Nm}{A:List Int}(h:qy L A)(hD:∀e∈L,(Zt D e.id).isSome=true):qy (Wq N D L l).L (A++(Wq N D L l).ids):=by
 obtain⟨M,i1,i2,i3,i4,_,_⟩:=YE N l D (dD L) (fun k=>A.count k) (jS h.dis) (fun e he=>by
  obtain⟨_,x,hx,h1,_⟩:=Yc he;rw[←h1]; exact hD x hx) (fun e he=>by
  obtain⟨_,x,hx,h1,_⟩:=Yc he;have:=h.us x hx;have:=h.pos x hx;show 1≤e.u+A.count e.id;rw[←h1]; omega) (fun i hi=>by
  refine List.count_eq_zero.2 fun hA=>?_
  obtain⟨e,he,rfl⟩:=h.ids i hA;exact hi _ (XG he) rfl)
 rw[h.vw] at i3 i4;rw[i3];have hc:(fun k=>A.count k+(Wq N D L l).ids.count k)=fun k=>(A++(Wq N D L l).ids).count k:=by
  funext k; rw[List.count_append]
 rw[hc];refine qy.of i2 (fun e he=>?_) (fun i hi=>?_)
 ·rcases List.mem_append.1 he with he | he
  ·exact(Yc he).1
  ·exact i1 e he
 ·rcases List.mem_append.1 hi with hi | hi
  ·obtain⟨e,he,h1⟩:=h.ids i hi;exact⟨_,List.mem_append.2 (.inl (XG he)),h1⟩
  ·exact i4 i hi
/-- numbers are given back -/
theorem qy.drops{L:List Nm}{A ids R:List Int}(h:qy L A)(hA:∀k,A.count k=R.count k+ids.count k):qy (drops L ids) R∧∀e∈L,e.id∈R→∃e'∈Proofs.YtekgciopamkjlaaGreat.drops L ids,e'.id=e.id∧e'.n=e.n:=by
 have hb:=h.vw;have hmem:∀i,i∈R∨i∈ids→i∈A:=fun i hi=>by
  rw[←List.count_pos_iff,hA];rcases hi with hi | hi
  ·have:=List.count_pos_iff.2 hi; omega
  ·have:=List.count_pos_iff.2 hi; omega
 have hfun:(fun k=>A.count k)=fun k=>R.count k+ids.count k:=funext hA
 have hd:Proofs.YtekgciopamkjlaaGreat.drops L ids=Proofs.YtekgciopamkjlaaGreat.vw (dD L) (fun k=>R.count k):=by
  rw[←hb,hfun];have:=yK (ids:=ids) (L:=dD L) (c:=fun k=>R.count k) (jS h.dis).ids (fun i hi=>by
   obtain⟨e,he,h1⟩:=h.ids i (hmem i (.inr hi));exact⟨_,XG he,h1⟩)
  rw[hfun] at hb;rw[hb] at this ⊢;exact this
 rw[hd];refine⟨qy.of (jS h.dis) (fun e he=>(Yc he).1) (fun i hi=>?_),fun e he hR=>?_⟩
 ·obtain⟨e,he,h1⟩:=h.ids i (hmem i (.inl hi));exact⟨_,XG he,h1⟩
 ·refine⟨_,uL.2 ⟨_,XG he,rfl,?_⟩,rfl,rfl⟩;have:=List.count_pos_iff.2 hR;show 0+R.count e.id≠0;omega
theorem qy.empty{L:List Nm}(h:qy L []):L=[]:=by
 cases L with
 | nil=>rfl
 | cons e l=>
  have h1:=h.us e (by simp);have h2:=h.pos e (by simp);simp at h1; omega
/-! ### arenas that are alike -/
def Xl(D D':List (Option Bt)):Prop:=∀i,(Zt D i).map List.length=(Zt D' i).map List.length
theorem Xl.symm{D D':List (Option Bt)}(h:Xl D D'):Xl D' D:=fun i=>(h i).symm
theorem Xl.trans{D D' D'':List (Option Bt)}(h:Xl D D')(k:Xl D' D''):Xl D D'':=fun i=>(h i).trans (k i)
theorem Xl.refl(D:List (Option Bt)):Xl D D:=fun _=>rfl
theorem Xl.stand{D D':List (Option Bt)}(h:Xl D D')(i:Int):(Zt D i).isSome=(Zt D' i).isSome:=by
 have:=congrArg Option.isSome (h i);simpa using this
theorem aS{D D':List (Option Bt)}(h:Xl D D')(i:Nat):((D[i]?).join).map List.length=((D'[i]?).join).map List.length:=by
 have:=h ((i:Int)+1)
 rwa [ZR,ZR] at this
theorem Jh{D D':List (Option Bt)}(h:mh D=mh D'):Xl D D':=fun i=>by
 unfold Zt;split
 ·have h1:=congrArg (fun l=>(l[(i-1).toNat]?).join) h;simp only[mh,List.getElem?_map] at h1;cases h2:D[(i-1).toNat]? with
  | none=>
   rw[h2] at h1;cases h3:D'[(i-1).toNat]? with
   | none=>rfl
   | some y=>rw[h3] at h1; simpa using h1
  | some x=>
   rw[h2] at h1;cases h3:D'[(i-1).toNat]? with
   | none=>rw[h3] at h1; simpa using h1
   | some y=>rw[h3] at h1; simpa using h1
 ·rfl
theorem xB{D D':List (Option Bt)}(h:Xl D D'):hnd D=hnd D':=by
 refine Qv (Wx D) (fun i hi=>?_) ?_
 ·obtain⟨b,hb⟩:=XK D i hi;have:=aS h i;rw[hb] at this;cases h2:D'[i]? with
  | none=>rw[h2] at this; simp at this
  | some x=>
   cases x with
   | none=>rw[h2] at this; simp at this
   | some c=>exact⟨c,rfl⟩
 ·have:=aS h (hnd D-1);rw[Vr D] at this;cases h2:(D'[hnd D-1]?).join with
  | none=>rfl
  | some c=>rw[h2] at this; simp at this
theorem xq:∀{D:List (Option Bt)},(∀i:Nat,(D[i]?).join=none)→Zn D=0
 | [],_=>rfl
 | a::l,h=>by
  have h0:=h 0;simp only[List.getElem?_cons_zero,Option.join_some] at h0;subst h0;have ih:=xq (D:=l) fun i=>by simpa using h (i+1)
  unfold Zn at ih ⊢;rw[List.map_cons,List.sum_cons,ih]; rfl
theorem dO:∀{D D':List (Option Bt)},(∀i:Nat,((D[i]?).join).map List.length=((D'[i]?).join).map List.length)→Zn D=Zn D'
 | [],D',h=>(xq (D:=D') fun i=>by
  have:=h i;cases h2:(D'[i]?).join with
  | none=>rfl
  | some c=>rw[h2] at this; simp at this).symm
 | a::l,[],h=>xq (D:=a::l) fun i=>by
  have:=h i;cases h2:((a::l)[i]?).join with
  | none=>rfl
  | some c=>rw[h2] at this; simp at this
 | a::l,b::m,h=>by
  have h0:=h 0;have ih:=dO (D:=l) (D':=m) fun i=>by simpa using h (i+1)
  simp only[List.getElem?_cons_zero,Option.join_some] at h0;unfold Zn at ih ⊢;rw[List.map_cons,List.sum_cons,List.map_cons,List.sum_cons,ih];congr 1;cases a with
  | none=>
   cases b with
   | none=>rfl
   | some y=>simp at h0
  | some x=>
   cases b with
   | none=>simp at h0
   | some y=>
    have:x.length=y.length:=by simpa using h0
    show Z4 x.length=Z4 y.length;rw[this]
theorem nY{D D':List (Option Bt)}(h:Xl D D'):Zn D=Zn D':=dO (aS h)
theorem YW{D D':List (Option Bt)}(h:Xl D D')(N:Nat)(n:Int):ZV N D n=ZV N D' n:=by unfold ZV; rw[nY h]
theorem j5{D D':List (Option Bt)}(h:Xl D D')(m:Nat):Xl (ZW D m) (ZW D' m):=fun i=>by
 by_cases hi:i=((hnd D:Nat):Int)
 ·have h2:=WL D' m;rw[←xB h] at h2;rw[hi,WL,h2]
 ·rw[ZJ hi,ZJ (by rw[←xB h]; exact hi)]; exact h i
theorem yG(D:List (Option Bt))(i:Int):Zt (V3 D i) i=none:=by
 cases hb:Zt D i with
 | some b=>exact jw hb
 | none=>unfold V3; rw[hb,if_neg (by decide)]; exact hb
theorem Qa{D D':List (Option Bt)}(h:Xl D D')(i:Int):Xl (V3 D i) (V3 D' i):=fun k=>by
 by_cases hk:k=i
 ·rw[hk,yG,yG]
 ·rw[wR hk,wR hk]; exact h k
theorem Bu{D:List (Option Bt)}{h:Int}{b Y:Bt}(hg:Zt D h=some b)(hl:Y.length=b.length):Xl (D.set (h-1).toNat (some Y)) D:=Jh (Yj hg hl)
theorem Vi.stand{D:List (Option Bt)}{L:List Nm}{B:List (Int × Bs)}(h:Vi D L B):∀e∈L,(Zt D e.id).isSome=true:=fun e he=>by rw[h.blk e he]; rfl
theorem Vi.empty{D:List (Option Bt)}(h:Vi D [] []):Zn D=0:=by
 refine xq fun i=>?_
 cases hb:(D[i]?).join with
 | none=>rfl
 | some b=>
  rw[←ZR] at hb;rcases h.all _ b hb with⟨e,he,_⟩ | ⟨x,hx,_⟩
  ·simp at he
  ·simp at hx
/-- a block more, of others -/
theorem Vi.alloc{D:List (Option Bt)}{L:List Nm}{B:List (Int × Bs)}(h:Vi D L B)(m:Nat):Vi (ZW D m) L ((((hnd D:Nat):Int),zeros m)::B):=by
 have hno:=kS D;have hid:∀e∈L,e.id≠((hnd D:Nat):Int):=fun x hx e=>by
  have:=h.blk x hx;rw[e,hno] at this; cases this
 refine⟨h.dis,fun e he=>by rw[ZJ (hid e he)]; exact h.blk e he,fun x hx=>?_,fun i b hib=>?_,h.us,h.fold⟩
 ·rcases List.mem_cons.1 hx with rfl | hx
  ·exact⟨WL D m,hid⟩
  ·obtain⟨h1,h2⟩:=h.oth x hx;have hne:x.1≠((hnd D:Nat):Int):=fun e=>by rw[e,hno] at h1; cases h1
   exact⟨by rw[ZJ hne]; exact h1,h2⟩
 ·by_cases hi:i=((hnd D:Nat):Int)
  ·exact .inr ⟨_,List.mem_cons_self,hi.symm⟩
  ·rw[ZJ hi] at hib;rcases h.all i b hib with hx | ⟨x,hx,hxi⟩
   ·exact .inl hx
   ·exact .inr ⟨x,List.mem_cons_of_mem _ hx,hxi⟩
/-- handles of others are told once -/
def Hs(B:List (Int × Bs)):Prop:=(B.map (·.1)).Nodup
theorem Vi.write{D:List (Option Bt)}{L:List Nm}{B:List (Int × Bs)}{k:Int}{b Y:Bs}(h:Vi D L ((k,b)::B))(hh:Hs ((k,b)::B)):Vi (D.set (k-1).toNat (some Y)) L ((k,Y)::B):=by
 obtain⟨h1,h2⟩:=h.oth (k,b) (by simp);have hg:Zt D k=some b:=h1;have hne:∀x∈B,x.1≠k:=fun x hx e=>(List.nodup_cons.1 hh).1 (List.mem_map.2 ⟨x,hx,e⟩)
 refine⟨h.dis,fun e he=>by rw[vQ hg,if_neg (h2 e he)]; exact h.blk e he,fun x hx=>?_,fun i c hib=>?_,h.us,h.fold⟩
 ·rcases List.mem_cons.1 hx with rfl | hx
  ·exact⟨by rw[vQ hg,if_pos rfl],h2⟩
  ·obtain⟨h3,h4⟩:=h.oth x (List.mem_cons_of_mem _ hx);exact⟨by rw[vQ hg,if_neg (hne x hx)]; exact h3,h4⟩
 ·rw[vQ hg] at hib;by_cases hi:i=k
  ·exact .inr ⟨_,List.mem_cons_self,hi.symm⟩
  ·rw[if_neg hi] at hib;rcases h.all i c hib with hx | ⟨x,hx,hxi⟩
   ·exact .inl hx
   ·rcases List.mem_cons.1 hx with rfl | hx
    ·exact absurd hxi.symm hi
    ·exact .inr ⟨x,List.mem_cons_of_mem _ hx,hxi⟩
/-- a block of others goes -/
theorem Vi.free{D:List (Option Bt)}{L:List Nm}{B B':List (Int × Bs)}{k:Int}{b:Bs}(h:Vi D L B)(hm:(k,b)∈B)(hB:∀x,x∈B'↔x∈B∧x.1≠k):Vi (V3 D k) L B':=by
 obtain⟨h1,h2⟩:=h.oth (k,b) hm;refine⟨h.dis,fun e he=>by rw[wR (h2 e he)]; exact h.blk e he,fun x hx=>?_,fun i c hib=>?_,h.us,h.fold⟩
 ·obtain⟨h3,h4⟩:=(hB x).1 hx;obtain⟨h5,h6⟩:=h.oth x h3;exact⟨by rw[wR h4]; exact h5,h6⟩
 ·by_cases hi:i=k
  ·rw[hi,yG] at hib; cases hib
  ·rw[wR hi] at hib;rcases h.all i c hib with hx | ⟨x,hx,hxi⟩
   ·exact .inl hx
   ·exact .inr ⟨x,(hB x).2 ⟨hx,by rw[hxi]; exact hi⟩,hxi⟩
def yY:Nat→List Bs→List Pl
 | _,[]=>[]
 | a,x::xs=>⟨a,x.length⟩::yY (a+x.length) xs
theorem fI:∀(a:Nat) (xs:List Bs),(yY a xs).length=xs.length
 | _,[]=>rfl
 | a,x::xs=>by show(yY _ xs).length+1=xs.length+1; rw[fI]
theorem Qn:∀{a:Nat} {xs zs:List Bs},xs.map List.length=zs.map List.length→yY a xs=yY a zs
 | _,[],[],_=>rfl
 | _,[],_::_,h=>by simp at h
 | _,_::_,[],h=>by simp at h
 | a,x::xs,y::zs,h=>by
  rw[List.map_cons,List.map_cons,List.cons.injEq] at h;show(⟨a,x.length⟩:Pl)::yY (a+x.length) xs=⟨a,y.length⟩::yY (a+y.length) zs;rw[h.1,Qn h.2]
theorem Jr:∀(xs:List Bs) (P Z:Bs),(∀x∈xs,wm x=true)→Xm (P++xs.flatten++Z) xs.length P.length=some (yY P.length xs,P.length+xs.flatten.length)
 | [],P,Z,_=>rfl
 | x::xs,P,Z,h=>by
  have hx:=h x (by simp);have hd:(P++(x::xs).flatten++Z).drop P.length=x++(xs.flatten++Z):=by
   rw[List.flatten_cons,List.append_assoc,List.append_assoc,List.drop_left]
  have hl:=rR (Z:=xs.flatten++Z) hx;have ih:=Jr xs (P++x) Z (fun y hy=>h y (List.mem_cons_of_mem _ hy));have e:P++(x::xs).flatten++Z=P++x++xs.flatten++Z:=by rw[List.flatten_cons,List.append_assoc P x]
  rw[List.length_append] at ih;show Xm _ (xs.length+1) P.length=_;unfold Xm;rw[hd,hl,e];simp only[if_true,ih,Option.map_some];show some (_,_)=some (_,_);rw[List.flatten_cons,List.length_append,Nat.add_assoc]; rfl
theorem ku{d:Bs}:∀{k a:Nat} {l:List Pl} {e:Nat},Xm d k a=some (l,e)→a≤d.length→∃xs:List Bs,xs.length=k∧(∀x∈xs,wm x=true)∧l=yY a xs∧d.drop a=xs.flatten++d.drop e∧l.map (UO d)=xs∧e=a+xs.flatten.length
 | 0,a,l,e,h,ha=>by
  obtain⟨rfl,rfl⟩:=Prod.mk.inj (Option.some.inj h);exact⟨[],rfl,fun x hx=>by simp at hx,rfl,rfl,rfl,rfl⟩
 | k+1,a,l,e,h,ha=>by
  unfold Xm at h;split at h
  ·next h2=>
   have hl:lead (d.drop a)=((lead (d.drop a)).1,true):=by rw[←h2]
   have hp:=WC hl;have hv:=(UL.1 hl).2;rw[List.length_drop] at hp;cases hx:Xm d k (a+(lead (d.drop a)).1) with
   | none=>rw[hx] at h; cases h
   | some x=>
    obtain⟨l2,e2⟩:=x;rw[hx] at h;obtain⟨rfl,rfl⟩:=Prod.mk.inj (Option.some.inj h);obtain⟨xs,i1,i2,i3,i4,i5,i6⟩:=ku hx (by omega);have hlen:((d.drop a).take (lead (d.drop a)).1).length=(lead (d.drop a)).1:=by rw[List.length_take,List.length_drop]; omega
    refine⟨(d.drop a).take (lead (d.drop a)).1::xs,by rw[List.length_cons,i1],fun y hy=>?_,?_,?_,?_,?_⟩
    ·rcases List.mem_cons.1 hy with rfl | hy
     ·exact hv
     ·exact i2 y hy
    ·show _=(⟨a,_⟩:Pl)::yY _ xs;rw[hlen,i3]
    ·rw[List.flatten_cons,List.append_assoc, ←i4, ←List.drop_drop,List.take_append_drop]
    ·rw[List.map_cons,i5]; rfl
    ·rw[List.flatten_cons,List.length_append,hlen,i6,Nat.add_assoc]
  ·cases h
theorem Uc{t:Int}{x:Nat × Nat × Nat}(h:wE t=some x):t≠1∧t≠28∧t≠16∧1≤x.2.1:=by
 unfold wE at h;split at h
 ·obtain rfl:=Option.some.inj h; exact⟨by omega,by omega,by omega,Nat.le_refl _⟩
 ·split at h
  ·obtain rfl:=Option.some.inj h; exact⟨by omega,by omega,by omega,Nat.le_refl _⟩
  ·split at h
   ·obtain rfl:=Option.some.inj h; exact⟨by omega,by omega,by omega,Nat.le_refl _⟩
   ·split at h
    ·obtain rfl:=Option.some.inj h; exact⟨by omega,by omega,by omega,by decide⟩
    ·cases h
/-- data in three parts: bytes, names, bytes -/
structure Form(t:Int)(d:Bs)(P:Bs)(xs:List Bs)(Z:Bs):Prop where
 shape:wE t=some (P.length,xs.length,Z.length)
 eq:d=P++xs.flatten++Z
 wm:∀x∈xs,wm x=true
theorem Form.xX{t:Int}{d P:Bs}{xs:List Bs}{Z:Bs}(h:Form t d P xs Z):xX t d=some (yY P.length xs):=by
 unfold Proofs.YtekgciopamkjlaaGreat.xX;rw[h.shape];have:=Jr xs P Z h.wm;rw[←h.eq] at this;have hl:d.length=P.length+xs.flatten.length+Z.length:=by rw[h.eq,List.length_append,List.length_append]
 simp only;rw[if_neg (by omega),this];simp only;rw[if_pos hl]
theorem Form.ok{t:Int}{d P:Bs}{xs:List Bs}{Z:Bs}(h:Form t d P xs Z)(hd:d.length≤1000):Zk t d=true∧prt t d=yY P.length xs:=by
 have hk:=Uc h.shape;have h1:Zk t d=true:=by
  unfold Zk;rw[if_neg (by omega),if_neg hk.1,if_neg hk.2.1,if_neg hk.2.2.1,h.xX]; rfl
 refine⟨h1,?_⟩;unfold prt;rw[if_pos h1,h.xX]; rfl
theorem WH{t:Int}{d:Bs}(h:Zk t d=true):d.length≤1000:=by
 unfold Zk at h;split at h
 ·cases h
 ·omega
theorem JU{t:Int}{d:Bs}(h:Zk t d=true){x:Nat × Nat × Nat}(hs:wE t=some x):∃P xs Z,Form t d P xs Z∧(prt t d).map (UO d)=xs:=by
 have hk:=Uc hs;have h0:=h;have hlen:=WH h;unfold Zk at h;rw[if_neg (by omega),if_neg hk.1,if_neg hk.2.1,if_neg hk.2.2.1] at h;have hprt:∀l,xX t d=some l→prt t d=l:=fun l hl=>by unfold prt; rw[if_pos h0,hl]; rfl
 obtain⟨a,k,b⟩:=x;unfold xX at h hprt;rw[hs] at h hprt;simp only at h hprt;split at h
 ·cases h
 ·next ha=>
  rw[if_neg ha] at hprt;split at h
  ·next l e hp=>
   rw[hp] at hprt;split at h
   ·next he=>
    obtain⟨xs,i1,i2,i3,i4,i5,i6⟩:=ku hp (by omega);have hpe:=hprt l (by simp only; rw[if_pos he]);refine⟨d.take a,xs,d.drop e,⟨?_,?_,i2⟩,by rw[hpe]; exact i5⟩
    ·rw[hs,i1,List.length_take,List.length_drop];congr 2
     ·omega
     ·congr 1; omega
    ·rw[List.append_assoc, ←i4,List.take_append_drop]
   ·cases h
  ·cases h
theorem WB{t:Int}{d:Bs}(hs:wE t=none):prt t d=[]:=by
 unfold prt xX;rw[hs];split<;>rfl
theorem j4:∀(xs zs:List Bs) (P Z:Bs),zs.length=xs.length→splice (P++xs.flatten++Z) P.length (yY P.length xs) zs=zs.flatten++Z
 | [],zs,P,Z,h=>by
  have:zs=[]:=List.length_eq_zero_iff.1 h;subst this;show(P++[]++Z).drop P.length=[]++Z;rw[List.append_nil,List.drop_left]; rfl
 | x::xs,[],P,Z,h=>by simp at h
 | x::xs,y::zs,P,Z,h=>by
  have ih:=j4 xs zs (P++x) Z (by simpa using h);have e:P++(x::xs).flatten++Z=P++x++xs.flatten++Z:=by rw[List.flatten_cons,List.append_assoc P x]
  rw[List.length_append] at ih;rw[e];show((P++x++xs.flatten++Z).drop P.length).take (P.length-P.length)++y++splice (P++x++xs.flatten++Z) (P.length+x.length) (yY (P.length+x.length) xs) zs=_;rw[ih,Nat.sub_self,List.take_zero,List.nil_append,List.flatten_cons,List.append_assoc]
theorem Form.splice{t:Int}{d P:Bs}{xs:List Bs}{Z:Bs}(h:Form t d P xs Z){zs:List Bs}(hy:zs.length=xs.length):splice d 0 (yY P.length xs) zs=P++zs.flatten++Z:=by
 have hk:=(Uc h.shape).2.2.2;have:=j4 xs zs P Z hy;rw[←h.eq] at this;cases xs with
 | nil=>simp at hk
 | cons x xs=>
  cases zs with
  | nil=>simp at hy
  | cons y zs=>
   have e1:Proofs.YtekgciopamkjlaaGreat.splice d P.length (yY P.length (x::xs)) (y::zs)=y++Proofs.YtekgciopamkjlaaGreat.splice d (P.length+x.length) (yY (P.length+x.length) xs) zs:=by
    show(d.drop P.length).take (P.length-P.length)++y++_=_;rw[Nat.sub_self,List.take_zero]; rfl
   rw[e1] at this;show(d.drop 0).take (P.length-0)++y++Proofs.YtekgciopamkjlaaGreat.splice d (P.length+x.length) (yY (P.length+x.length) xs) zs=_;rw[List.append_assoc,this,List.drop_zero,Nat.sub_zero,List.append_assoc];congr 1;rw[h.eq,List.append_assoc,List.take_left]
/-- folded -/
theorem Form.fold{t:Int}{d P:Bs}{xs:List Bs}{Z:Bs}(h:Form t d P xs Z):Form t (P++(xs.map zM).flatten++Z) P (xs.map zM) Z:=by
 refine⟨by rw[List.length_map]; exact h.shape,rfl,fun x hx=>?_⟩;obtain⟨y,hy,rfl⟩:=List.mem_map.1 hx;rw[uX]; exact h.wm y hy
theorem jA(xs:List Bs):(xs.map zM).map List.length=xs.map List.length:=by
 rw[List.map_map]; exact List.map_congr_left fun x _=>Wp x
theorem sN(xs zs:List Bs)(h:xs.map List.length=zs.map List.length):xs.flatten.length=zs.flatten.length:=by
 rw[List.length_flatten,List.length_flatten,h]
theorem Form.cut{t:Int}{d P:Bs}{xs:List Bs}{Z:Bs}(h:Form t d P xs Z)(hd:d.length≤1000):(prt t d).map (UO d)=xs:=by
 rw[(h.ok hd).2];have:=Jr xs P Z h.wm;rw[←h.eq] at this;obtain⟨zs,_,_,i3,i4,i5,i6⟩:=ku this (by rw[h.eq,List.length_append,List.length_append]; omega);rw[i5];have hm:yY P.length xs=yY P.length zs:=i3
 -- the same lengths, the same bytes
 have key:∀(a:Nat) (xs zs:List Bs) (Z Z':Bs),yY a xs=yY a zs→xs.flatten++Z=zs.flatten++Z'→xs=zs:=by
  intro a xs
  induction xs generalizing a with
  | nil=>
   intro zs Z Z' h1 _;cases zs with
   | nil=>rfl
   | cons y zs=>cases h1
  | cons x xs ih=>
   intro zs Z Z' h1 h2;cases zs with
   | nil=>cases h1
   | cons y zs=>
    have h3:(⟨a,x.length⟩:Pl)::yY (a+x.length) xs=⟨a,y.length⟩::yY (a+y.length) zs:=h1;obtain⟨h4,h5⟩:=List.cons.inj h3;have hl:x.length=y.length:=congrArg Pl.n h4;rw[List.flatten_cons,List.flatten_cons,List.append_assoc,List.append_assoc] at h2;obtain⟨h6,h7⟩:=List.append_inj h2 hl;rw[h6,ih _ _ _ _ (by rw[hl] at h5; rw[←hl] at h5; rw[h5,hl]) h7]
 refine(key P.length xs zs Z (d.drop (P.length+xs.flatten.length)) hm ?_).symm;rw[←i4,h.eq,List.append_assoc,List.drop_left]
theorem Form.Qx{t:Int}{d P:Bs}{xs:List Bs}{Z:Bs}(h:Form t d P xs Z):(P++(xs.map zM).flatten++Z).length=d.length:=by
 rw[h.eq,List.length_append,List.length_append,List.length_append,List.length_append,sN _ _ (jA xs)]
theorem kW{t:Int}{d P:Bs}{xs:List Bs}{Z:Bs}(h:Form t d P xs Z)(hd:d.length≤1000):W9 t d=P++(xs.map zM).flatten++Z:=by
 have h1:=h.cut hd;unfold W9;have:((prt t d).map fun p=>zM (UO d p))=xs.map zM:=by rw[←h1,List.map_map]; rfl
 rw[this,(h.ok hd).2];exact h.splice (by rw[List.length_map])
theorem kV{t:Int}{d:Bs}(hs:wE t=none):W9 t d=d:=by
 unfold W9;rw[WB hs]; rfl
/-- data folded is as good -/
theorem kU{t:Int}{d:Bs}(h:Zk t d=true):Zk t (W9 t d)=true∧prt t (W9 t d)=prt t d∧(W9 t d).length=d.length:=by
 cases hs:wE t with
 | none=>rw[kV hs]; exact⟨h,rfl,rfl⟩
 | some x=>
  have hd:=WH h;obtain⟨P,xs,Z,hf,_⟩:=JU h hs;rw[kW hf hd];have hl:=hf.Qx;obtain⟨h1,h2⟩:=hf.fold.ok (by omega);exact⟨h1,by rw[h2,(hf.ok hd).2,Qn (jA xs)],hl⟩
theorem jH{r:RR}{P:Bs}{xs:List Bs}{Z:Bs}(h:Form r.t r.d P xs Z)(hd:r.d.length≤1000){ids:List Int}(hi:ids.length=xs.length):Ve r ids=P++(ids.map xP).flatten++Z:=by
 unfold Ve;rw[(h.ok hd).2];exact h.splice (by rw[List.length_map,hi])
theorem jG{r:RR}(hs:wE r.t=none)(ids:List Int):Ve r ids=r.d:=by
 unfold Ve;rw[WB hs];cases ids<;>rfl
theorem gy:∀(ids:List Int),(ids.map xP).flatten.length=4*ids.length
 | []=>rfl
 | i::l=>by rw[List.map_cons,List.flatten_cons,List.length_append,gy l,List.length_cons,xP,ZL]; omega
theorem dR:∀(a:Nat) (xs:List Bs),WA ((yY a xs).map fun p=>4-(p.n:Int))=4*(xs.length:Int)-(xs.flatten.length:Int)
 | _,[]=>rfl
 | a,x::xs=>by
  show WA ((4-(x.length:Int))::(yY (a+x.length) xs).map fun p=>4-(p.n:Int))=_;rw[VR,dR,List.flatten_cons,List.length_append,List.length_cons]
  push_cast
  omega
theorem QH{r:RR}(h:Zk r.t r.d=true){ids:List Int}(hi:ids.length=(prt r.t r.d).length):((Ve r ids).length:Int)=vF r-2:=by
 unfold vF;cases hs:wE r.t with
 | none=>rw[jG hs,WB hs]; show(r.d.length:Int)=2+r.d.length+0-2; omega
 | some x=>
  have hd:=WH h;obtain⟨P,xs,Z,hf,_⟩:=JU h hs;have hp:=(hf.ok hd).2;rw[hp,fI] at hi;rw[jH hf hd hi,hp,dR,hf.eq];rw[List.length_append,List.length_append,List.length_append,List.length_append,gy,hi]
  push_cast
  omega
theorem Br{r:RR}(h:Zk r.t r.d=true):2≤vF r:=by
 have:=QH h (ids:=List.replicate (prt r.t r.d).length 0) (by simp);omega
theorem Qe:∀{l:List RR} {ids:List Int},(∀r∈l,Zk r.t r.d=true)→ids.length=((l.map ZF).flatten).length→((X8 l ids).length:Int)=WA (l.map vF)
 | [],_,_,_=>rfl
 | r::l,ids,h,hi=>by
  rw[List.map_cons,List.flatten_cons,List.length_append,ZF,List.length_map] at hi;have hd:Ve r ids=Ve r (ids.take (prt r.t r.d).length):=by
   unfold Ve;have key:∀(d:Bs) (l:List Pl) (a:Nat) (xs:List Bs),splice d a l xs=splice d a l (xs.take l.length):=by
    intro d l
    induction l with
    | nil=>intro a xs; cases xs<;>rfl
    | cons p l ih=>
     intro a xs;cases xs with
     | nil=>rfl
     | cons x xs=>
      show _=splice d a (p::l) (x::xs.take l.length);show(d.drop a).take (p.at_-a)++x++splice d (p.at_+p.n) l xs=(d.drop a).take (p.at_-a)++x++splice d (p.at_+p.n) l (xs.take l.length);rw[←ih]
   rw[key,List.map_take]
  have h1:=QH (h r (by simp)) (ids:=ids.take (prt r.t r.d).length) (by rw[List.length_take]; omega);have ih:=Qe (l:=l) (ids:=ids.drop (prt r.t r.d).length) (fun x hx=>h x (List.mem_cons_of_mem _ hx)) (by rw[List.length_drop]; omega);show((xO 2 (Ve r ids).length++Ve r ids++X8 l (ids.drop (prt r.t r.d).length)).length:Int)=_;rw[List.length_append,List.length_append,ZL,List.map_cons,VR, ←ih];rw[←hd] at h1
  push_cast
  omega
theorem XY{s:St}{ids:List Int}(h:∀r∈s.rrs,Zk r.t r.d=true)(hi:ids.length=(Ze s).length):((vB s ids).length:Int)=Zx s:=by
 have h1:ids.length=((s.rrs.map ZF).flatten).length+2:=by rw[hi]; rfl
 have:=Qe (l:=s.rrs) (ids:=ids.drop 2) h (by rw[List.length_drop]; omega);unfold vB Zx xP;simp only[List.length_append,ZL];rw[←this]
 push_cast
 omega
theorem vL{s:St}(h:Wh s=true):∀r∈s.rrs,Zk r.t r.d=true∧r.t=s.typ:=fun r hr=>by
 unfold Wh at h;simp only[Bool.and_eq_true] at h;have:=List.all_eq_true.1 h.2 r hr;unfold vY at this;simp only[Bool.and_eq_true,decide_eq_true_eq] at this;exact⟨this.2,this.1.1.2⟩
theorem U4{s:St}(h:Wh s=true):wm s.name=true∧wm s.zone=true∧1≤s.typ∧s.typ≤65535∧0≤s.kind∧s.kind≤2∧s.rrs.length≤32∧(0<s.rrs.length↔s.kind=0):=by
 unfold Wh at h;simp only[Bool.and_eq_true,decide_eq_true_eq,beq_iff_eq] at h;obtain⟨⟨⟨⟨⟨h1,h2⟩,h3⟩,h4⟩,h5⟩,_⟩:=h;exact⟨h1,h2,h3.1,h3.2.1,h3.2.2.1,h3.2.2.2,h4,decide_eq_decide.1 h5⟩
theorem sK{s:St}(h:Wh s=true):Wh (Zh s)=true∧Zx (Zh s)=Zx s:=by
 have hn:=U4 h;have hd:=vL h;constructor
 ·unfold Wh Zh;simp only[Bool.and_eq_true,decide_eq_true_eq,beq_iff_eq,List.length_map];refine⟨⟨⟨⟨⟨by rw[uX]; exact hn.1,by rw[uX]; exact hn.2.1⟩,⟨hn.2.2.1,hn.2.2.2.1,hn.2.2.2.2.1,hn.2.2.2.2.2.1⟩⟩,hn.2.2.2.2.2.2.1⟩,decide_eq_decide.2 hn.2.2.2.2.2.2.2⟩,List.all_eq_true.2 fun r hr=>?_⟩;obtain⟨x,hx,rfl⟩:=List.mem_map.1 hr;obtain⟨h1,h2⟩:=hd x hx;unfold vY UG;simp only[Bool.and_eq_true,decide_eq_true_eq,beq_self_eq_true,uX,hn.1,and_self,true_and];exact⟨⟨h2,trivial⟩,(kU h1).1⟩
 ·unfold Zx Zh;simp only[List.map_map];congr 2;refine List.map_congr_left fun r hr=>?_
  obtain⟨h2,h3,h4⟩:=kU (hd r hr).1;show vF ⟨zM s.name,r.t,1,0,W9 r.t r.d⟩=vF r;unfold vF;simp only;rw[h3,h4]
theorem bR(Y:Bs)(j k:Nat):(⟨Y.toArray⟩:ByteArray).extract j k=⟨((Y.drop j).take (k-j)).toArray⟩:=by
 apply ByteArray.ext;rw[ByteArray.data_extract];apply Array.toList_inj.1;simp
theorem GL(Y Z:Bs):(⟨Y.toArray⟩:ByteArray)++(⟨Z.toArray⟩:ByteArray)=⟨(Y++Z).toArray⟩:=by
 apply ByteArray.ext;rw[ByteArray.data_append];simp
theorem Yn{E:Env}{x i:Operand}{Y:Bs}{j:Nat}{q:IntKind}(h1:ev E x=sv Y)(h2:ev E i= .int q (j:Int))(h:j≤Y.length):zB (ev E) (.sslc x (some i) none)=some (sv (Y.drop j)):=by
 rw[BQ (s:=⟨Y.toArray⟩) h1 h2 h,Xt,bR,List.take_of_length_le (by rw[List.length_drop]; omega)]
theorem pG{E:Env}{x i i':Operand}{Y:Bs}{j k:Nat}{q q':IntKind}(h1:ev E x=sv Y)(h2:ev E i= .int q (j:Int))(h2':ev E i'= .int q' (k:Int))(h:j≤k∧k≤Y.length):zB (ev E) (.sslc x (some i) (some i'))=some (sv ((Y.drop j).take (k-j))):=by
 rw[Dw (s:=⟨Y.toArray⟩) h1 h2 h2' h,bR]
theorem KH{E:Env}{x y:Operand}{Y Z:Bs}(h1:ev E x=sv Y)(h2:ev E y=sv Z)(h:Y.length+Z.length≤9223372036854775807):zB (ev E) (.bin .add x y)=some (sv (Y++Z)):=by
 simp only[zB,h1,h2,vE,iy,Xt];rw[if_pos h,GL]
theorem Jc{Y Z:Bs}:(⟨Y.toArray⟩:ByteArray)=⟨Z.toArray⟩↔Y=Z:=⟨fun h=>by have:=congrArg (fun b:ByteArray=>b.data.toList) h; simpa using this,fun h=>by rw[h]⟩
theorem aY{E:Env}{S:zL}{t u s q:Tmp}{v v' v'' v3:Value}(hv:E t=v)(hv':E u=v')(hv'':E s=v'')(hv3:E q=v3):Y4 Tryz.prog #[.tmp t,.tmp u,.tmp s,.tmp q] E S (.tuple #[v,v',v'',v3]):=fun fn F w tmps h _ he=>by
 rw[←hv, ←hv', ←hv'', ←hv3, ←he];simp[results,h,Sem.run_bind,Sem.run,Result.andThen,pure]
/-- append(b, s...) -/
theorem Df{r:Option Nat}{n:Nat}{K:Env→zL→Prop}{E:Env}{S G:zL}{d:Option Tmp}{e bytes:Nat}{z:List Value}{s x:Operand}{v:Value}{L Y:Bs}{H:List Chunk}[hp:Pick S H G](hs:ev E s=v)(hx:ev E x=sv Y)(hL:Zg e v L H)
 (hz:enc (0:UInt8)=z) (hb:(L.length+Y.length)*bytes≤140737488355328) (hl:L.length+Y.length≤9223372036854775807)
 (h:∀v' H',Zg e v' (L++Y) H'→K (Zm d v' E) (H'::G)):YO Tryz.prog r n d (.app e 1 bytes z s x) K E S:=by
 refine Dc (α:=UInt8) hs hx hL (fun F w _=>⟨?_,?_⟩) rfl (0:UInt8) hz hb hl h
 ·show(pure (⟨Y.toArray⟩:ByteArray).size:Sem Nat).run Tryz.prog w=_;simp[pure,Xt]
 ·show(pure (((⟨Y.toArray⟩:ByteArray).extract 0 Y.length).data.map fun b=>Value.int .u8 b.toNat):Sem (Array Value)).run Tryz.prog w=_;rw[bR,List.drop_zero,Nat.sub_zero,List.take_length];have:(Y.toArray.map fun b=>Value.int .u8 b.toNat)=(cells Y).toArray:=by
   apply Array.toList_inj.1;rw[UU]; simp
  rw[this]; rfl
def Bv(t:Int):Value:=match wE t with
 | some (a,k,b)=> .tuple #[.int .i64 (a:Int),.int .i64 (k:Int),.int .i64 (b:Int),.bool true]
 | none=> .tuple #[.int .i64 0,.int .i64 0,.int .i64 0,.bool false]
theorem dY(t:Int):Tri Tryz.prog 143 #[.int .i64 t] [] (fun r S=>r=Bv t∧S=[]):=by
 refine Tri.forget (zq Tryz.NY (Nat.le_of_ble_eq_true rfl) ?_);unfold Tryz.Il;unfold Bv wE;refine ze (z8 (yp pC (yp pC (yp pC (yp pC (zf (za (ze (ze (z8 (yp (pI rfl) (zf (za (zu (ze (ze (z8 (yp (wB rfl rfl) (yp (pB rfl) (zf (za ?_)))))))))))))))))))));by_cases h1:t=2
 ·rw[decide_eq_true h1,if_pos (.inl h1)];refine zC rfl (zl (za (zC rfl (ze (z8 (yp pC (yp pC (yp pC (yp pC (zf (za (zJ (bret (zV ?_))))))))))))));exact zI (aY rfl rfl rfl rfl) ⟨_,.of,rfl,rfl⟩
 rw[decide_eq_false h1];refine zo rfl (ze (z8 (yp (wB rfl rfl) (yp (pB rfl) (zf (za ?_))))));by_cases h2:t=5
 ·rw[decide_eq_true h2,if_pos (.inr (.inl h2))];refine zC rfl (zl (za (zC rfl (ze (z8 (yp pC (yp pC (yp pC (yp pC (zf (za (zJ (bret (zV ?_))))))))))))));exact zI (aY rfl rfl rfl rfl) ⟨_,.of,rfl,rfl⟩
 rw[decide_eq_false h2];refine zo rfl (z8 (yp (wB rfl rfl) (yp (pB rfl) (zf (za ?_)))));by_cases h3:t=12
 ·rw[decide_eq_true h3,if_pos (.inr (.inr h3))];refine zC rfl (ze (z8 (yp pC (yp pC (yp pC (yp pC (zf (za (zJ (bret (zV ?_)))))))))));exact zI (aY rfl rfl rfl rfl) ⟨_,.of,rfl,rfl⟩
 rw[decide_eq_false h3,if_neg (show ¬(t=2∨t=5∨t=12) from by omega)];refine zo rfl (ze (z8 (yp (wB rfl rfl) (yp (pB rfl) (zf (za ?_))))));by_cases h4:t=15
 ·rw[decide_eq_true h4,if_pos h4];refine zC rfl (ze (z8 (yp pC (yp pC (yp pC (yp pC (zf (za (zJ (bret (zV ?_)))))))))));exact zI (aY rfl rfl rfl rfl) ⟨_,.of,rfl,rfl⟩
 rw[decide_eq_false h4,if_neg h4];refine zo rfl (ze (z8 (yp (wB rfl rfl) (yp (pB rfl) (zf (za ?_))))));by_cases h5:t=33
 ·rw[decide_eq_true h5,if_pos h5];refine zC rfl (ze (z8 (yp pC (yp pC (yp pC (yp pC (zf (za (zJ (bret (zV ?_)))))))))));exact zI (aY rfl rfl rfl rfl) ⟨_,.of,rfl,rfl⟩
 rw[decide_eq_false h5,if_neg h5];refine zo rfl (ze (z8 (yp (wB rfl rfl) (yp (pB rfl) (zf (za ?_))))));by_cases h6:t=6
 ·rw[decide_eq_true h6,if_pos h6];refine zC rfl (ze (z8 (yp pC (yp pC (yp pC (yp pC (zf (za (zJ (bret (zV ?_)))))))))));exact zI (aY rfl rfl rfl rfl) ⟨_,.of,rfl,rfl⟩
 rw[decide_eq_false h6,if_neg h6];refine zo rfl (zl (zW (za (ze (z8 (yp pC (yp pC (yp pC (yp pC (zf (za (zJ ?_))))))))))));exact zI (aY rfl rfl rfl rfl) ⟨_,.of,rfl,rfl⟩
theorem Qf(t:Int)(d:Bs)(hd:d.length<2 ^ 40):Tri Tryz.prog 97 #[.int .i64 t,sv d] [] (fun r S=>∃v L H,r= .tuple #[v,.bool (xX t d).isSome]∧Zg 157 v (L:List Pl) H∧(∀l,xX t d=some l→L=l)∧S=[H]):=by
 refine Tri.forget (zq Tryz.RB (Nat.le_of_ble_eq_true rfl) ?_);unfold Tryz.TB;refine ze (z8 (yp pC (yp pC (zf (za (ze (z8 (yp (pI rfl) ?_))))))));refine zh (zk (dY t) rfl rfl fun r S' h=>?_);obtain⟨rfl,rfl⟩:=h;have hno:∀{v:Value},(xX t d)=none→v= .tuple #[.slice none 0 0,.bool false]→∀S,∃S'',zG S S''∧∃w L H,v= .tuple #[w,.bool (xX t d).isSome]∧Zg 157 w (L:List Pl) H∧(∀l,xX t d=some l→L=l)∧S''=[H]:=fun h hv S=>⟨[[]],⟨S.flatten,by simp⟩,_,[],[],by rw[h]; exact hv,.nil,fun l hl=>by(rw[h] at hl; cases hl),rfl⟩
 unfold Bv;cases hs:wE t with
 | none=>
  have hp:xX t d=some []:=by unfold xX; rw[hs]
  simp only;refine yp (pU rfl) (yp (pExt rfl rfl) (yp (pExt rfl rfl) (yp (pExt rfl rfl) (yp (pExt rfl rfl) (yp (pI rfl) (yp (pI rfl) (yp (pI rfl) (yp (pB rfl) (zf (za (ze (ze (z8 (yp (pB rfl) (yp (Za rfl) (zf (za (zC rfl (ze (z8 (yp pC (yp pC (zf (za (zJ (zV ?_))))))))))))))))))))))))));exact zI (KG rfl rfl) ⟨[[]],⟨[],by simp⟩,_,[],[],by rw[hp]; rfl,.nil,fun l hl=>by rw[hp] at hl; exact Option.some.inj hl,rfl⟩
 | some x=>
  obtain⟨a,k,b⟩:=x;have hp:xX t d=if d.length<a then none else match Xm d k a with
   | some (l,e)=>if d.length=e+b then some l else none
   | none=>none:=by unfold xX; rw[hs]; try rfl
  have hab:a≤6∧k≤2∧b≤20:=xC hs;simp only;refine yp (pU rfl) (yp (pExt rfl rfl) (yp (pExt rfl rfl) (yp (pExt rfl rfl) (yp (pExt rfl rfl) (yp (pI rfl) (yp (pI rfl) (yp (pI rfl) (yp (pB rfl) (zf (za (ze (ze (z8 (yp (pB rfl) (yp (Za rfl) (zf (za (zo rfl (zl (za (ze (ze (z8 (yp (pT rfl) (yp (Wm rfl) (yp (pI rfl) (yp (ZE rfl rfl) (zf (za ?_)))))))))))))))))))))))))))));rw[Xt];by_cases h1:d.length<a
  ·rw[decide_eq_true (show(d.length:Int)<(a:Int) from by omega)];rw[if_pos h1] at hp;refine zC rfl (ze (z8 (yp pC (yp pC (zf (za (zJ (zV ?_))))))));exact zI (KG rfl rfl) (hno hp rfl _)
  rw[decide_eq_false (show ¬(d.length:Int)<(a:Int) from by omega)];rw[if_neg h1] at hp;refine zo rfl (zl (za (ze (z8 (yp (pI rfl) (yp (pI rfl) (zf (za (ze (ze (z8 (yp (pI rfl) (yp pC (zf (za (zu ?_))))))))))))))));refine Z7 (σ:=Nat) (fun i E S=>∃(v:Value) (L:List Pl) (H:List Chunk) (e:Nat),Has E [(1,sv d),(8,.int .i64 (b:Int)),(10,.int .i64 (e:Int)),(27,.int .i64 (k:Int)),(28,.int .i64 (i:Int))]∧E 4=v∧Zg 157 v L H∧L.length=i∧i≤k∧e≤d.length∧Xm d k a=(Xm d (k-i) e).map (fun x=>(L++x.1,x.2))∧zG S [H]) (fun i=>k-i) 0
   ⟨_,[],[],a,⟨rfl,rfl,rfl,rfl,rfl,trivial⟩,rfl,.nil,rfl,Nat.zero_le _,by omega,by cases Xm d (k-0) a<;>rfl,⟨[],by simp⟩⟩ fun i E S ⟨v,L,H,e,hE,hE4,hL,hLl,hi,he,hx,hJ⟩=>?_
  obtain⟨la,lc,rfl⟩:=hL.isSlice;have hE2:Has E [(1,sv d),(4,.slice la L.length lc),(8,.int .i64 (b:Int)),(10,.int .i64 (e:Int)),(27,.int .i64 (k:Int)),(28,.int .i64 (i:Int))]:=⟨hE.1,hE4,hE.2⟩
  clear hE hE4;obtain⟨E0,e0⟩:=zm hE2; subst e0; clear hE2;refine zn hJ (ze (z8 (yp (ZE rfl rfl) (zf (za (ze ?_))))));refine zR rfl (fun h2=>?_) (fun h2=>?_)
  ·obtain⟨m,hm⟩:∃m,k-i=m+1:=⟨k-i-1,by omega⟩
   rw[hm,Xm] at hx;refine zl (za (ze (zu (ze (z8 (yp (pT rfl) (yp (pI rfl) (yp (Yn (Y:=d) rfl rfl he) ?_))))))))
   skip
   refine zh (zk (rA (d.drop e) (by rw[List.length_drop]; omega)) rfl rfl fun r S' h=>?_);obtain⟨rfl,rfl⟩:=h;cases hb:(lead (d.drop e)).2 with
   | false=>
    rw[hb,if_neg (by decide)] at hx;rw[hx] at hp;refine yp (pU rfl) (yp (pExt rfl rfl) (yp (pExt rfl rfl) (yp (pI rfl) (yp (pB rfl) (zf (za (ze (ze (z8 (yp (pB rfl) (yp (Za rfl) (zf (za (zC rfl (ze (z8 (yp pC (yp pC (zf (za (zJ (zV (bret (zV (zV (bret (zV ?_)))))))))))))))))))))))))));exact zI (KG rfl rfl) (hno hp rfl _)
   | true=>
    rw[hb,if_pos rfl] at hx;have hl:=WC (show lead (d.drop e)=((lead (d.drop e)).1,true) from by rw[←hb]);rw[List.length_drop] at hl;generalize (lead (d.drop e)).1=n at hx hl;refine yp (pU rfl) (yp (pExt rfl rfl) (yp (pExt rfl rfl) (yp (pI rfl) (yp (pB rfl) (zf (za (ze (ze (z8 (yp (pB rfl) (yp (Za rfl) (zf (za (zo rfl (zl (za (ze (z8 (yp (pS rfl) (yp (pI rfl) (yp (pI rfl) (yp (Zr (vH rfl) (vH rfl)) ?_))))))))))))))))))))));refine zh (wJ (⟨e,n⟩:Pl) rfl rfl (by decide) (by decide) rfl fun p43=>?_);refine zh (V6 (Y:=[(⟨e,n⟩:Pl)]) rfl rfl hL (.lit (by repeat (first | exact List.mem_cons_self | apply List.mem_cons_of_mem)) rfl) rfl (⟨0,0⟩:Pl) rfl (by simp; omega) (by simp; omega) fun v2 H2 hL2=>?_);obtain⟨la2,lc2,rfl⟩:=hL2.isSlice;refine yp (pS rfl) (zf (za (z8 (yp (pI rfl) (yp (pI rfl) (yp (Zj rfl rfl (by omega)) (yp (pI rfl) (zf (zW (za (z8 (yp (Z8 rfl rfl (by omega)) (yp (pI rfl) (zf (za ?_)))))))))))))));refine⟨i+1,⟨.slice la2 (L++[(⟨e,n⟩:Pl)]).length lc2,L++[⟨e,n⟩],H2,e+n,⟨rfl,rfl,rfl,rfl,rfl,trivial⟩,rfl,hL2,by simp[hLl],by omega,by omega,?_,.of⟩,by omega⟩;rw[hx,Option.map_map,show k-(i+1)=m from by omega];congr 1;funext x;simp
  ·obtain rfl:i=k:=by omega
   rw[Nat.sub_self,Xm] at hx;rw[hx] at hp;simp only[Option.map_some,List.append_nil] at hp;refine zZ (zA (zA (Z0 (za (ze (z8 (yp (pS rfl) (yp (pT rfl) (yp (Wm rfl) (yp (pI rfl) ?_))))))))));rw[Xt];refine yp (Zy rfl rfl (by omega)) (yp (pI rfl) (yp (wB rfl rfl) (yp (pS rfl) (yp (pB rfl) (zf (za (zJ ?_)))))));by_cases h3:d.length=e+b
   ·rw[if_pos h3] at hp;rw[decide_eq_true (show(d.length:Int)-(e:Int)=(b:Int) from by omega)];exact zI (KG rfl rfl) ⟨_,.of,_,L,H,by rw[hp]; rfl,hL,fun l hl=>by rw[hp] at hl; exact Option.some.inj hl,rfl⟩
   ·rw[if_neg h3] at hp;rw[decide_eq_false (show ¬(d.length:Int)-(e:Int)=(b:Int) from by omega)];exact zI (KG rfl rfl) ⟨_,.of,_,L,H,by rw[hp]; rfl,hL,fun l hl=>by(rw[hp] at hl; cases hl),rfl⟩
theorem qX{f:Nat}{d:Bs}{a:Nat}{b:UInt8}(h:d[a]?=some b):mg (f+1) d a=mg f d (a+1+b.toNat):=by rw[mg,h]
theorem J8{f:Nat}{d:Bs}{a:Nat}(h:d.length≤a):mg (f+1) d a=(a==d.length):=by rw[mg,List.getElem?_eq_none h]
theorem svE(Y:Bs):decide ((⟨Y.toArray⟩:ByteArray)=⟨#[]⟩)=decide (Y=[]):=by
 refine decide_eq_decide.2 ?_;exact Jc (Z:=[])
theorem BJ(d:Bs)(hd:d.length<2 ^ 40):Tri Tryz.prog 142 #[sv d] [] (fun r S=>r= .bool (txt d)∧S=[]):=by
 refine Tri.forget (zq Tryz.NZ (Nat.le_of_ble_eq_true rfl) ?_);unfold Tryz.Im;refine ze (z8 (yp pC (zf (za (ze (ze (z8 (yp (pT rfl) (yp (iP rfl rfl) (zf (za ?_)))))))))));rw[svE];by_cases h0:d=[]
 ·rw[decide_eq_true h0];subst h0;refine zC rfl (ze (z8 (yp pC (zf (za (zJ (zV ?_)))))));exact zI (rB rfl) ⟨_,.of,rfl,rfl⟩
 rw[decide_eq_false h0];have ht:txt d=mg (d.length+1) d 0:=by unfold txt; rw[show(d !=[])=true from by simpa using h0]; rfl
 refine zo rfl (zl (za (ze (zu ?_))));refine Z7 (σ:=Nat) (fun a E S=>Has E [(0,sv (d.drop a))]∧a≤d.length∧(∃f,txt d=mg f d a∧d.length+1≤f+a)∧zG S []) (fun a=>d.length-a) 0 ⟨⟨rfl,trivial⟩,Nat.zero_le _,⟨_,ht,Nat.le_refl _⟩,.of⟩ fun a E S ⟨hE,ha,⟨f,hf,hfl⟩,hJ⟩=>?_
 obtain⟨f,rfl⟩:∃g,f=g+1:=⟨f-1,by omega⟩
 obtain⟨E0,e0⟩:=zm hE; subst e0; clear hE;refine zn hJ ?_;have hdl:(d.drop a).length=d.length-a:=List.length_drop;refine ze (ze (z8 (yp (pT rfl) (yp (Ru rfl rfl) (zf (za ?_))))));rw[svE];by_cases h1:a<d.length
 ·have hy:d[a]?=some d[a]:=List.getElem?_eq_getElem h1;have hy0:(d.drop a)[0]?=some d[a]:=by rw[List.getElem?_drop]; exact hy
  generalize d[a]=b at hy hy0;have hb:=b.toNat_lt;rw[decide_eq_false (show ¬d.drop a=[] from fun h=>by rw[h] at hdl; simp at hdl; omega)];rw[qX hy] at hf;refine zC rfl (zl (za (zu (ze (z8 (yp (pT rfl) (yp (Jv (k:=0) rfl rfl hy0) (yp (kG rfl) (yp (vJ rfl rfl (by omega)) (yp (pI rfl) (zf (za (ze (ze (z8 (yp (pI rfl) (yp (pT rfl) (yp (Wm rfl) (yp (WS rfl rfl) (zf (za ?_)))))))))))))))))))));rw[Xt];by_cases h2:a+1+b.toNat≤d.length
  ·rw[decide_eq_false (show ¬((d.drop a).length:Int)<1+(b.toNat:Int) from by omega)];refine zo rfl (zl (za (z8 (yp (pT rfl) (yp (pI rfl) (yp (Yn (Y:=d.drop a) (j:=1+b.toNat) rfl rfl (by omega)) ?_))))));rw[List.drop_drop,show a+(1+b.toNat)=a+1+b.toNat from by omega];refine yp (pT rfl) (zf (zW (za ?_)));exact⟨a+1+b.toNat,⟨⟨rfl,trivial⟩,h2,⟨f,hf,by omega⟩,.of⟩,by omega⟩
  ·rw[decide_eq_true (show((d.drop a).length:Int)<1+(b.toNat:Int) from by omega)];obtain⟨f,rfl⟩:∃g,f=g+1:=⟨f-1,by omega⟩
   rw[J8 (by omega)] at hf;refine zC rfl (ze (z8 (yp pC (zf (za (zJ (zV (bret (zV (bret (zV ?_)))))))))));exact zI (rB rfl) ⟨_,.of,by rw[hf,beq_eq_false_iff_ne.2 (by omega)],rfl⟩
 ·have hda:d.drop a=[]:=List.drop_eq_nil_of_le (by omega);rw[decide_eq_true hda];rw[J8 (by omega)] at hf;refine zo rfl (zZ (zA (zA (Z0 (za (ze (z8 (yp pC (zf (za (zJ ?_)))))))))));exact zI (rB rfl) ⟨_,.of,by rw[hf,beq_iff_eq.2 (by omega)],rfl⟩
theorem Ee(n:Nat):decide ((n:Int)=4)=(n==4):=by
 by_cases h:n=4
 ·rw[decide_eq_true (by omega),beq_iff_eq.2 h]
 ·rw[decide_eq_false (by omega),beq_eq_false_iff_ne.2 h]
theorem sZ(n:Nat):decide ((n:Int)=16)=(n==16):=by
 by_cases h:n=16
 ·rw[decide_eq_true (by omega),beq_iff_eq.2 h]
 ·rw[decide_eq_false (by omega),beq_eq_false_iff_ne.2 h]
theorem bf(t:Int)(d:Bs)(hd:d.length<2 ^ 40):Tri Tryz.prog 95 #[.int .i64 t,sv d] [] (fun r S=>r= .bool (Zk t d)∧S=[]):=by
 refine Tri.forget (zq Tryz.RF (Nat.le_of_ble_eq_true rfl) ?_);unfold Tryz.x95;refine ze (z8 (yp pC (zf (za (ze (z8 (yp (pI rfl) (yp (pT rfl) ?_))))))));refine zh (zk (Qf t d hd) rfl rfl fun r S' h=>?_);obtain⟨v,L,H,rfl,hL,_,rfl⟩:=h;obtain⟨la,lc,rfl⟩:=hL.isSlice;unfold Zk;refine yp (pU rfl) (yp (pExt rfl rfl) (yp (pExt rfl rfl) (yp (pS rfl) (yp (pB rfl) (zf (za (ze (zu (ze (z8 (yp (pT rfl) (yp (Wm rfl) (yp (WS rfl rfl) (yp (pB rfl) (zf (za ?_))))))))))))))));rw[Xt];by_cases h1:1000<d.length
 ·rw[decide_eq_true (show(1000:Int)<(d.length:Int) from by omega),if_pos h1];refine zC rfl (ze (z8 (yp pC (zf (za (zJ (bret (zV ?_))))))));exact zI (rB rfl) ⟨[],⟨H,by simp⟩,rfl,rfl⟩
 rw[decide_eq_false (show ¬(1000:Int)<(d.length:Int) from by omega),if_neg h1];refine zo rfl (ze (z8 (yp (pI rfl) (yp (wB rfl rfl) (yp (pB rfl) (zf (za ?_)))))));by_cases h2:t=1
 ·rw[decide_eq_true h2,if_pos h2];refine zC rfl (ze (z8 (yp (pT rfl) (yp (Wm rfl) (yp (wB rfl rfl) (yp (pB rfl) (zf (za (zJ (bret (zV ?_)))))))))));rw[Xt]
  skip
  exact zI (rB rfl) ⟨[],⟨H,by simp⟩,by rw[Ee],rfl⟩
 rw[decide_eq_false h2,if_neg h2];refine zo rfl (ze (z8 (yp (pI rfl) (yp (wB rfl rfl) (yp (pB rfl) (zf (za ?_)))))));by_cases h3:t=28
 ·rw[decide_eq_true h3,if_pos h3];refine zC rfl (ze (z8 (yp (pT rfl) (yp (Wm rfl) (yp (wB rfl rfl) (yp (pB rfl) (zf (za (zJ (bret (zV ?_)))))))))));rw[Xt]
  skip
  exact zI (rB rfl) ⟨[],⟨H,by simp⟩,by rw[sZ],rfl⟩
 rw[decide_eq_false h3,if_neg h3];refine zo rfl (ze (z8 (yp (pI rfl) (yp (wB rfl rfl) (yp (pB rfl) (zf (za ?_)))))));by_cases h4:t=16
 ·rw[decide_eq_true h4,if_pos h4];refine zC rfl (ze (z8 (yp (pT rfl) ?_)));refine zh (zk (BJ d hd) rfl rfl fun r S' h=>?_);obtain⟨rfl,rfl⟩:=h;refine yp (pB rfl) (zf (za (zJ (bret (zV ?_)))));exact zI (rB rfl) ⟨[],⟨H,by simp⟩,rfl,rfl⟩
 rw[decide_eq_false h4,if_neg h4];refine zo rfl (zl (zW (za (ze (z8 (yp (pB rfl) (yp (pB rfl) (zf (za (zJ ?_))))))))));exact zI (rB rfl) ⟨[],⟨H,by simp⟩,rfl,rfl⟩
/-! ### the walk over the names in data -/
def pv(p:Pl):Array Value:= #[.int .i64 (p.at_:Int),.int .i64 (p.n:Int)]
abbrev bE(bt bd:Nat)(t:Int)(d:Bs):zL:=[[(bt,.cells #[.int .i64 t] 3)],[(bd,.cells #[sv d] 9)]]
theorem Jm(t:Int)(d:Bs):Tri Tryz.prog 51 #[.int .i64 t,sv d] [] (fun r S=>∃bt bd,r= .func (.func 96) #[] #[.pointer (some ⟨bt,0,none⟩),.pointer (some ⟨bd,0,none⟩)]∧S=bE bt bd t d):=by
 refine Tri.forget (zq Tryz.SE (Nat.le_of_ble_eq_true rfl) ?_);unfold Tryz.x51;refine ze (z8 ?_);refine zh (mI (vH rfl) fun p2=>?_);refine zh (mI (xW rfl) fun p3=>?_);refine yp pC (zf (za (ze (z8 (yp (LX (qE rfl) (qE rfl)) (yp (pF rfl) (zf (za (zJ ?_)))))))));exact zI (rF rfl) ⟨bE p2 p3 t d,⟨[],by simp; exact List.Perm.swap _ _ _⟩,p2,p3,rfl,rfl⟩
theorem Cr{bt bd:Nat}{t:Int}{d:Bs}{S0:zL}(hd:d.length<2 ^ 40):
 Ku Tryz.prog 96 #[] #[.pointer (some ⟨bt,0,none⟩),.pointer (some ⟨bd,0,none⟩)] (bE bt bd t d) S0
  (fun pre x=>pre++[x]<+:(prt t d).map pv) (fun xs=>xs=(prt t d).map pv):=by
 intro l c J Jx hJ0 hround;have e0:(#[]++ #[.func (.yield l) #[] #[]]++ #[.pointer (some ⟨bt,0,none⟩),.pointer (some ⟨bd,0,none⟩)]:Array Value)= #[.func (.yield l) #[] #[],.pointer (some ⟨bt,0,none⟩),.pointer (some ⟨bd,0,none⟩)]:=rfl;rw[e0];refine Tri.forget (zq Tryz.RD (Nat.le_of_ble_eq_true rfl) ?_);unfold Tryz.x96;refine ze (ze (z8 ?_));refine zh (zy rfl rfl ?_);refine zh (zy rfl rfl ?_);refine zh (zk (bf t d hd) rfl rfl fun r S' h=>?_);obtain⟨rfl,rfl⟩:=h;cases hok:Zk t d with
 | false=>
  have hp:prt t d=[]:=by unfold prt; rw[if_neg (by rw[hok]; decide)]
  refine yp (Za rfl) (zf (za (zC rfl (zJ (zV ?_)))));exact zI ZQ ⟨[c]::S0,⟨(bE bt bd t d).flatten,by simp; exact List.perm_append_comm (l₁:=[_,_])⟩,.inl ⟨[],by rw[hp]; rfl,hJ0⟩⟩
 | true=>
  have hsome:∃l,xX t d=some l:=by
   have h0:=hok;unfold Zk at h0;cases hs:wE t with
   | none=>exact⟨[],by unfold xX; rw[hs]⟩
   | some x=>
    have hk:=yV hs;split at h0
    ·cases h0
    ·rw[if_neg hk.1,if_neg hk.2.1,if_neg hk.2.2] at h0;exact Option.isSome_iff_exists.1 h0
  obtain⟨L0,hp0⟩:=hsome;have hp:prt t d=L0:=by unfold prt; rw[if_pos hok,hp0]; rfl
  refine yp (Za rfl) (zf (za (zo rfl (zl (za (ze (z8 ?_)))))));refine zh (zy rfl rfl ?_);refine zh (zy rfl rfl ?_);refine zh (zk (Qf t d hd) rfl rfl fun r S' h=>?_);obtain⟨v,L,H,rfl,hL,hLe,rfl⟩:=h;obtain rfl:=hLe L0 hp0;have hL2:=Jp hp0;obtain⟨la,lc,rfl⟩:=hL.isSlice;rw[hp];refine yp (pU rfl) (yp (pExt rfl rfl) (yp (pExt rfl rfl) (yp (pS rfl) (yp (pB rfl) (zf (za (ze (z8 (yp (pS rfl) (yp (Zp rfl) (yp pC (zf (za (zu ?_))))))))))))));refine Z7 (σ:=Nat) (fun i E S=>Has E [(0,.func (.yield l) #[] #[]),(18,.slice la L.length lc),(19,.int .i64 (L.length:Int)),(20,.int .i64 i)]∧i≤L.length∧∃T',J ((L.take i).map pv) T'∧zG S (H::T')) (fun i=>L.length-i) 0
   ⟨⟨rfl,rfl,rfl,rfl,trivial⟩,Nat.zero_le _,[c]::S0,hJ0,⟨(bE bt bd t d).flatten,?_⟩⟩ fun i E S ⟨hE,hi,T',hJ,hk⟩=>?_
  ·simp;exact List.Perm.append_left H ((List.perm_append_comm (l₁:=[_,_])).cons _)
  obtain⟨E0,e0⟩:=zm hE; subst e0; clear hE;refine zn hk (ze (z8 (yp (ZE rfl rfl) (zf (za (ze ?_))))));refine zR rfl (fun h=>?_) (fun h=>?_)
  ·have hlt:i<L.length:=by omega
   obtain⟨bb2,sp,fz,hz,rfl,hm,hc,rfl⟩:=hL.at' (by intro h; simp[h] at hlt);refine zl (za (ze (zu (ze (z8 (yp (zT rfl rfl (by omega)) ?_))))));refine zh (wH (l:=enc L[i]) rfl (wY hlt rfl) rfl ?_);refine zh (Z5 fun p7=>?_);refine zh (Vx (c':=[.int .i64 (L[i].at_:Int),.int .i64 (L[i].n:Int)]) rfl rfl rfl rfl rfl ?_);refine zf (za (ze (z8 (yp (pF rfl) (yp (zx rfl) ?_)))));refine zh (zy rfl rfl ?_);refine yp (zx rfl) ?_;refine zh (zy rfl rfl ?_);have ht:L.take (i+1)=L.take i++[L[i]]:=List.take_succ_eq_append_getElem hlt;have hV:(L.take i).map pv++[pv L[i]]<+:L.map pv:=by
    rw[show(L.take i).map pv++[pv L[i]]=(L.take (i+1)).map pv from by rw[ht,List.map_append]; rfl];exact(List.take_prefix _ _).map _
   refine zh (Ye (hround _ (pv L[i]) T' (by rw[hp]; exact hV) hJ) rfl rfl fun bl T2 h=>?_);rcases h with⟨rfl,hJ'⟩ | ⟨rfl,hJx⟩
   ·refine yp (Za rfl) (zf (za (zo rfl (zl (zW (za (z8 (yp (Z8 rfl rfl (by omega)) (yp (pI rfl) (zf (za ?_)))))))))));refine⟨i+1,⟨⟨rfl,rfl,rfl,rfl,trivial⟩,by omega,T2,?_,.of⟩,by omega⟩;rw[ht,List.map_append]; exact hJ'
   ·refine yp (Za rfl) (zf (za (zC rfl (zJ (bret (zV (zV (bret ?_))))))));exact zI ZQ ⟨T2,.of,.inr ⟨_,hJx⟩⟩
  ·refine zZ (zA (zA (Z0 ?_)));refine ZO ZQ ⟨T',.of,.inl ⟨_,?_,hJ⟩⟩;rw[List.take_of_length_le (by omega)]
theorem jT{n:Nat}{Q:Exit→Env→zL→Prop}{E:Env}{g:Operand}{p q:Tmp}{xa xb:zF}{bt bd:Nat}{t:Int}{d:Bs}{S S0 G0:zL}[hsub:Sub S0 (bE bt bd t d++S) G0](J:Nat→zL→Prop)
 (hg:ev E g= .func (.func 96) #[] #[.pointer (some ⟨bt,0,none⟩),.pointer (some ⟨bd,0,none⟩)]) (hps:[p,q].all (fun t=>Nat.blt t n)=true) (hd:d.length<2 ^ 40) (hJ0:J 0 S)
 (hround:∀(l k:Nat) (x:Pl) (T:zL),(prt t d)[k]?=some x→J k T→Y Tryz.prog (some l) n xa (uY (fun E1 S1=>Y Tryz.prog (some l) n xb (Jk (fun _ S'=>J (k+1) S') (fun _ _ _=>False) []) E1 S1) (fun _ _ _=>False)) (Xx [p,q] [.int .i64 (x.at_:Int),.int .i64 (x.n:Int)] E) T)
 (hdone:∀S',J (prt t d).length S'→Q .normal E S'):Y Tryz.prog none n (.range g [p,q] xa xb) Q E S0:=by
 refine YJ (S:=S) (own:=bE bt bd t d) (G0:=G0) (fun pre T=>pre<+:(prt t d).map pv∧J pre.length T) (fun _ _ _=>False) hg hps (Cr (bt:=bt) (bd:=bd) (S0:=S) hd) ⟨List.nil_prefix,hJ0⟩ ?_ ?_ ?_ ?_
 ·intro pre x hx;have:x∈(prt t d).map pv:=hx.subset (by simp);obtain⟨e,_,rfl⟩:=List.mem_map.1 this;rfl
 ·rintro l pre x T hx ⟨_,hJ⟩;have hxl:((prt t d).map pv)[pre.length]?=some x:=by
   obtain⟨u,hu⟩:=hx;rw[←hu,List.append_assoc,List.getElem?_append_right (Nat.le_refl _),Nat.sub_self]; rfl
  rw[List.getElem?_map] at hxl;cases he:(prt t d)[pre.length]? with
  | none=>rw[he] at hxl; cases hxl
  | some e=>
   rw[he] at hxl;obtain rfl:=(Option.some.inj hxl).symm;have h:=hround l pre.length e T he hJ;have hx2:pre++[pv e]<+:(prt t d).map pv:=hx;refine Y.mono h ?_;rintro ex E1 S1 h1;cases ex with
   | normal=>
    refine Y.mono h1 ?_;rintro ex2 E2 S2 h2;cases ex2 with
    | normal=>exact⟨hx2,by rw[List.length_append]; exact h2⟩
    | _=>exact h2
   | _=>exact h1
 ·rintro xs S' hx ⟨_,hJ⟩;rw[hx,List.length_map] at hJ;exact hdone S' hJ
 ·rintro e pre S' _ h;exact h.elim
end Go.Proofs.YtekgciopamkjlaaGreat
