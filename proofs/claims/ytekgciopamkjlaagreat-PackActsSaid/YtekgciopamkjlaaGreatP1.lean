/- Records (chapter 3), plainly: where names stand in data, and what data may be. Names added and dropped, one behind the other: how often each is used, and what they cost. Sets (chapter 8), plainly: what may be, its names, its size, its block's bytes. Names that live: each is used as often as numbers of it are held; arenas that are alike. A set's block (chapter 8), plainly: data with names in other letters, or with numbers in their places. Parts of strings, strings put together, as lists of bytes. Records (chapter 3): what data may be, and its names. A range over the names in data. -/
import Derived.Test.YtekgciopamkjlaaGreatN1
import Derived.Test.YtekgciopamkjlaaGreatI1
import Derived.Test.YtekgciopamkjlaaGreatFPack
namespace Go.Proofs.YtekgciopamkjlaaGreat
open Go.Xs
open Enc (enc)
/-! ### what a text begins with -/
theorem XR:∀(f:Nat) (Y:Bs) (a n:Nat),xX f Y a=(n,true)→a<n∧n≤Y.length
 | 0,_,_,_,h=>by simp[xX] at h
 | f+1,Y,a,n,h=>by
  unfold xX at h;cases hy:Y[a]? with
  | none=>rw[hy] at h; simp at h
  | some b=>
   have hlt:=(List.getElem?_eq_some_iff.1 hy).1;rw[hy] at h;simp only at h;split at h
   ·simp at h
   ·split at h
    ·obtain rfl:a+1=n:=(Prod.mk.inj h).1;omega
    ·split at h
     ·simp at h
     ·have:=XR f Y _ n h;omega
theorem KI:∀(f:Nat) (Y:Bs) (a n m:Nat),xX f Y a=(n,true)→n≤m→xX f (Y.take m) a=(n,true)
 | 0,_,_,_,_,h,_=>by simp[xX] at h
 | f+1,Y,a,n,m,h,hm=>by
  have hb:=XR (f+1) Y a n h;have hg:(Y.take m)[a]?=Y[a]?:=List.getElem?_take_of_lt (by omega);unfold xX at h ⊢;rw[hg];cases hy:Y[a]? with
  | none=>rw[hy] at h; simp at h
  | some b=>
   rw[hy] at h;simp only at h ⊢;split at h
   ·simp at h
   ·next h0=>
    rw[if_neg h0];split at h
    ·next h1=>rw[if_pos h1]; exact h
    ·next h1=>
     rw[if_neg h1];split at h
     ·simp at h
     ·next h2=>rw[if_neg h2]; exact KI f Y _ n m h hm
theorem XQ:∀(f:Nat) (Y:Bs) (a n m:Nat),xX f (Y.take m) a=(n,true)→xX f Y a=(n,true)
 | 0,_,_,_,_,h=>by simp[xX] at h
 | f+1,Y,a,n,m,h=>by
  have hb:=XR (f+1) _ a n h;have hg:(Y.take m)[a]?=Y[a]?:=List.getElem?_take_of_lt (by have:=List.length_take_le m Y; omega);unfold xX at h ⊢;rw[hg] at h;cases hy:Y[a]? with
  | none=>rw[hy] at h; simp at h
  | some b=>
   rw[hy] at h;simp only at h ⊢;split at h
   ·simp at h
   ·next h0=>
    rw[if_neg h0];split at h
    ·next h1=>rw[if_pos h1]; exact h
    ·next h1=>
     rw[if_neg h1];split at h
     ·simp at h
     ·next h2=>rw[if_neg h2]; exact XQ f Y _ n m h
/-- a text begins with a name of n bytes: its first n bytes are one -/
theorem uL{Y:Bs}{n:Nat}:lead Y=(n,true)↔n≤Y.length∧wO (Y.take n)=true:=by
 unfold wO lead;constructor
 ·intro h;have hb:=XR _ _ _ _ h;rw[KI _ _ _ _ n h (Nat.le_refl _),List.length_take,Nat.min_eq_left hb.2];exact⟨hb.2,by simp⟩
 ·rintro⟨h1,h2⟩;rw[Bool.and_eq_true] at h2;have hlen:(Y.take n).length=n:=by rw[List.length_take]; omega
  have h3:(xX 256 (Y.take n) 0).1=n:=by have:=h2.2; rw[hlen] at this; simpa using this
  exact XQ 256 Y 0 n n (Prod.ext h3 h2.1)
theorem W9{Y:Bs}{n:Nat}(h:lead Y=(n,true)):1≤n∧n≤255∧n≤Y.length:=by
 have hb:=XR _ _ _ _ h;have:=jW 256 Y 0;unfold lead at h;rw[h] at this;exact⟨by omega,this,hb.2⟩
/-- ahead of anything -/
theorem aH{Y Z:Bs}(h:wO Y=true):lead (Y++Z)=(Y.length,true):=uL.2 ⟨by simp,by rw[List.take_left]; exact h⟩
/-! ### where names stand -/
structure Pl where
 at_:Nat
 n:Nat
instance:Enc Pl:=⟨fun x=>[.int .i64 (x.at_:Int),.int .i64 (x.n:Int)],2,fun _=>rfl,fun _=>rfl⟩
def ZN(t:Int):Option (Nat × Nat × Nat):=if t=2∨t=5∨t=12 then some (0,1,0) else if t=15 then some (2,1,0) else if t=33 then some (6,1,0) else if t=6 then some (0,2,20) else none
/-- names, one behind the other -/
def Un(d:Bs):Nat→Nat→Option (List Pl × Nat)
 | 0,a=>some ([],a)
 | k+1,a=>if(lead (d.drop a)).2=true then(Un d k (a+(lead (d.drop a)).1)).map fun x=>(⟨a,(lead (d.drop a)).1⟩::x.1,x.2) else none
def U5(t:Int)(d:Bs):Option (List Pl):=match ZN t with
 | none=>some []
 | some (a,k,b)=>if d.length<a then none else match Un d k a with
  | some (l,e)=>if d.length=e+b then some l else none
  | none=>none
/-- texts -/
def Q5:Nat→Bs→Nat→Bool
 | 0,_,_=>false
 | f+1,d,a=>match d[a]? with
  | some b=>Q5 f d (a+1+b.toNat)
  | none=>a==d.length
def txt(d:Bs):Bool:=d !=[] && Q5 (d.length+1) d 0
def Zo(t:Int)(d:Bs):Bool:=if 1000<d.length then false else if t=1 then d.length==4 else if t=28 then d.length==16 else if t=16 then txt d else(U5 t d).isSome
def prt(t:Int)(d:Bs):List Pl:=if Zo t d=true then(U5 t d).getD [] else []
theorem QM{d:Bs}:∀{k a:Nat} {l:List Pl} {e:Nat},Un d k a=some (l,e)→a≤d.length→e≤d.length∧a≤e∧l.length=k
 | 0,a,l,e,h,ha=>by
  obtain⟨rfl,rfl⟩:=Prod.mk.inj (Option.some.inj h);exact⟨ha,Nat.le_refl _,rfl⟩
 | k+1,a,l,e,h,ha=>by
  unfold Un at h;split at h
  ·next h2=>
   have hl:lead (d.drop a)=((lead (d.drop a)).1,true):=by rw[←h2]
   have hp:=W9 hl;rw[List.length_drop] at hp;cases hx:Un d k (a+(lead (d.drop a)).1) with
   | none=>rw[hx] at h; cases h
   | some x=>
    obtain⟨l2,e2⟩:=x;rw[hx] at h;obtain⟨rfl,rfl⟩:=Prod.mk.inj (Option.some.inj h);have:=QM hx (by omega);exact⟨this.1,by omega,by simp[this.2.2]⟩
  ·cases h
/-- places, one behind the other, from a on -/
def Row(d:Bs):Nat→List Pl→Prop
 | a,[]=>a≤d.length
 | a,p::l=>p.at_=a∧lead (d.drop a)=(p.n,true)∧Row d (a+p.n) l
theorem ku{d:Bs}:∀{k a:Nat} {l:List Pl} {e:Nat},Un d k a=some (l,e)→a≤d.length→Row d a l
 | 0,a,l,e,h,ha=>by
  obtain⟨rfl,rfl⟩:=Prod.mk.inj (Option.some.inj h);exact ha
 | k+1,a,l,e,h,ha=>by
  unfold Un at h;split at h
  ·next h2=>
   have hl:lead (d.drop a)=((lead (d.drop a)).1,true):=by rw[←h2]
   have hp:=W9 hl;rw[List.length_drop] at hp;cases hx:Un d k (a+(lead (d.drop a)).1) with
   | none=>rw[hx] at h; cases h
   | some x=>
    obtain⟨l2,e2⟩:=x;rw[hx] at h;obtain⟨rfl,rfl⟩:=Prod.mk.inj (Option.some.inj h);exact⟨rfl,hl,ku hx (show a+(lead (d.drop a)).1≤d.length from by omega)⟩
  ·cases h
theorem Ju{t:Int}{d:Bs}{l:List Pl}(h:U5 t d=some l):l=[]∨∃a k b e,ZN t=some (a,k,b)∧a≤d.length∧Un d k a=some (l,e)∧d.length=e+b:=by
 unfold U5 at h;split at h
 ·exact .inl (Option.some.inj h).symm
 ·next a k b hs=>
  split at h
  ·cases h
  ·split at h
   ·next l2 e hp=>
    split at h
    ·next he=>
     obtain rfl:=Option.some.inj h;exact .inr ⟨a,k,b,e,hs,by omega,hp,he⟩
    ·cases h
   ·cases h
theorem xV{t:Int}{x:Nat × Nat × Nat}(h:ZN t=some x):t≠1∧t≠28∧t≠16:=by
 unfold ZN at h;refine⟨fun e=>?_,fun e=>?_,fun e=>?_⟩<;>(subst e; simp at h)
theorem VH{t:Int}{x:Nat × Nat × Nat}(h:ZN t=some x):x.1≤6∧x.2.1≤2∧x.2.2≤20:=by
 unfold ZN at h;split at h
 ·obtain rfl:=Option.some.inj h; decide
 ·split at h
  ·obtain rfl:=Option.some.inj h; decide
  ·split at h
   ·obtain rfl:=Option.some.inj h; decide
   ·split at h
    ·obtain rfl:=Option.some.inj h; decide
    ·cases h
theorem kr{t:Int}{d:Bs}{l:List Pl}(h:U5 t d=some l):l.length≤2:=by
 rcases Ju h with rfl | ⟨a,k,b,e,hs,ha,hp,_⟩
 ·exact Nat.zero_le _
 ·have h1:=(VH hs).2.1;have h2:=(QM hp ha).2.2;simp only at h1;omega
/-! ### Drop, and one use more, step by step -/
def iV:List Nm→Int→List Nm
 | [],_=>[]
 | e::l,i=>if e.id=i then(if e.u=1 then l else⟨e.id,e.n,e.u-1⟩::l) else e::iV l i
def inc:List Nm→Int→List Nm
 | [],_=>[]
 | e::l,i=>if e.id=i then⟨e.id,e.n,e.u+1⟩::l else e::inc l i
theorem Yo:∀(L:List Nm) (i:Int),wN L i=iV L i
 | [],_=>rfl
 | e::l,i=>by
  have ih:=Yo l i;unfold wN at ih ⊢;unfold iV vU;by_cases h:e.id=i
  ·rw[if_pos h,if_pos h];simp only[List.getElem?_cons_zero,List.eraseIdx_cons_zero];unfold reuse;rw[List.set_cons_zero]
  ·rw[if_neg h,if_neg h, ←ih];cases hx:vU i l with
   | none=>rfl
   | some k=>
    obtain⟨x,h1,_⟩:=uX hx;simp only[Option.map_some,List.getElem?_cons_succ,h1,List.eraseIdx_cons_succ];unfold reuse;rw[List.set_cons_succ];split<;>rfl
theorem Ya:∀{L:List Nm} {j:Nat} {e:Nm},(L.map (·.id)).Nodup→L[j]?=some e→reuse L j e (e.u+1)=inc L e.id
 | [],_,_,_,h=>by simp at h
 | x::l,0,e,_,h=>by
  obtain rfl:x=e:=by simpa using h
  unfold inc reuse;rw[if_pos rfl,List.set_cons_zero]
 | x::l,j+1,e,hd,h=>by
  rw[List.map_cons,List.nodup_cons] at hd;have hl:l[j]?=some e:=by simpa using h
  have hne:x.id≠e.id:=fun h2=>hd.1 (h2▸List.mem_map.2 ⟨e,List.mem_of_getElem? hl,rfl⟩)
  have ih:=Ya hd.2 hl;unfold reuse at ih ⊢;unfold inc;rw[if_neg hne,List.set_cons_succ,ih]
/-! ### a list of names, each used so often more -/
def Wx:List Nm→(Int→Nat)→List Nm
 | [],_=>[]
 | e::l,c=>if e.u+c e.id=0 then Wx l c else⟨e.id,e.n,e.u+c e.id⟩::Wx l c
theorem yF(e:Nm)(l:List Nm)(c:Int→Nat):Wx (e::l) c=if e.u+c e.id=0 then Wx l c else⟨e.id,e.n,e.u+c e.id⟩::Wx l c:=rfl
theorem vC:∀{L:List Nm} {c c':Int→Nat},(∀e∈L,c e.id=c' e.id)→Wx L c=Wx L c'
 | [],_,_,_=>rfl
 | e::l,c,c',h=>by
  unfold Wx;rw[h e (by simp),vC fun x hx=>h x (List.mem_cons_of_mem _ hx)]
theorem Uk(c:Int→Nat):∀(L M:List Nm),Wx (L++M) c=Wx L c++Wx M c
 | [],_=>rfl
 | e::l,M=>by
  rw[List.cons_append,yF,yF,Uk c l M];split
  ·rfl
  ·rfl
theorem JO:∀{L:List Nm},Pos L→Wx L (fun _=>0)=L
 | [],_=>rfl
 | e::l,h=>by
  unfold Wx;have:=h e (by simp);rw[if_neg (by omega),JO fun x hx=>h x (List.mem_cons_of_mem _ hx)];rfl
theorem KV:∀{L:List Nm} {c:Int→Nat},(∀e∈L,e.u+c e.id=0)→Wx L c=[]
 | [],_,_=>rfl
 | e::l,c,h=>by
  unfold Wx;rw[if_pos (h e (by simp))];exact KV fun x hx=>h x (List.mem_cons_of_mem _ hx)
theorem Vq:∀{L:List Nm} {c:Int→Nat} {x:Nm},x∈Wx L c↔∃e∈L,x=⟨e.id,e.n,e.u+c e.id⟩∧x.u≠0
 | [],c,x=>by unfold Wx; simp
 | e::l,c,x=>by
  unfold Wx;split
  ·next h0=>
   rw[Vq];constructor
   ·rintro⟨y,hy,h1,h2⟩; exact⟨y,List.mem_cons_of_mem _ hy,h1,h2⟩
   ·rintro⟨y,hy,h1,h2⟩;rcases List.mem_cons.1 hy with rfl | hy
    ·rw[h1] at h2; exact absurd h0 h2
    ·exact⟨y,hy,h1,h2⟩
  ·next h0=>
   rw[List.mem_cons,Vq];constructor
   ·rintro(rfl | ⟨y,hy,h1,h2⟩)
    ·exact⟨e,by simp,rfl,h0⟩
    ·exact⟨y,List.mem_cons_of_mem _ hy,h1,h2⟩
   ·rintro⟨y,hy,h1,h2⟩;rcases List.mem_cons.1 hy with rfl | hy
    ·exact .inl h1
    ·exact .inr ⟨y,hy,h1,h2⟩
theorem kQ(c:Int→Nat):∀(L:List Nm),List.Sublist ((Wx L c).map (·.id)) (L.map (·.id))∧List.Sublist ((Wx L c).map (·.n)) (L.map (·.n))
 | []=>⟨.slnil,.slnil⟩
 | e::l=>by
  have ih:=kQ c l;unfold Wx;split
  ·exact⟨.cons _ ih.1,.cons _ ih.2⟩
  ·exact⟨.cons_cons _ ih.1,.cons_cons _ ih.2⟩
theorem JR{L:List Nm}(c:Int→Nat)(h:UU L):UU (Wx L c):=⟨(kQ c L).1.nodup h.ids,(kQ c L).2.nodup h.ns⟩
theorem KW{c:Int→Nat}{i:Int}:∀{L:List Nm},(L.map (·.id)).Nodup→(∃e∈L,e.id=i)→1≤c i→iV (Wx L c) i=Wx L (fun k=>if k=i then c k-1 else c k)
 | [],_,h,_=>by simp at h
 | e::l,hd,h,hc=>by
  rw[List.map_cons,List.nodup_cons] at hd;unfold Wx;by_cases he:e.id=i
  ·have htl:Wx l c=Wx l (fun k=>if k=i then c k-1 else c k):=vC fun x hx=>by
    have hne:x.id≠i:=fun h2=>hd.1 (he▸h2▸List.mem_map.2 ⟨x,hx,rfl⟩)
    show c x.id=if x.id=i then c x.id-1 else c x.id
    rw[if_neg hne]
   rw[if_neg (by rw[he]; omega)];unfold iV;rw[if_pos he];simp only[he,if_true];by_cases h1:e.u+c i=1
   ·rw[if_pos h1,if_pos (by omega),htl]
   ·rw[if_neg h1,if_neg (by omega), ←htl,show e.u+c i-1=e.u+(c i-1) from by omega]
  ·have h2:∃e∈l,e.id=i:=by
    obtain⟨x,hx,hxi⟩:=h;rcases List.mem_cons.1 hx with rfl | hx
    ·exact absurd hxi he
    ·exact⟨x,hx,hxi⟩
   have ih:=KW hd.2 h2 hc;simp only[if_neg he];by_cases h0:e.u+c e.id=0
   ·rw[if_pos h0,if_pos h0]; exact ih
   ·rw[if_neg h0,if_neg h0];show iV (_::_) i=_;unfold iV;rw[if_neg (show ¬(⟨e.id,e.n,e.u+c e.id⟩:Nm).id=i from he),ih]
theorem JQ{c:Int→Nat}{i:Int}:∀{L:List Nm},(L.map (·.id)).Nodup→(∀e∈L,1≤e.u+c e.id)→inc (Wx L c) i=Wx L (fun k=>if k=i then c k+1 else c k)
 | [],_,_=>rfl
 | e::l,hd,h=>by
  rw[List.map_cons,List.nodup_cons] at hd;have h1:=h e (by simp);unfold Wx;rw[if_neg (by omega)];show inc (_::_) i=_;unfold inc;by_cases he:e.id=i
  ·have htl:Wx l c=Wx l (fun k=>if k=i then c k+1 else c k):=vC fun x hx=>by
    have hne:x.id≠i:=fun h2=>hd.1 (he▸h2▸List.mem_map.2 ⟨x,hx,rfl⟩)
    show c x.id=if x.id=i then c x.id+1 else c x.id
    rw[if_neg hne]
   rw[if_pos (show(⟨e.id,e.n,e.u+c e.id⟩:Nm).id=i from he)];simp only[he,if_true];rw[if_neg (by omega), ←htl]; rfl
  ·have ih:=JQ (c:=c) (i:=i) hd.2 fun x hx=>h x (List.mem_cons_of_mem _ hx)
   rw[if_neg (show ¬(⟨e.id,e.n,e.u+c e.id⟩:Nm).id=i from he)];simp only[if_neg he];rw[if_neg (by omega),ih]
/-! ### drops -/
def drops(L:List Nm)(ids:List Int):List Nm:=ids.foldl wN L
theorem xF:∀{ids:List Int} {L:List Nm} {c:Int→Nat},(L.map (·.id)).Nodup→(∀i∈ids,∃e∈L,e.id=i)→drops (Wx L fun k=>c k+ids.count k) ids=Wx L c
 | [],L,c,_,_=>by unfold drops; simp
 | i::ids,L,c,hd,h=>by
  have h1:=KW (c:=fun k=>c k+(i::ids).count k) (i:=i) hd (h i (by simp)) (by simp; omega);have h2:(Wx L fun k=>if k=i then c k+(i::ids).count k-1 else c k+(i::ids).count k)=Wx L fun k=>c k+ids.count k:=vC fun e _=>by
   show(if e.id=i then c e.id+(i::ids).count e.id-1 else c e.id+(i::ids).count e.id)=c e.id+ids.count e.id;rw[List.count_cons];by_cases he:e.id=i
   ·subst he; simp
   ·have:(i==e.id)=false:=by simpa using fun h3:i=e.id=>he h3.symm
    rw[if_neg he,this]; simp
  show(ids.foldl wN (wN (Wx L fun k=>c k+(i::ids).count k) i))=_;rw[Yo,h1,h2];exact xF hd fun j hj=>h j (List.mem_cons_of_mem _ hj)
/-! ### adds -/
structure Ad where
 D:List (Option Bt)
 L:List Nm
 ids:List Int
 e:Int
def ZI(N:Nat):List (Option Bt)→List Nm→List Bs→Ad
 | D,L,[]=>⟨D,L,[],0⟩
 | D,L,n::l=>if wm N D L n=0 then⟨(ZI N (wH D L (zk n)) (Zw D L (zk n)) l).D,(ZI N (wH D L (zk n)) (Zw D L (zk n)) l).L,vP D L (zk n)::(ZI N (wH D L (zk n)) (Zw D L (zk n)) l).ids,(ZI N (wH D L (zk n)) (Zw D L (zk n)) l).e⟩ else⟨D,L,[],wm N D L n⟩
theorem JM{L:List Nm}{m:Bs}:(vB L m).isSome=true↔∃e∈L,e.n=m:=by
 constructor
 ·intro h;obtain⟨e,he⟩:=Option.isSome_iff_exists.1 h;obtain⟨j,_,h2,h3⟩:=Ww he;exact⟨e,List.mem_of_getElem? h2,h3⟩
 ·rintro⟨e,he,rfl⟩;exact J3 he
theorem bJ{D:List (Option Bt)}{L:List Nm}{n m:Bs}:(vB (Zw D L n) m).isSome=true↔m=n∨(vB L m).isSome=true:=by
 rw[JM,JM];cases hb:vB L n with
 | some x=>
  obtain⟨j,h1,h2,rfl⟩:=Ww hb;have:Zw D L x.n=reuse L j x (x.u+1):=by unfold Zw; rw[h1]; simp only[h2]
  rw[this];constructor
  ·rintro⟨e,he,rfl⟩;obtain⟨y,hy,_,h4⟩:=VJ h2 he;exact .inr ⟨y,hy,h4⟩
  ·rintro(rfl | ⟨y,hy,rfl⟩)
   ·obtain⟨z,hz,_,h4⟩:=WY (u:=x.u+1) h2 (List.mem_of_getElem? h2);exact⟨z,hz,h4⟩
   ·obtain⟨z,hz,_,h4⟩:=WY (u:=x.u+1) h2 hy;exact⟨z,hz,h4⟩
 | none=>
  have:Zw D L n=L++[⟨((hnd D:Nat):Int),n,1⟩]:=by unfold Zw; rw[wT hb]
  rw[this];constructor
  ·rintro⟨e,he,rfl⟩;rcases List.mem_append.1 he with he | he
   ·exact .inr ⟨e,he,rfl⟩
   ·rw[List.mem_singleton.1 he]; exact .inl rfl
  ·rintro(rfl | ⟨y,hy,rfl⟩)
   ·exact⟨⟨((hnd D:Nat):Int),m,1⟩,by simp,rfl⟩
   ·exact⟨y,List.mem_append.2 (.inl hy),rfl⟩
theorem XV(D:List (Option Bt)):Zb D ((hnd D:Nat):Int)=none:=by
 have:=vN D;have hp:=wu D;rw[show((hnd D:Nat):Int)=((hnd D-1:Nat):Int)+1 from by omega,ZE]; exact this
/-- what adds leave: the elder names, new ones behind them, each used as often as its number was told -/
theorem Xo(N:Nat):∀(l:List Bs) (D:List (Option Bt)) (L:List Nm) (c:Int→Nat),UU L→(∀e∈L,(Zb D e.id).isSome=true)→(∀e∈L,1≤e.u+c e.id)→(∀i,(∀e∈L,e.id≠i)→c i=0)→
 ∃M:List Nm,(∀e∈M,e.u=0)∧UU (L++M)∧(ZI N D (Wx L c) l).L=Wx (L++M) (fun k=>c k+(ZI N D (Wx L c) l).ids.count k)∧(∀i∈(ZI N D (Wx L c) l).ids,∃e∈L++M,e.id=i)∧
  (∀e∈L++M,(Zb (ZI N D (Wx L c) l).D e.id).isSome=true)∧(∀e∈M,Zb D e.id=none)
 | [],D,L,c,hd,hD,_,_=>⟨[],fun e he=>by simp at he,by rw[List.append_nil]; exact hd,by unfold ZI; simp,fun i hi=>by unfold ZI at hi; simp at hi,by rw[List.append_nil]; exact hD,fun e he=>by simp at he⟩
 | n::l,D,L,c,hd,hD,hu,hc=>by
  unfold ZI;by_cases hE:wm N D (Wx L c) n=0
  ·rw[if_pos hE];have hcount:∀(i k:Int) (ids:List Int),(i::ids).count k=ids.count k+if k=i then 1 else 0:=fun i k ids=>by
    rw[List.count_cons];by_cases h:k=i
    ·subst h; simp
    ·have:(i==k)=false:=by simpa using fun h3:i=k=>h h3.symm
     rw[if_neg h,this]; simp
   cases hb:vB (Wx L c) (zk n) with
   | some x=>
    obtain⟨j,h1,h2,h3⟩:=Ww hb;have hxm:=List.mem_of_getElem? h2;obtain⟨e,heL,hxe,_⟩:=Vq.1 hxm;have hL:Zw D (Wx L c) (zk n)=Wx L (fun k=>if k=x.id then c k+1 else c k):=by
     unfold Zw; rw[h1]; simp only[h2];rw[Ya (JR c hd).ids h2,JQ hd.ids hu]
    have hDD:wH D (Wx L c) (zk n)=D:=by unfold wH; rw[hb]; rfl
    have hI:vP D (Wx L c) (zk n)=x.id:=by unfold vP; rw[hb]; rfl
    rw[hL,hDD,hI];have hxid:x.id=e.id:=by rw[hxe]
    obtain⟨M,i1,i2,i3,i4,i5,i6⟩:=Xo N l D L (fun k=>if k=x.id then c k+1 else c k) hd hD (fun y hy=>by
     have:=hu y hy;show 1≤y.u+if y.id=x.id then c y.id+1 else c y.id
     split<;>omega) (fun i hi=>by
     show(if i=x.id then c i+1 else c i)=0;rw[if_neg fun h4=>hi e heL (by rw[h4,hxid])]; exact hc i hi)
    refine⟨M,i1,i2,?_,fun i hi=>?_,i5,i6⟩
    ·rw[i3];refine vC fun y _=>?_
     show(if y.id=x.id then c y.id+1 else c y.id)+_=c y.id+_;rw[hcount];split<;>omega
    ·rcases List.mem_cons.1 hi with rfl | hi
     ·exact⟨e,List.mem_append.2 (.inl heL),hxid.symm⟩
     ·exact i4 i hi
   | none=>
    have hL0:Zw D (Wx L c) (zk n)=Wx L c++[⟨((hnd D:Nat):Int),zk n,1⟩]:=by unfold Zw; rw[wT hb]
    have hDD:wH D (Wx L c) (zk n)=Zc D (8+(zk n).length):=by unfold wH; rw[hb]; rfl
    have hI:vP D (Wx L c) (zk n)=((hnd D:Nat):Int):=by unfold vP; rw[hb]; rfl
    have hno:=XV D;have hidn:∀y∈L,y.id≠((hnd D:Nat):Int):=fun y hy h=>by
     have:=hD y hy;rw[h,hno] at this; cases this
    have hnn:∀y∈L,y.n≠zk n:=fun y hy h=>by
     have hm:(⟨y.id,y.n,y.u+c y.id⟩:Nm)∈Wx L c:=Vq.2 ⟨y,hy,rfl,by have:=hu y hy; show y.u+c y.id≠0; omega⟩;exact Vb (wT hb) _ hm h
    have hL:Zw D (Wx L c) (zk n)=Wx (L++[⟨((hnd D:Nat):Int),zk n,0⟩]) (fun k=>if k=((hnd D:Nat):Int) then 1 else c k):=by
     rw[hL0,Uk];congr 1
     ·refine vC fun y hy=>?_
      show c y.id=if y.id=((hnd D:Nat):Int) then 1 else c y.id
      rw[if_neg (hidn y hy)]
     ·unfold Wx;simp[Wx]
    rw[hL,hDD,hI];have hd2:UU (L++[⟨((hnd D:Nat):Int),zk n,0⟩]):=hd.add hidn hnn;obtain⟨M,i1,i2,i3,i4,i5,i6⟩:=Xo N l (Zc D (8+(zk n).length)) (L++[⟨((hnd D:Nat):Int),zk n,0⟩]) (fun k=>if k=((hnd D:Nat):Int) then 1 else c k) hd2 (fun y hy=>by
     rcases List.mem_append.1 hy with hy | hy
     ·rw[ZA (hidn y hy)]; exact hD y hy
     ·rw[List.mem_singleton.1 hy]; show(Zb _ ((hnd D:Nat):Int)).isSome=true; rw[Wi]; rfl) (fun y hy=>by
     show 1≤y.u+if y.id=((hnd D:Nat):Int) then 1 else c y.id
     rcases List.mem_append.1 hy with hy | hy
     ·rw[if_neg (hidn y hy)]; exact hu y hy
     ·rw[List.mem_singleton.1 hy]; simp) (fun i hi=>by
     show(if i=((hnd D:Nat):Int) then 1 else c i)=0;have h5:¬i=((hnd D:Nat):Int):=fun h=>hi ⟨((hnd D:Nat):Int),zk n,0⟩ (by simp) h.symm
     rw[if_neg h5];exact hc i fun y hy=>hi y (List.mem_append.2 (.inl hy)))
    rw[List.append_assoc] at i2 i3 i4 i5;refine⟨[⟨((hnd D:Nat):Int),zk n,0⟩]++M,fun y hy=>?_,i2,?_,fun i hi=>?_,i5,fun y hy=>?_⟩
    ·rcases List.mem_append.1 hy with hy | hy
     ·rw[List.mem_singleton.1 hy]
     ·exact i1 y hy
    ·rw[i3];refine vC fun y _=>?_
     show(if y.id=((hnd D:Nat):Int) then 1 else c y.id)+_=c y.id+_;rw[hcount];by_cases h6:y.id=((hnd D:Nat):Int)
     ·rw[if_pos h6,if_pos h6,h6,hc _ hidn]; omega
     ·rw[if_neg h6,if_neg h6]; omega
    ·rcases List.mem_cons.1 hi with rfl | hi
     ·exact⟨⟨((hnd D:Nat):Int),zk n,0⟩,by simp,rfl⟩
     ·exact i4 i hi
    ·rcases List.mem_append.1 hy with hy | hy
     ·rw[List.mem_singleton.1 hy]; exact hno
     ·have h7:=i6 y hy;have hne:y.id≠((hnd D:Nat):Int):=fun h=>by rw[h,Wi] at h7; cases h7
      rw[ZA hne] at h7; exact h7
  ·rw[if_neg hE];exact⟨[],fun e he=>by simp at he,by rw[List.append_nil]; exact hd,by simp,fun i hi=>by simp at hi,by rw[List.append_nil]; exact hD,fun e he=>by simp at he⟩
/-- all adds undone -/
theorem YB{N:Nat}{l:List Bs}{D:List (Option Bt)}{L:List Nm}(hd:UU L)(hp:Pos L)(hD:∀e∈L,(Zb D e.id).isSome=true):drops (ZI N D L l).L (ZI N D L l).ids=L:=by
 have h0:=JO hp;obtain⟨M,i1,i2,i3,i4,_,_⟩:=Xo N l D L (fun _=>0) hd hD (fun e he=>by have:=hp e he; omega) (fun _ _=>rfl);rw[h0] at i3 i4;rw[i3,xF i2.ids i4,Uk,h0,KV (fun e he=>by rw[i1 e he]),List.append_nil]
/-! ### what they cost -/
def wG(L:List Nm):List Bs→List Bs→Nat
 | _,[]=>0
 | seen,n::l=>(if zk n∈seen∨(vB L (zk n)).isSome=true then 0 else Z6 (8+n.length))+wG L (zk n::seen) l
theorem Vo{L:List Nm}:∀{l:List Bs} {s s':List Bs},(∀m,m∈s↔m∈s')→wG L s l=wG L s' l
 | [],_,_,_=>rfl
 | n::l,s,s',h=>by
  unfold wG;rw[Vo (s:=zk n::s) (s':=zk n::s') fun m=>by rw[List.mem_cons,List.mem_cons,h m]];simp only[h (zk n)]
theorem Yu{L L':List Nm}{x:Bs}(hL:∀m,(vB L' m).isSome=true↔m=x∨(vB L m).isSome=true):∀{l:List Bs} {s:List Bs},wG L' s l=wG L (x::s) l
 | [],_=>rfl
 | n::l,s=>by
  unfold wG;rw[Yu hL (l:=l) (s:=zk n::s),Vo (s:=x::zk n::s) (s':=zk n::x::s) fun m=>by simp only[List.mem_cons]; exact⟨fun h=>by rcases h with h | h | h<;>simp[h],fun h=>by rcases h with h | h | h<;>simp[h]⟩];congr 1;have hiff:(zk n∈s∨(vB L' (zk n)).isSome=true)↔(zk n∈x::s∨(vB L (zk n)).isSome=true):=by
   rw[hL,List.mem_cons];exact⟨fun h=>by rcases h with h | h | h<;>simp[h],fun h=>by rcases h with(h | h) | h<;>simp[h]⟩
  simp only[hiff]
theorem yt(k:Nat):16≤Z6 k:=by
 unfold Z6
 (repeat' split)<;>omega
theorem UQ{N:Nat}:∀{l:List Bs} {D:List (Option Bt)} {L:List Nm},(∀n∈l,wO n=true)→Z8 D≤N→
 (Z8 D+wG L [] l≤N→(ZI N D L l).e=0∧Z8 (ZI N D L l).D=Z8 D+wG L [] l)∧(N<Z8 D+wG L [] l→(ZI N D L l).e=4)
 | [],D,L,_,hN=>⟨fun _=>⟨rfl,rfl⟩,fun h=>absurd h (Nat.not_lt.2 hN)⟩
 | n::l,D,L,hv,hN=>by
  have hvn:=hv n (by simp);have h255:=ZQ hvn;have hfl:=wE n;have hstep:wG L [zk n] l=wG (Zw D L (zk n)) [] l:=(Yu fun m=>bJ).symm;have hcc:cost (8+(n.length:Int))=(Z6 (8+n.length):Nat):=by
   unfold cost; rw[if_neg (by omega)]; congr 1
  have h16:=yt (8+n.length);unfold ZI wG;rw[hstep];have hnil:¬zk n∈([]:List Bs):=by simp
  cases hb:(vB L (zk n)).isSome with
  | true=>
   have hE:wm N D L n=0:=by unfold wm; rw[if_neg (by rw[hvn]; decide),hb]; rfl
   have hDD:wH D L (zk n)=D:=by unfold wH; rw[hb]; rfl
   rw[if_pos hE,if_pos (.inr rfl),Nat.zero_add,hDD];exact UQ (fun m hm=>hv m (List.mem_cons_of_mem _ hm)) hN
  | false=>
   have hEa:wm N D L n=if(N:Int)-Z8 D<(Z6 (8+n.length):Nat) then 4 else 0:=by
    unfold wm Zm;rw[if_neg (by rw[hvn]; decide),hb,if_neg (by decide),hcc,if_neg (by omega)]
   have hDD:wH D L (zk n)=Zc D (8+n.length):=by unfold wH; rw[hb,hfl]; rfl
   rw[if_neg (show ¬(zk n∈([]:List Bs)∨false=true) from by simp)];by_cases hroom:Z8 D+Z6 (8+n.length)≤N
   ·have hE:wm N D L n=0:=by rw[hEa,if_neg (by omega)]
    rw[if_pos hE];have hu:=Um D (8+n.length);rw[←hDD] at hu;have ih:=UQ (N:=N) (l:=l) (D:=wH D L (zk n)) (L:=Zw D L (zk n)) (fun m hm=>hv m (List.mem_cons_of_mem _ hm)) (by omega);rw[hu] at ih;refine⟨fun h=>?_,fun h=>ih.2 (by omega)⟩;obtain⟨h1,h2⟩:=ih.1 (by omega);exact⟨h1,by rw[←Nat.add_assoc]; exact h2⟩
   ·have hE:wm N D L n=4:=by rw[hEa,if_pos (by omega)]
    rw[if_neg (by rw[hE]; decide)];exact⟨fun h=>by omega,fun _=>hE⟩
structure RR where
 n:Bs
 t:Int
 c:Int
 ttl:Int
 d:Bs
instance:Enc RR:=⟨fun x=>[sv x.n,.int .i64 x.t,.int .i64 x.c,.int .i64 x.ttl,sv x.d],5,fun _=>rfl,fun _=>rfl⟩
structure St where
 name:Bs
 typ:Int
 kind:Int
 zone:Bs
 rrs:List RR
def St.v(s:St)(w:Value):Value:= .agg #[sv s.name,.int .i64 s.typ,w,.int .i64 s.kind,sv s.zone]
def Uw(a b:Bs):Bool:=wO a && wO b && (a.map low==b.map low)
def vT(s:St)(r:RR):Bool:=Uw r.n s.name && decide (r.t=s.typ) && decide (r.c=1) && Zo r.t r.d
def WC(s:St):Bool:=wO s.name && wO s.zone && decide (1≤s.typ∧s.typ≤65535∧0≤s.kind∧s.kind≤2) && decide (s.rrs.length≤32) && (decide (0<s.rrs.length)==decide (s.kind=0)) && s.rrs.all (vT s)
def Vx(d:Bs)(p:Pl):Bs:=(d.drop p.at_).take p.n
def Zk(r:RR):List Bs:=(prt r.t r.d).map (Vx r.d)
def zS(s:St):List Bs:=s.name::s.zone::(s.rrs.map Zk).flatten
def wJ(l:List Int):Int:=l.foldr (· + ·) 0
def Wj(r:RR):Int:=2+(r.d.length:Int)+wJ ((prt r.t r.d).map fun p=>4-(p.n:Int))
def Zg(s:St):Int:=16+wJ (s.rrs.map Wj)
def ZL(s:St):Int:=if WC s=false then 1 else if 4096<Zg s then 3 else 0
def WL(s:St):Int:=if ZL s=0 then Zg s else 0
/-- data with other bytes in the names' places -/
def splice(d:Bs):Nat→List Pl→List Bs→Bs
 | a,p::l,x::xs=>(d.drop a).take (p.at_-a)++x++splice d (p.at_+p.n) l xs
 | a,_,_=>d.drop a
def wK(t:Int)(d:Bs):Bs:=splice d 0 (prt t d) ((prt t d).map fun p=>zk (Vx d p))
def Zr(s:St):St:=⟨zk s.name,s.typ,s.kind,zk s.zone,s.rrs.map fun r=>⟨zk s.name,r.t,1,0,wK r.t r.d⟩⟩
/-- a number's bytes, the least first -/
def U0:Nat→Nat→Bs
 | 0,_=>[]
 | k+1,n=>UInt8.ofNat (n%256)::U0 k (n/256)
theorem ZC:∀(k n:Nat),(U0 k n).length=k
 | 0,_=>rfl
 | k+1,n=>by show(U0 k (n/256)).length+1=k+1; rw[ZC k]
def U1(i:Int):Bs:=U0 4 i.toNat
def vw(r:RR)(ids:List Int):Bs:=splice r.d 0 (prt r.t r.d) (ids.map U1)
def Ub:List RR→List Int→Bs
 | [],_=>[]
 | r::l,ids=>U0 2 (vw r ids).length++vw r ids++Ub l (ids.drop (prt r.t r.d).length)
def Wn(s:St)(ids:List Int):Bs:=U1 (ids.getD 0 0)++U0 2 s.typ.toNat++U0 2 s.kind.toNat++U1 (ids.getD 1 0)++U0 4 0x5e7b10c5++Ub s.rrs (ids.drop 2)
theorem V9(a:Int)(l:List Int):wJ (a::l)=a+wJ l:=rfl
theorem uK(l m:List Int):wJ (l++m)=wJ l+wJ m:=by
 induction l with
 | nil=>show wJ m=0+wJ m; omega
 | cons a l ih=>rw[List.cons_append,V9,V9,ih]; omega
theorem Js(t:Int)(d:Bs):prt t d=[]∨∃a k b e,ZN t=some (a,k,b)∧a≤d.length∧Un d k a=some (prt t d,e)∧d.length=e+b:=by
 unfold prt;split
 ·next h=>
  cases hp:U5 t d with
  | none=>exact .inl rfl
  | some l=>exact Ju hp
 ·exact .inl rfl
/-- names are names -/
theorem Jp{d:Bs}:∀{a:Nat} {l:List Pl},Row d a l→∀p∈l,wO (Vx d p)=true∧(Vx d p).length=p.n∧p.at_+p.n≤d.length
 | _,[],_,p,hp=>by simp at hp
 | a,q::l,⟨h1,h2,h3⟩,p,hp=>by
  rcases List.mem_cons.1 hp with rfl | hp
  ·subst h1;have hb:=W9 h2;rw[List.length_drop] at hb;exact⟨(uL.1 h2).2,by unfold Vx; rw[List.length_take,List.length_drop]; omega,by omega⟩
  ·exact Jp h3 p hp
theorem uV{t:Int}{d:Bs}{p:Pl}(hp:p∈prt t d):wO (Vx d p)=true∧(Vx d p).length=p.n∧p.at_+p.n≤d.length:=by
 rcases Js t d with h | ⟨a,k,b,e,_,ha,hc,_⟩
 ·rw[h] at hp; simp at hp
 ·exact Jp (ku hc ha) p hp
theorem vM{s:St}(h:WC s=true):∀n∈zS s,wO n=true:=fun n hn=>by
 unfold WC at h;simp only[Bool.and_eq_true] at h;obtain⟨⟨⟨⟨⟨h1,h2⟩,_⟩,_⟩,_⟩,_⟩:=h;unfold zS at hn;rcases List.mem_cons.1 hn with rfl | hn
 ·exact h1
 rcases List.mem_cons.1 hn with rfl | hn
 ·exact h2
 obtain⟨l,hl,hn⟩:=List.mem_flatten.1 hn;obtain⟨r,_,rfl⟩:=List.mem_map.1 hl;unfold Zk at hn;obtain⟨p,hp,rfl⟩:=List.mem_map.1 hn;exact(uV hp).1
theorem KO{Y:Bs}(h:wO Y=true):zk Y=Y.map low:=by unfold zk; rw[if_pos h]
/-! ### numbers beside names -/
inductive Al (L:List Nm):List Int→List Bs→Prop
 | nil:Al L [] []
 | cons {i:Int} {n:Bs} {ids:List Int} {ns:List Bs} (h:∃e∈L,e.id=i∧e.n=n) (t:Al L ids ns):Al L (i::ids) (n::ns)
theorem Al.mono{L L':List Nm}(h:∀e∈L,∃e'∈L',e'.id=e.id∧e'.n=e.n):∀{ids:List Int} {ns:List Bs},Al L ids ns→Al L' ids ns
 | _,_,.nil=> .nil
 | _,_,.cons ⟨e,he,h1,h2⟩ t=>by
  obtain⟨e',he',h3,h4⟩:=h e he;exact .cons ⟨e',he',h3.trans h1,h4.trans h2⟩ (Al.mono h t)
theorem Q0{D:List (Option Bt)}{L:List Nm}{n:Bs}{e:Nm}(he:e∈L):∃e'∈Zw D L n,e'.id=e.id∧e'.n=e.n:=by
 cases hb:vB L n with
 | some x=>
  obtain⟨j,h1,h2,rfl⟩:=Ww hb;have:Zw D L x.n=reuse L j x (x.u+1):=by unfold Zw; rw[h1]; simp only[h2]
  rw[this];exact WY h2 he
 | none=>
  have:Zw D L n=L++[⟨((hnd D:Nat):Int),n,1⟩]:=by unfold Zw; rw[wT hb]
  rw[this];exact⟨e,List.mem_append.2 (.inl he),rfl,rfl⟩
theorem qY{D:List (Option Bt)}{L:List Nm}{n:Bs}:∃e∈Zw D L n,e.id=vP D L n∧e.n=n:=by
 cases hb:vB L n with
 | some x=>
  obtain⟨j,h1,h2,rfl⟩:=Ww hb;have:Zw D L x.n=reuse L j x (x.u+1):=by unfold Zw; rw[h1]; simp only[h2]
  rw[this];obtain⟨e,he,h3,h4⟩:=WY (u:=x.u+1) h2 (List.mem_of_getElem? h2);exact⟨e,he,by rw[h3]; unfold vP; rw[hb]; rfl,h4⟩
 | none=>
  have:Zw D L n=L++[⟨((hnd D:Nat):Int),n,1⟩]:=by unfold Zw; rw[wT hb]
  rw[this];exact⟨⟨((hnd D:Nat):Int),n,1⟩,by simp,by unfold vP; rw[hb]; rfl,rfl⟩
theorem WS{N:Nat}{D:List (Option Bt)}{L:List Nm}{n:Bs}{l:List Bs}(h:wm N D L n=0):ZI N D L (n::l)=⟨(ZI N (wH D L (zk n)) (Zw D L (zk n)) l).D,(ZI N (wH D L (zk n)) (Zw D L (zk n)) l).L,vP D L (zk n)::(ZI N (wH D L (zk n)) (Zw D L (zk n)) l).ids,(ZI N (wH D L (zk n)) (Zw D L (zk n)) l).e⟩:=by
 rw[ZI,if_pos h]
theorem uw{N:Nat}{D:List (Option Bt)}{L:List Nm}{n:Bs}{l:List Bs}(h:wm N D L n≠0):ZI N D L (n::l)=⟨D,L,[],wm N D L n⟩:=by
 rw[ZI,if_neg h]
theorem yM{N:Nat}:∀{l:List Bs} {D:List (Option Bt)} {L:List Nm} {e:Nm},e∈L→∃e'∈(ZI N D L l).L,e'.id=e.id∧e'.n=e.n
 | [],_,_,e,he=>⟨e,he,rfl,rfl⟩
 | n::l,D,L,e,he=>by
  by_cases hE:wm N D L n=0
  ·rw[WS hE];obtain⟨e1,h1,h2,h3⟩:=Q0 (D:=D) (n:=zk n) he;obtain⟨e2,h4,h5,h6⟩:=yM (N:=N) (l:=l) (D:=wH D L (zk n)) h1;exact⟨e2,h4,h5.trans h2,h6.trans h3⟩
  ·rw[uw hE]; exact⟨e,he,rfl,rfl⟩
theorem K4{N:Nat}:∀{l:List Bs} {D:List (Option Bt)} {L:List Nm},(ZI N D L l).e=0→Al (ZI N D L l).L (ZI N D L l).ids (l.map zk)
 | [],_,_,_=> .nil
 | n::l,D,L,h=>by
  by_cases hE:wm N D L n=0
  ·rw[WS hE] at h ⊢;obtain⟨e1,h1,h2,h3⟩:=qY (D:=D) (L:=L) (n:=zk n);obtain⟨e2,h4,h5,h6⟩:=yM (N:=N) (l:=l) (D:=wH D L (zk n)) h1;exact .cons ⟨e2,h4,h5.trans h2,h6.trans h3⟩ (K4 h)
  ·rw[uw hE] at h; exact absurd h hE
/-! ### names that live by the numbers that are held -/
structure YC(L:List Nm)(A:List Int):Prop where
 dis:UU L
 us:∀e∈L,e.u=A.count e.id
 pos:Pos L
 ids:∀i∈A,∃e∈L,e.id=i
theorem YC.nil:YC [] []:=⟨⟨List.nodup_nil,List.nodup_nil⟩,fun e he=>by simp at he,Pos.nil,fun i hi=>by simp at hi⟩
def Ja(L:List Nm):List Nm:=L.map fun e=>⟨e.id,e.n,0⟩
theorem bL(L:List Nm):(Ja L).map (·.id)=L.map (·.id):=by unfold Ja; rw[List.map_map]; rfl
theorem fP(L:List Nm):(Ja L).map (·.n)=L.map (·.n):=by unfold Ja; rw[List.map_map]; rfl
theorem X7{L:List Nm}{e:Nm}(h:e∈Ja L):e.u=0∧∃x∈L,x.id=e.id∧x.n=e.n:=by
 unfold Ja at h;obtain⟨x,hx,rfl⟩:=List.mem_map.1 h;exact⟨rfl,x,hx,rfl,rfl⟩
theorem UG{L:List Nm}{e:Nm}(h:e∈L):(⟨e.id,e.n,0⟩:Nm)∈Ja L:=List.mem_map.2 ⟨e,h,rfl⟩
theorem YF{L:List Nm}(h:UU L):UU (Ja L):=⟨by rw[bL]; exact h.ids,by rw[fP]; exact h.ns⟩
theorem JN{c:Int→Nat}:∀{L:List Nm},(∀e∈L,e.u=c e.id)→Pos L→Wx (Ja L) c=L
 | [],_,_=>rfl
 | e::l,h,hp=>by
  have h1:=h e (by simp);have h2:=hp e (by simp);show Wx (⟨e.id,e.n,0⟩::Ja l) c=_;rw[yF,JN (fun x hx=>h x (List.mem_cons_of_mem _ hx)) fun x hx=>hp x (List.mem_cons_of_mem _ hx)];simp only;rw[if_neg (by omega),Nat.zero_add, ←h1]
theorem YC.Wx{L:List Nm}{A:List Int}(h:YC L A):Wx (Ja L) (fun k=>A.count k)=L:=JN h.us h.pos
theorem YC.of{M:List Nm}{A:List Int}(hd:UU M)(h0:∀e∈M,e.u=0)(hi:∀i∈A,∃e∈M,e.id=i):YC (Proofs.YtekgciopamkjlaaGreat.Wx M fun k=>A.count k) A:=by
 refine⟨JR _ hd,fun e he=>?_,fun e he=>?_,fun i hA=>?_⟩
 ·obtain⟨x,hx,rfl,_⟩:=Vq.1 he;show x.u+A.count x.id=A.count x.id;rw[h0 x hx,Nat.zero_add]
 ·obtain⟨x,hx,rfl,h1⟩:=Vq.1 he;exact Nat.pos_of_ne_zero h1
 ·obtain⟨e,he,rfl⟩:=hi i hA;refine⟨_,Vq.2 ⟨e,he,rfl,?_⟩,rfl⟩;have:=List.count_pos_iff.2 hA;show e.u+A.count e.id≠0;omega
theorem YC.adds{N:Nat}{l:List Bs}{D:List (Option Bt)}{L:List Nm}{A:List Int}(h:YC L A)(hD:∀e∈L,(Zb D e.id).isSome=true):YC (ZI N D L l).L (A++(ZI N D L l).ids):=by
 obtain⟨M,i1,i2,i3,i4,_,_⟩:=Xo N l D (Ja L) (fun k=>A.count k) (YF h.dis) (fun e he=>by
  obtain⟨_,x,hx,h1,_⟩:=X7 he;rw[←h1]; exact hD x hx) (fun e he=>by
  obtain⟨_,x,hx,h1,_⟩:=X7 he;have:=h.us x hx;have:=h.pos x hx;show 1≤e.u+A.count e.id;rw[←h1]; omega) (fun i hi=>by
  refine List.count_eq_zero.2 fun hA=>?_
  obtain⟨e,he,rfl⟩:=h.ids i hA;exact hi _ (UG he) rfl)
 rw[h.Wx] at i3 i4;rw[i3];have hc:(fun k=>A.count k+(ZI N D L l).ids.count k)=fun k=>(A++(ZI N D L l).ids).count k:=by
  funext k; rw[List.count_append]
 rw[hc];refine YC.of i2 (fun e he=>?_) (fun i hi=>?_)
 ·rcases List.mem_append.1 he with he | he
  ·exact(X7 he).1
  ·exact i1 e he
 ·rcases List.mem_append.1 hi with hi | hi
  ·obtain⟨e,he,h1⟩:=h.ids i hi;exact⟨_,List.mem_append.2 (.inl (UG he)),h1⟩
  ·exact i4 i hi
/-- numbers are given back -/
theorem YC.drops{L:List Nm}{A ids R:List Int}(h:YC L A)(hA:∀k,A.count k=R.count k+ids.count k):YC (drops L ids) R∧∀e∈L,e.id∈R→∃e'∈Proofs.YtekgciopamkjlaaGreat.drops L ids,e'.id=e.id∧e'.n=e.n:=by
 have hb:=h.Wx;have hmem:∀i,i∈R∨i∈ids→i∈A:=fun i hi=>by
  rw[←List.count_pos_iff,hA];rcases hi with hi | hi
  ·have:=List.count_pos_iff.2 hi; omega
  ·have:=List.count_pos_iff.2 hi; omega
 have hfun:(fun k=>A.count k)=fun k=>R.count k+ids.count k:=funext hA
 have hd:Proofs.YtekgciopamkjlaaGreat.drops L ids=Proofs.YtekgciopamkjlaaGreat.Wx (Ja L) (fun k=>R.count k):=by
  rw[←hb,hfun];have:=xF (ids:=ids) (L:=Ja L) (c:=fun k=>R.count k) (YF h.dis).ids (fun i hi=>by
   obtain⟨e,he,h1⟩:=h.ids i (hmem i (.inr hi));exact⟨_,UG he,h1⟩)
  rw[hfun] at hb;rw[hb] at this ⊢;exact this
 rw[hd];refine⟨YC.of (YF h.dis) (fun e he=>(X7 he).1) (fun i hi=>?_),fun e he hR=>?_⟩
 ·obtain⟨e,he,h1⟩:=h.ids i (hmem i (.inl hi));exact⟨_,UG he,h1⟩
 ·refine⟨_,Vq.2 ⟨_,UG he,rfl,?_⟩,rfl,rfl⟩;have:=List.count_pos_iff.2 hR;show 0+R.count e.id≠0;omega
theorem YC.empty{L:List Nm}(h:YC L []):L=[]:=by
 cases L with
 | nil=>rfl
 | cons e l=>
  have h1:=h.us e (by simp);have h2:=h.pos e (by simp);simp at h1; omega
/-! ### arenas that are alike -/
def VA(D D':List (Option Bt)):Prop:=∀i,(Zb D i).map List.length=(Zb D' i).map List.length
theorem VA.symm{D D':List (Option Bt)}(h:VA D D'):VA D' D:=fun i=>(h i).symm
theorem VA.trans{D D' D'':List (Option Bt)}(h:VA D D')(k:VA D' D''):VA D D'':=fun i=>(h i).trans (k i)
theorem VA.refl(D:List (Option Bt)):VA D D:=fun _=>rfl
theorem VA.stand{D D':List (Option Bt)}(h:VA D D')(i:Int):(Zb D i).isSome=(Zb D' i).isSome:=by
 have:=congrArg Option.isSome (h i);simpa using this
theorem jA{D D':List (Option Bt)}(h:VA D D')(i:Nat):((D[i]?).join).map List.length=((D'[i]?).join).map List.length:=by
 have:=h ((i:Int)+1)
 rwa [ZE,ZE] at this
theorem YS{D D':List (Option Bt)}(h:yR D=yR D'):VA D D':=fun i=>by
 unfold Zb;split
 ·have h1:=congrArg (fun l=>(l[(i-1).toNat]?).join) h;simp only[yR,List.getElem?_map] at h1;cases h2:D[(i-1).toNat]? with
  | none=>
   rw[h2] at h1;cases h3:D'[(i-1).toNat]? with
   | none=>rfl
   | some y=>rw[h3] at h1; simpa using h1
  | some x=>
   rw[h2] at h1;cases h3:D'[(i-1).toNat]? with
   | none=>rw[h3] at h1; simpa using h1
   | some y=>rw[h3] at h1; simpa using h1
 ·rfl
theorem vX{D D':List (Option Bt)}(h:VA D D'):hnd D=hnd D':=by
 refine KL (wu D) (fun i hi=>?_) ?_
 ·obtain⟨b,hb⟩:=uM D i hi;have:=jA h i;rw[hb] at this;cases h2:D'[i]? with
  | none=>rw[h2] at this; simp at this
  | some x=>
   cases x with
   | none=>rw[h2] at this; simp at this
   | some c=>exact⟨c,rfl⟩
 ·have:=jA h (hnd D-1);rw[vN D] at this;cases h2:(D'[hnd D-1]?).join with
  | none=>rfl
  | some c=>rw[h2] at this; simp at this
theorem uQ:∀{D:List (Option Bt)},(∀i:Nat,(D[i]?).join=none)→Z8 D=0
 | [],_=>rfl
 | a::l,h=>by
  have h0:=h 0;simp only[List.getElem?_cons_zero,Option.join_some] at h0;subst h0;have ih:=uQ (D:=l) fun i=>by simpa using h (i+1)
  unfold Z8 at ih ⊢;rw[List.map_cons,List.sum_cons,ih]; rfl
theorem Jk:∀{D D':List (Option Bt)},(∀i:Nat,((D[i]?).join).map List.length=((D'[i]?).join).map List.length)→Z8 D=Z8 D'
 | [],D',h=>(uQ (D:=D') fun i=>by
  have:=h i;cases h2:(D'[i]?).join with
  | none=>rfl
  | some c=>rw[h2] at this; simp at this).symm
 | a::l,[],h=>uQ (D:=a::l) fun i=>by
  have:=h i;cases h2:((a::l)[i]?).join with
  | none=>rfl
  | some c=>rw[h2] at this; simp at this
 | a::l,b::m,h=>by
  have h0:=h 0;have ih:=Jk (D:=l) (D':=m) fun i=>by simpa using h (i+1)
  simp only[List.getElem?_cons_zero,Option.join_some] at h0;unfold Z8 at ih ⊢;rw[List.map_cons,List.sum_cons,List.map_cons,List.sum_cons,ih];congr 1;cases a with
  | none=>
   cases b with
   | none=>rfl
   | some y=>simp at h0
  | some x=>
   cases b with
   | none=>simp at h0
   | some y=>
    have:x.length=y.length:=by simpa using h0
    show Z6 x.length=Z6 y.length;rw[this]
theorem XD{D D':List (Option Bt)}(h:VA D D'):Z8 D=Z8 D':=Jk (jA h)
theorem Ua{D D':List (Option Bt)}(h:VA D D')(N:Nat)(n:Int):Zm N D n=Zm N D' n:=by unfold Zm; rw[XD h]
theorem uT{D D':List (Option Bt)}(h:VA D D')(m:Nat):VA (Zc D m) (Zc D' m):=fun i=>by
 by_cases hi:i=((hnd D:Nat):Int)
 ·have h2:=Wi D' m;rw[←vX h] at h2;rw[hi,Wi,h2]
 ·rw[ZA hi,ZA (by rw[←vX h]; exact hi)]; exact h i
theorem xC(D:List (Option Bt))(i:Int):Zb (wB D i) i=none:=by
 cases hb:Zb D i with
 | some b=>exact Yj hb
 | none=>unfold wB; rw[hb,if_neg (by decide)]; exact hb
theorem XE{D D':List (Option Bt)}(h:VA D D')(i:Int):VA (wB D i) (wB D' i):=fun k=>by
 by_cases hk:k=i
 ·rw[hk,xC,xC]
 ·rw[wF hk,wF hk]; exact h k
theorem bW{D:List (Option Bt)}{h:Int}{b Y:Bt}(hg:Zb D h=some b)(hl:Y.length=b.length):VA (D.set (h-1).toNat (some Y)) D:=YS (Xd hg hl)
theorem kY{N:Nat}:∀{l:List Bs} {D D':List (Option Bt)} {L:List Nm},VA D D'→(ZI N D L l).L=(ZI N D' L l).L∧(ZI N D L l).ids=(ZI N D' L l).ids∧(ZI N D L l).e=(ZI N D' L l).e∧VA (ZI N D L l).D (ZI N D' L l).D
 | [],_,_,_,h=>⟨rfl,rfl,rfl,h⟩
 | n::l,D,D',L,h=>by
  have h1:wm N D L n=wm N D' L n:=by unfold wm; rw[Ua h]
  have h2:Zw D L (zk n)=Zw D' L (zk n):=by unfold Zw; rw[vX h]
  have h3:vP D L (zk n)=vP D' L (zk n):=by unfold vP; rw[vX h]
  have h4:VA (wH D L (zk n)) (wH D' L (zk n)):=by
   unfold wH; split
   ·exact h
   ·exact uT h _
  by_cases hE:wm N D L n=0
  ·rw[WS hE,WS (h1▸hE),h2,h3];obtain⟨i1,i2,i3,i4⟩:=kY (N:=N) (l:=l) (L:=Zw D' L (zk n)) h4;exact⟨i1,by rw[i2],i3,i4⟩
  ·rw[uw hE,uw (h1▸hE),h1];exact⟨rfl,rfl,rfl,h⟩
theorem Wo.Dy{D D':List (Option Bt)}{L:List Nm}{B:List (Int × Bs)}(h:Wo D L B)(h':Wo D' L B):VA D D':=by
 have key:∀{D D':List (Option Bt)},Wo D L B→Wo D' L B→∀i b,Zb D i=some b→Zb D' i=some b:=fun h h' i b hb=>by
  rcases h.all i b hb with⟨e,he,rfl⟩ | ⟨x,hx,rfl⟩
  ·rw[h'.blk e he, ←h.blk e he,hb]
  ·rw[(h'.oth x hx).1, ←(h.oth x hx).1,hb]
 intro i;cases hb:Zb D i with
 | some b=>rw[key h h' i b hb]
 | none=>
  cases hb':Zb D' i with
  | some b=>have:=key h' h i b hb'; rw[hb] at this; cases this
  | none=>rfl
theorem Wo.stand{D:List (Option Bt)}{L:List Nm}{B:List (Int × Bs)}(h:Wo D L B):∀e∈L,(Zb D e.id).isSome=true:=fun e he=>by rw[h.blk e he]; rfl
theorem Wo.empty{D:List (Option Bt)}(h:Wo D [] []):Z8 D=0:=by
 refine uQ fun i=>?_
 cases hb:(D[i]?).join with
 | none=>rfl
 | some b=>
  rw[←ZE] at hb;rcases h.all _ b hb with⟨e,he,_⟩ | ⟨x,hx,_⟩
  ·simp at he
  ·simp at hx
/-- a block more, of others -/
theorem Wo.alloc{D:List (Option Bt)}{L:List Nm}{B:List (Int × Bs)}(h:Wo D L B)(m:Nat):Wo (Zc D m) L ((((hnd D:Nat):Int),zeros m)::B):=by
 have hno:=XV D;have hid:∀e∈L,e.id≠((hnd D:Nat):Int):=fun x hx e=>by
  have:=h.blk x hx;rw[e,hno] at this; cases this
 refine⟨h.dis,fun e he=>by rw[ZA (hid e he)]; exact h.blk e he,fun x hx=>?_,fun i b hib=>?_,h.us,h.fold⟩
 ·rcases List.mem_cons.1 hx with rfl | hx
  ·exact⟨Wi D m,hid⟩
  ·obtain⟨h1,h2⟩:=h.oth x hx;have hne:x.1≠((hnd D:Nat):Int):=fun e=>by rw[e,hno] at h1; cases h1
   exact⟨by rw[ZA hne]; exact h1,h2⟩
 ·by_cases hi:i=((hnd D:Nat):Int)
  ·exact .inr ⟨_,List.mem_cons_self,hi.symm⟩
  ·rw[ZA hi] at hib;rcases h.all i b hib with hx | ⟨x,hx,hxi⟩
   ·exact .inl hx
   ·exact .inr ⟨x,List.mem_cons_of_mem _ hx,hxi⟩
/-- handles of others are told once -/
def Hs(B:List (Int × Bs)):Prop:=(B.map (·.1)).Nodup
theorem Wo.write{D:List (Option Bt)}{L:List Nm}{B:List (Int × Bs)}{k:Int}{b Y:Bs}(h:Wo D L ((k,b)::B))(hh:Hs ((k,b)::B)):Wo (D.set (k-1).toNat (some Y)) L ((k,Y)::B):=by
 obtain⟨h1,h2⟩:=h.oth (k,b) (by simp);have hg:Zb D k=some b:=h1;have hne:∀x∈B,x.1≠k:=fun x hx e=>(List.nodup_cons.1 hh).1 (List.mem_map.2 ⟨x,hx,e⟩)
 refine⟨h.dis,fun e he=>by rw[WM hg,if_neg (h2 e he)]; exact h.blk e he,fun x hx=>?_,fun i c hib=>?_,h.us,h.fold⟩
 ·rcases List.mem_cons.1 hx with rfl | hx
  ·exact⟨by rw[WM hg,if_pos rfl],h2⟩
  ·obtain⟨h3,h4⟩:=h.oth x (List.mem_cons_of_mem _ hx);exact⟨by rw[WM hg,if_neg (hne x hx)]; exact h3,h4⟩
 ·rw[WM hg] at hib;by_cases hi:i=k
  ·exact .inr ⟨_,List.mem_cons_self,hi.symm⟩
  ·rw[if_neg hi] at hib;rcases h.all i c hib with hx | ⟨x,hx,hxi⟩
   ·exact .inl hx
   ·rcases List.mem_cons.1 hx with rfl | hx
    ·exact absurd hxi.symm hi
    ·exact .inr ⟨x,List.mem_cons_of_mem _ hx,hxi⟩
/-- a block of others goes -/
theorem Wo.free{D:List (Option Bt)}{L:List Nm}{B B':List (Int × Bs)}{k:Int}{b:Bs}(h:Wo D L B)(hm:(k,b)∈B)(hB:∀x,x∈B'↔x∈B∧x.1≠k):Wo (wB D k) L B':=by
 obtain⟨h1,h2⟩:=h.oth (k,b) hm;refine⟨h.dis,fun e he=>by rw[wF (h2 e he)]; exact h.blk e he,fun x hx=>?_,fun i c hib=>?_,h.us,h.fold⟩
 ·obtain⟨h3,h4⟩:=(hB x).1 hx;obtain⟨h5,h6⟩:=h.oth x h3;exact⟨by rw[wF h4]; exact h5,h6⟩
 ·by_cases hi:i=k
  ·rw[hi,xC] at hib; cases hib
  ·rw[wF hi] at hib;rcases h.all i c hib with hx | ⟨x,hx,hxi⟩
   ·exact .inl hx
   ·exact .inr ⟨x,(hB x).2 ⟨hx,by rw[hxi]; exact hi⟩,hxi⟩
def UR:Nat→List Bs→List Pl
 | _,[]=>[]
 | a,x::xs=>⟨a,x.length⟩::UR (a+x.length) xs
theorem kH:∀(a:Nat) (xs:List Bs),(UR a xs).length=xs.length
 | _,[]=>rfl
 | a,x::xs=>by show(UR _ xs).length+1=xs.length+1; rw[kH]
theorem KF:∀{a:Nat} {xs zs:List Bs},xs.map List.length=zs.map List.length→UR a xs=UR a zs
 | _,[],[],_=>rfl
 | _,[],_::_,h=>by simp at h
 | _,_::_,[],h=>by simp at h
 | a,x::xs,y::zs,h=>by
  rw[List.map_cons,List.map_cons,List.cons.injEq] at h;show(⟨a,x.length⟩:Pl)::UR (a+x.length) xs=⟨a,y.length⟩::UR (a+y.length) zs;rw[h.1,KF h.2]
theorem kC:∀(xs:List Bs) (P Z:Bs),(∀x∈xs,wO x=true)→Un (P++xs.flatten++Z) xs.length P.length=some (UR P.length xs,P.length+xs.flatten.length)
 | [],P,Z,_=>rfl
 | x::xs,P,Z,h=>by
  have hx:=h x (by simp);have hd:(P++(x::xs).flatten++Z).drop P.length=x++(xs.flatten++Z):=by
   rw[List.flatten_cons,List.append_assoc,List.append_assoc,List.drop_left]
  have hl:=aH (Z:=xs.flatten++Z) hx;have ih:=kC xs (P++x) Z (fun y hy=>h y (List.mem_cons_of_mem _ hy));have e:P++(x::xs).flatten++Z=P++x++xs.flatten++Z:=by rw[List.flatten_cons,List.append_assoc P x]
  rw[List.length_append] at ih;show Un _ (xs.length+1) P.length=_;unfold Un;rw[hd,hl,e];simp only[if_true,ih,Option.map_some];show some (_,_)=some (_,_);rw[List.flatten_cons,List.length_append,Nat.add_assoc]; rfl
theorem XG{d:Bs}:∀{k a:Nat} {l:List Pl} {e:Nat},Un d k a=some (l,e)→a≤d.length→∃xs:List Bs,xs.length=k∧(∀x∈xs,wO x=true)∧l=UR a xs∧d.drop a=xs.flatten++d.drop e∧l.map (Vx d)=xs∧e=a+xs.flatten.length
 | 0,a,l,e,h,ha=>by
  obtain⟨rfl,rfl⟩:=Prod.mk.inj (Option.some.inj h);exact⟨[],rfl,fun x hx=>by simp at hx,rfl,rfl,rfl,rfl⟩
 | k+1,a,l,e,h,ha=>by
  unfold Un at h;split at h
  ·next h2=>
   have hl:lead (d.drop a)=((lead (d.drop a)).1,true):=by rw[←h2]
   have hp:=W9 hl;have hv:=(uL.1 hl).2;rw[List.length_drop] at hp;cases hx:Un d k (a+(lead (d.drop a)).1) with
   | none=>rw[hx] at h; cases h
   | some x=>
    obtain⟨l2,e2⟩:=x;rw[hx] at h;obtain⟨rfl,rfl⟩:=Prod.mk.inj (Option.some.inj h);obtain⟨xs,i1,i2,i3,i4,i5,i6⟩:=XG hx (by omega);have hlen:((d.drop a).take (lead (d.drop a)).1).length=(lead (d.drop a)).1:=by rw[List.length_take,List.length_drop]; omega
    refine⟨(d.drop a).take (lead (d.drop a)).1::xs,by rw[List.length_cons,i1],fun y hy=>?_,?_,?_,?_,?_⟩
    ·rcases List.mem_cons.1 hy with rfl | hy
     ·exact hv
     ·exact i2 y hy
    ·show _=(⟨a,_⟩:Pl)::UR _ xs;rw[hlen,i3]
    ·rw[List.flatten_cons,List.append_assoc, ←i4, ←List.drop_drop,List.take_append_drop]
    ·rw[List.map_cons,i5]; rfl
    ·rw[List.flatten_cons,List.length_append,hlen,i6,Nat.add_assoc]
  ·cases h
theorem VX{t:Int}{x:Nat × Nat × Nat}(h:ZN t=some x):t≠1∧t≠28∧t≠16∧1≤x.2.1:=by
 unfold ZN at h;split at h
 ·obtain rfl:=Option.some.inj h; exact⟨by omega,by omega,by omega,Nat.le_refl _⟩
 ·split at h
  ·obtain rfl:=Option.some.inj h; exact⟨by omega,by omega,by omega,Nat.le_refl _⟩
  ·split at h
   ·obtain rfl:=Option.some.inj h; exact⟨by omega,by omega,by omega,Nat.le_refl _⟩
   ·split at h
    ·obtain rfl:=Option.some.inj h; exact⟨by omega,by omega,by omega,by decide⟩
    ·cases h
/-- data in three parts: bytes, names, bytes -/
structure Form(t:Int)(d:Bs)(P:Bs)(xs:List Bs)(Z:Bs):Prop where
 shape:ZN t=some (P.length,xs.length,Z.length)
 eq:d=P++xs.flatten++Z
 wO:∀x∈xs,wO x=true
theorem Form.U5{t:Int}{d P:Bs}{xs:List Bs}{Z:Bs}(h:Form t d P xs Z):U5 t d=some (UR P.length xs):=by
 unfold Proofs.YtekgciopamkjlaaGreat.U5;rw[h.shape];have:=kC xs P Z h.wO;rw[←h.eq] at this;have hl:d.length=P.length+xs.flatten.length+Z.length:=by rw[h.eq,List.length_append,List.length_append]
 simp only;rw[if_neg (by omega),this];simp only;rw[if_pos hl]
theorem Form.ok{t:Int}{d P:Bs}{xs:List Bs}{Z:Bs}(h:Form t d P xs Z)(hd:d.length≤1000):Zo t d=true∧prt t d=UR P.length xs:=by
 have hk:=VX h.shape;have h1:Zo t d=true:=by
  unfold Zo;rw[if_neg (by omega),if_neg hk.1,if_neg hk.2.1,if_neg hk.2.2.1,h.U5]; rfl
 refine⟨h1,?_⟩;unfold prt;rw[if_pos h1,h.U5]; rfl
theorem wh{t:Int}{d:Bs}(h:Zo t d=true):d.length≤1000:=by
 unfold Zo at h;split at h
 ·cases h
 ·omega
theorem Xl{t:Int}{d:Bs}(h:Zo t d=true){x:Nat × Nat × Nat}(hs:ZN t=some x):∃P xs Z,Form t d P xs Z∧(prt t d).map (Vx d)=xs:=by
 have hk:=VX hs;have h0:=h;have hlen:=wh h;unfold Zo at h;rw[if_neg (by omega),if_neg hk.1,if_neg hk.2.1,if_neg hk.2.2.1] at h;have hprt:∀l,U5 t d=some l→prt t d=l:=fun l hl=>by unfold prt; rw[if_pos h0,hl]; rfl
 obtain⟨a,k,b⟩:=x;unfold U5 at h hprt;rw[hs] at h hprt;simp only at h hprt;split at h
 ·cases h
 ·next ha=>
  rw[if_neg ha] at hprt;split at h
  ·next l e hp=>
   rw[hp] at hprt;split at h
   ·next he=>
    obtain⟨xs,i1,i2,i3,i4,i5,i6⟩:=XG hp (by omega);have hpe:=hprt l (by simp only; rw[if_pos he]);refine⟨d.take a,xs,d.drop e,⟨?_,?_,i2⟩,by rw[hpe]; exact i5⟩
    ·rw[hs,i1,List.length_take,List.length_drop];congr 2
     ·omega
     ·congr 1; omega
    ·rw[List.append_assoc, ←i4,List.take_append_drop]
   ·cases h
  ·cases h
theorem Wt{t:Int}{d:Bs}(hs:ZN t=none):prt t d=[]:=by
 unfold prt U5;rw[hs];split<;>rfl
theorem Y7:∀(xs zs:List Bs) (P Z:Bs),zs.length=xs.length→splice (P++xs.flatten++Z) P.length (UR P.length xs) zs=zs.flatten++Z
 | [],zs,P,Z,h=>by
  have:zs=[]:=List.length_eq_zero_iff.1 h;subst this;show(P++[]++Z).drop P.length=[]++Z;rw[List.append_nil,List.drop_left]; rfl
 | x::xs,[],P,Z,h=>by simp at h
 | x::xs,y::zs,P,Z,h=>by
  have ih:=Y7 xs zs (P++x) Z (by simpa using h);have e:P++(x::xs).flatten++Z=P++x++xs.flatten++Z:=by rw[List.flatten_cons,List.append_assoc P x]
  rw[List.length_append] at ih;rw[e];show((P++x++xs.flatten++Z).drop P.length).take (P.length-P.length)++y++splice (P++x++xs.flatten++Z) (P.length+x.length) (UR (P.length+x.length) xs) zs=_;rw[ih,Nat.sub_self,List.take_zero,List.nil_append,List.flatten_cons,List.append_assoc]
theorem Form.splice{t:Int}{d P:Bs}{xs:List Bs}{Z:Bs}(h:Form t d P xs Z){zs:List Bs}(hy:zs.length=xs.length):splice d 0 (UR P.length xs) zs=P++zs.flatten++Z:=by
 have hk:=(VX h.shape).2.2.2;have:=Y7 xs zs P Z hy;rw[←h.eq] at this;cases xs with
 | nil=>simp at hk
 | cons x xs=>
  cases zs with
  | nil=>simp at hy
  | cons y zs=>
   have e1:Proofs.YtekgciopamkjlaaGreat.splice d P.length (UR P.length (x::xs)) (y::zs)=y++Proofs.YtekgciopamkjlaaGreat.splice d (P.length+x.length) (UR (P.length+x.length) xs) zs:=by
    show(d.drop P.length).take (P.length-P.length)++y++_=_;rw[Nat.sub_self,List.take_zero]; rfl
   rw[e1] at this;show(d.drop 0).take (P.length-0)++y++Proofs.YtekgciopamkjlaaGreat.splice d (P.length+x.length) (UR (P.length+x.length) xs) zs=_;rw[List.append_assoc,this,List.drop_zero,Nat.sub_zero,List.append_assoc];congr 1;rw[h.eq,List.append_assoc,List.take_left]
/-- folded -/
theorem Form.fold{t:Int}{d P:Bs}{xs:List Bs}{Z:Bs}(h:Form t d P xs Z):Form t (P++(xs.map zk).flatten++Z) P (xs.map zk) Z:=by
 refine⟨by rw[List.length_map]; exact h.shape,rfl,fun x hx=>?_⟩;obtain⟨y,hy,rfl⟩:=List.mem_map.1 hx;rw[VF]; exact h.wO y hy
theorem uZ(xs:List Bs):(xs.map zk).map List.length=xs.map List.length:=by
 rw[List.map_map]; exact List.map_congr_left fun x _=>wE x
theorem y8(xs zs:List Bs)(h:xs.map List.length=zs.map List.length):xs.flatten.length=zs.flatten.length:=by
 rw[List.length_flatten,List.length_flatten,h]
theorem Form.cut{t:Int}{d P:Bs}{xs:List Bs}{Z:Bs}(h:Form t d P xs Z)(hd:d.length≤1000):(prt t d).map (Vx d)=xs:=by
 rw[(h.ok hd).2];have:=kC xs P Z h.wO;rw[←h.eq] at this;obtain⟨zs,_,_,i3,i4,i5,i6⟩:=XG this (by rw[h.eq,List.length_append,List.length_append]; omega);rw[i5];have hm:UR P.length xs=UR P.length zs:=i3
 -- the same lengths, the same bytes
 have key:∀(a:Nat) (xs zs:List Bs) (Z Z':Bs),UR a xs=UR a zs→xs.flatten++Z=zs.flatten++Z'→xs=zs:=by
  intro a xs
  induction xs generalizing a with
  | nil=>
   intro zs Z Z' h1 _;cases zs with
   | nil=>rfl
   | cons y zs=>cases h1
  | cons x xs ih=>
   intro zs Z Z' h1 h2;cases zs with
   | nil=>cases h1
   | cons y zs=>
    have h3:(⟨a,x.length⟩:Pl)::UR (a+x.length) xs=⟨a,y.length⟩::UR (a+y.length) zs:=h1;obtain⟨h4,h5⟩:=List.cons.inj h3;have hl:x.length=y.length:=congrArg Pl.n h4;rw[List.flatten_cons,List.flatten_cons,List.append_assoc,List.append_assoc] at h2;obtain⟨h6,h7⟩:=List.append_inj h2 hl;rw[h6,ih _ _ _ _ (by rw[hl] at h5; rw[←hl] at h5; rw[h5,hl]) h7]
 refine(key P.length xs zs Z (d.drop (P.length+xs.flatten.length)) hm ?_).symm;rw[←i4,h.eq,List.append_assoc,List.drop_left]
theorem Form.KN{t:Int}{d P:Bs}{xs:List Bs}{Z:Bs}(h:Form t d P xs Z):(P++(xs.map zk).flatten++Z).length=d.length:=by
 rw[h.eq,List.length_append,List.length_append,List.length_append,List.length_append,y8 _ _ (uZ xs)]
theorem Uf{t:Int}{d P:Bs}{xs:List Bs}{Z:Bs}(h:Form t d P xs Z)(hd:d.length≤1000):wK t d=P++(xs.map zk).flatten++Z:=by
 have h1:=h.cut hd;unfold wK;have:((prt t d).map fun p=>zk (Vx d p))=xs.map zk:=by rw[←h1,List.map_map]; rfl
 rw[this,(h.ok hd).2];exact h.splice (by rw[List.length_map])
theorem Ue{t:Int}{d:Bs}(hs:ZN t=none):wK t d=d:=by
 unfold wK;rw[Wt hs]; rfl
/-- data folded is as good -/
theorem XZ{t:Int}{d:Bs}(h:Zo t d=true):Zo t (wK t d)=true∧prt t (wK t d)=prt t d∧(wK t d).length=d.length:=by
 cases hs:ZN t with
 | none=>rw[Ue hs]; exact⟨h,rfl,rfl⟩
 | some x=>
  have hd:=wh h;obtain⟨P,xs,Z,hf,_⟩:=Xl h hs;rw[Uf hf hd];have hl:=hf.KN;obtain⟨h1,h2⟩:=hf.fold.ok (by omega);exact⟨h1,by rw[h2,(hf.ok hd).2,KF (uZ xs)],hl⟩
theorem Yt{r:RR}{P:Bs}{xs:List Bs}{Z:Bs}(h:Form r.t r.d P xs Z)(hd:r.d.length≤1000){ids:List Int}(hi:ids.length=xs.length):vw r ids=P++(ids.map U1).flatten++Z:=by
 unfold vw;rw[(h.ok hd).2];exact h.splice (by rw[List.length_map,hi])
theorem Yq{r:RR}(hs:ZN r.t=none)(ids:List Int):vw r ids=r.d:=by
 unfold vw;rw[Wt hs];cases ids<;>rfl
theorem JG:∀(ids:List Int),(ids.map U1).flatten.length=4*ids.length
 | []=>rfl
 | i::l=>by rw[List.map_cons,List.flatten_cons,List.length_append,JG l,List.length_cons,U1,ZC]; omega
theorem Jl:∀(a:Nat) (xs:List Bs),wJ ((UR a xs).map fun p=>4-(p.n:Int))=4*(xs.length:Int)-(xs.flatten.length:Int)
 | _,[]=>rfl
 | a,x::xs=>by
  show wJ ((4-(x.length:Int))::(UR (a+x.length) xs).map fun p=>4-(p.n:Int))=_;rw[V9,Jl,List.flatten_cons,List.length_append,List.length_cons]
  push_cast
  omega
theorem KR{r:RR}(h:Zo r.t r.d=true){ids:List Int}(hi:ids.length=(prt r.t r.d).length):((vw r ids).length:Int)=Wj r-2:=by
 unfold Wj;cases hs:ZN r.t with
 | none=>rw[Yq hs,Wt hs]; show(r.d.length:Int)=2+r.d.length+0-2; omega
 | some x=>
  have hd:=wh h;obtain⟨P,xs,Z,hf,_⟩:=Xl h hs;have hp:=(hf.ok hd).2;rw[hp,kH] at hi;rw[Yt hf hd hi,hp,Jl,hf.eq];rw[List.length_append,List.length_append,List.length_append,List.length_append,JG,hi]
  push_cast
  omega
theorem bV{r:RR}(h:Zo r.t r.d=true):2≤Wj r:=by
 have:=KR h (ids:=List.replicate (prt r.t r.d).length 0) (by simp);omega
theorem Kz:∀{l:List RR} {ids:List Int},(∀r∈l,Zo r.t r.d=true)→ids.length=((l.map Zk).flatten).length→((Ub l ids).length:Int)=wJ (l.map Wj)
 | [],_,_,_=>rfl
 | r::l,ids,h,hi=>by
  rw[List.map_cons,List.flatten_cons,List.length_append,Zk,List.length_map] at hi;have hd:vw r ids=vw r (ids.take (prt r.t r.d).length):=by
   unfold vw;have key:∀(d:Bs) (l:List Pl) (a:Nat) (xs:List Bs),splice d a l xs=splice d a l (xs.take l.length):=by
    intro d l
    induction l with
    | nil=>intro a xs; cases xs<;>rfl
    | cons p l ih=>
     intro a xs;cases xs with
     | nil=>rfl
     | cons x xs=>
      show _=splice d a (p::l) (x::xs.take l.length);show(d.drop a).take (p.at_-a)++x++splice d (p.at_+p.n) l xs=(d.drop a).take (p.at_-a)++x++splice d (p.at_+p.n) l (xs.take l.length);rw[←ih]
   rw[key,List.map_take]
  have h1:=KR (h r (by simp)) (ids:=ids.take (prt r.t r.d).length) (by rw[List.length_take]; omega);have ih:=Kz (l:=l) (ids:=ids.drop (prt r.t r.d).length) (fun x hx=>h x (List.mem_cons_of_mem _ hx)) (by rw[List.length_drop]; omega);show((U0 2 (vw r ids).length++vw r ids++Ub l (ids.drop (prt r.t r.d).length)).length:Int)=_;rw[List.length_append,List.length_append,ZC,List.map_cons,V9, ←ih];rw[←hd] at h1
  push_cast
  omega
theorem yH{s:St}{ids:List Int}(h:∀r∈s.rrs,Zo r.t r.d=true)(hi:ids.length=(zS s).length):((Wn s ids).length:Int)=Zg s:=by
 have h1:ids.length=((s.rrs.map Zk).flatten).length+2:=by rw[hi]; rfl
 have:=Kz (l:=s.rrs) (ids:=ids.drop 2) h (by rw[List.length_drop]; omega);unfold Wn Zg U1;simp only[List.length_append,ZC];rw[←this]
 push_cast
 omega
theorem wM{s:St}(h:WC s=true):∀r∈s.rrs,Zo r.t r.d=true∧r.t=s.typ:=fun r hr=>by
 unfold WC at h;simp only[Bool.and_eq_true] at h;have:=List.all_eq_true.1 h.2 r hr;unfold vT at this;simp only[Bool.and_eq_true,decide_eq_true_eq] at this;exact⟨this.2,this.1.1.2⟩
theorem VK{s:St}(h:WC s=true):wO s.name=true∧wO s.zone=true∧1≤s.typ∧s.typ≤65535∧0≤s.kind∧s.kind≤2∧s.rrs.length≤32∧(0<s.rrs.length↔s.kind=0):=by
 unfold WC at h;simp only[Bool.and_eq_true,decide_eq_true_eq,beq_iff_eq] at h;obtain⟨⟨⟨⟨⟨h1,h2⟩,h3⟩,h4⟩,h5⟩,_⟩:=h;exact⟨h1,h2,h3.1,h3.2.1,h3.2.2.1,h3.2.2.2,h4,decide_eq_decide.1 h5⟩
theorem aR{s:St}(h:WC s=true):WC (Zr s)=true∧Zg (Zr s)=Zg s:=by
 have hn:=VK h;have hd:=wM h;constructor
 ·unfold WC Zr;simp only[Bool.and_eq_true,decide_eq_true_eq,beq_iff_eq,List.length_map];refine⟨⟨⟨⟨⟨by rw[VF]; exact hn.1,by rw[VF]; exact hn.2.1⟩,⟨hn.2.2.1,hn.2.2.2.1,hn.2.2.2.2.1,hn.2.2.2.2.2.1⟩⟩,hn.2.2.2.2.2.2.1⟩,decide_eq_decide.2 hn.2.2.2.2.2.2.2⟩,List.all_eq_true.2 fun r hr=>?_⟩;obtain⟨x,hx,rfl⟩:=List.mem_map.1 hr;obtain⟨h1,h2⟩:=hd x hx;unfold vT Uw;simp only[Bool.and_eq_true,decide_eq_true_eq,beq_self_eq_true,VF,hn.1,and_self,true_and];exact⟨⟨h2,trivial⟩,(XZ h1).1⟩
 ·unfold Zg Zr;simp only[List.map_map];congr 2;refine List.map_congr_left fun r hr=>?_
  obtain⟨h2,h3,h4⟩:=XZ (hd r hr).1;show Wj ⟨zk s.name,r.t,1,0,wK r.t r.d⟩=Wj r;unfold Wj;simp only;rw[h3,h4]
theorem kN(Y:Bs)(j k:Nat):(⟨Y.toArray⟩:ByteArray).extract j k=⟨((Y.drop j).take (k-j)).toArray⟩:=by
 apply ByteArray.ext;rw[ByteArray.data_extract];apply Array.toList_inj.1;simp
theorem l5(Y Z:Bs):(⟨Y.toArray⟩:ByteArray)++(⟨Z.toArray⟩:ByteArray)=⟨(Y++Z).toArray⟩:=by
 apply ByteArray.ext;rw[ByteArray.data_append];simp
theorem Xg{E:Env}{x i:Operand}{Y:Bs}{j:Nat}{q:IntKind}(h1:ev E x=sv Y)(h2:ev E i= .int q (j:Int))(h:j≤Y.length):zn (ev E) (.sslc x (some i) none)=some (sv (Y.drop j)):=by
 rw[dI (s:=⟨Y.toArray⟩) h1 h2 h,uH,kN,List.take_of_length_le (by rw[List.length_drop]; omega)]
theorem nJ{E:Env}{x i:Operand}{Y:Bs}{j:Nat}{q:IntKind}(h1:ev E x=sv Y)(h2:ev E i= .int q (j:Int))(h:j≤Y.length):zn (ev E) (.sslc x none (some i))=some (sv (Y.take j)):=by
 rw[nM (s:=⟨Y.toArray⟩) h1 h2 h,kN,List.drop_zero,Nat.sub_zero]
theorem KD{E:Env}{x i i':Operand}{Y:Bs}{j k:Nat}{q q':IntKind}(h1:ev E x=sv Y)(h2:ev E i= .int q (j:Int))(h2':ev E i'= .int q' (k:Int))(h:j≤k∧k≤Y.length):zn (ev E) (.sslc x (some i) (some i'))=some (sv ((Y.drop j).take (k-j))):=by
 rw[fA (s:=⟨Y.toArray⟩) h1 h2 h2' h,kN]
theorem dL{E:Env}{x y:Operand}{Y Z:Bs}(h1:ev E x=sv Y)(h2:ev E y=sv Z)(h:Y.length+Z.length≤9223372036854775807):zn (ev E) (.bin .add x y)=some (sv (Y++Z)):=by
 simp only[zn,h1,h2,WK,JZ,uH];rw[if_pos h,l5]
theorem XC{Y Z:Bs}:(⟨Y.toArray⟩:ByteArray)=⟨Z.toArray⟩↔Y=Z:=⟨fun h=>by have:=congrArg (fun b:ByteArray=>b.data.toList) h; simpa using this,fun h=>by rw[h]⟩
theorem jH{E:Env}{S:zq}{t u s q:Tmp}{v v' v'' v3:Value}(hv:E t=v)(hv':E u=v')(hv'':E s=v'')(hv3:E q=v3):X5 Tryz.prog #[.tmp t,.tmp u,.tmp s,.tmp q] E S (.tuple #[v,v',v'',v3]):=fun fn F w tmps h _ he=>by
 rw[←hv, ←hv', ←hv'', ←hv3, ←he];simp[results,h,Sem.run_bind,Sem.run,Result.andThen,pure]
/-- append(b, s...) -/
theorem eH{r:Option Nat}{n:Nat}{K:Env→zq→Prop}{E:Env}{S G:zq}{d:Option Tmp}{e bytes:Nat}{z:List Value}{s x:Operand}{v:Value}{L Y:Bs}{H:List Chunk}[hp:Pick S H G](hs:ev E s=v)(hx:ev E x=sv Y)(hL:Zf e v L H)
 (hz:enc (0:UInt8)=z) (hb:(L.length+Y.length)*bytes≤140737488355328) (hl:L.length+Y.length≤9223372036854775807)
 (h:∀v' H',Zf e v' (L++Y) H'→K (Zh d v' E) (H'::G)):YO Tryz.prog r n d (.app e 1 bytes z s x) K E S:=by
 refine eG (α:=UInt8) hs hx hL (fun F w _=>⟨?_,?_⟩) rfl (0:UInt8) hz hb hl h
 ·show(pure (⟨Y.toArray⟩:ByteArray).size:Sem Nat).run Tryz.prog w=_;simp[pure,uH]
 ·show(pure (((⟨Y.toArray⟩:ByteArray).extract 0 Y.length).data.map fun b=>Value.int .u8 b.toNat):Sem (Array Value)).run Tryz.prog w=_;rw[kN,List.drop_zero,Nat.sub_zero,List.take_length];have:(Y.toArray.map fun b=>Value.int .u8 b.toNat)=(cells Y).toArray:=by
   apply Array.toList_inj.1;rw[uO]; simp
  rw[this]; rfl
def bY(t:Int):Value:=match ZN t with
 | some (a,k,b)=> .tuple #[.int .i64 (a:Int),.int .i64 (k:Int),.int .i64 (b:Int),.bool true]
 | none=> .tuple #[.int .i64 0,.int .i64 0,.int .i64 0,.bool false]
theorem Jr(t:Int):Tri Tryz.prog 143 #[.int .i64 t] [] (fun r S=>r=bY t∧S=[]):=by
 refine Tri.forget (zB Tryz.pW (Nat.le_of_ble_eq_true rfl) ?_);unfold Tryz.mg;unfold bY ZN;refine ze (z8 (yp pC (yp pC (yp pC (yp pC (zf (za (ze (ze (z8 (yp (pI rfl) (zf (za (zw (ze (ze (z8 (yp (WA rfl rfl) (yp (pB rfl) (zf (za ?_)))))))))))))))))))));by_cases h1:t=2
 ·rw[decide_eq_true h1,if_pos (.inl h1)];refine zC rfl (zx (za (zC rfl (ze (z8 (yp pC (yp pC (yp pC (yp pC (zf (za (zH (bret (zP ?_))))))))))))));exact zG (jH rfl rfl rfl rfl) ⟨_,.of,rfl,rfl⟩
 rw[decide_eq_false h1];refine zA rfl (ze (z8 (yp (WA rfl rfl) (yp (pB rfl) (zf (za ?_))))));by_cases h2:t=5
 ·rw[decide_eq_true h2,if_pos (.inr (.inl h2))];refine zC rfl (zx (za (zC rfl (ze (z8 (yp pC (yp pC (yp pC (yp pC (zf (za (zH (bret (zP ?_))))))))))))));exact zG (jH rfl rfl rfl rfl) ⟨_,.of,rfl,rfl⟩
 rw[decide_eq_false h2];refine zA rfl (z8 (yp (WA rfl rfl) (yp (pB rfl) (zf (za ?_)))));by_cases h3:t=12
 ·rw[decide_eq_true h3,if_pos (.inr (.inr h3))];refine zC rfl (ze (z8 (yp pC (yp pC (yp pC (yp pC (zf (za (zH (bret (zP ?_)))))))))));exact zG (jH rfl rfl rfl rfl) ⟨_,.of,rfl,rfl⟩
 rw[decide_eq_false h3,if_neg (show ¬(t=2∨t=5∨t=12) from by omega)];refine zA rfl (ze (z8 (yp (WA rfl rfl) (yp (pB rfl) (zf (za ?_))))));by_cases h4:t=15
 ·rw[decide_eq_true h4,if_pos h4];refine zC rfl (ze (z8 (yp pC (yp pC (yp pC (yp pC (zf (za (zH (bret (zP ?_)))))))))));exact zG (jH rfl rfl rfl rfl) ⟨_,.of,rfl,rfl⟩
 rw[decide_eq_false h4,if_neg h4];refine zA rfl (ze (z8 (yp (WA rfl rfl) (yp (pB rfl) (zf (za ?_))))));by_cases h5:t=33
 ·rw[decide_eq_true h5,if_pos h5];refine zC rfl (ze (z8 (yp pC (yp pC (yp pC (yp pC (zf (za (zH (bret (zP ?_)))))))))));exact zG (jH rfl rfl rfl rfl) ⟨_,.of,rfl,rfl⟩
 rw[decide_eq_false h5,if_neg h5];refine zA rfl (ze (z8 (yp (WA rfl rfl) (yp (pB rfl) (zf (za ?_))))));by_cases h6:t=6
 ·rw[decide_eq_true h6,if_pos h6];refine zC rfl (ze (z8 (yp pC (yp pC (yp pC (yp pC (zf (za (zH (bret (zP ?_)))))))))));exact zG (jH rfl rfl rfl rfl) ⟨_,.of,rfl,rfl⟩
 rw[decide_eq_false h6,if_neg h6];refine zA rfl (zx (zY (za (ze (z8 (yp pC (yp pC (yp pC (yp pC (zf (za (zH ?_))))))))))));exact zG (jH rfl rfl rfl rfl) ⟨_,.of,rfl,rfl⟩
theorem KC(t:Int)(d:Bs)(hd:d.length<2 ^ 40):Tri Tryz.prog 97 #[.int .i64 t,sv d] [] (fun r S=>∃v L H,r= .tuple #[v,.bool (U5 t d).isSome]∧Zf 157 v (L:List Pl) H∧(∀l,U5 t d=some l→L=l)∧S=[H]):=by
 refine Tri.forget (zB Tryz.Ay (Nat.le_of_ble_eq_true rfl) ?_);unfold Tryz.Ck;refine ze (z8 (yp pC (yp pC (zf (za (ze (z8 (yp (pI rfl) ?_))))))));refine zh (zm (Jr t) rfl rfl fun r S' h=>?_);obtain⟨rfl,rfl⟩:=h;have hno:∀{v:Value},(U5 t d)=none→v= .tuple #[.slice none 0 0,.bool false]→∀S,∃S'',zM S S''∧∃w L H,v= .tuple #[w,.bool (U5 t d).isSome]∧Zf 157 w (L:List Pl) H∧(∀l,U5 t d=some l→L=l)∧S''=[H]:=fun h hv S=>⟨[[]],⟨S.flatten,by simp⟩,_,[],[],by rw[h]; exact hv,.nil,fun l hl=>by(rw[h] at hl; cases hl),rfl⟩
 unfold bY;cases hs:ZN t with
 | none=>
  have hp:U5 t d=some []:=by unfold U5; rw[hs]
  simp only;refine yp (pU rfl) (yp (pExt rfl rfl) (yp (pExt rfl rfl) (yp (pExt rfl rfl) (yp (pExt rfl rfl) (yp (pI rfl) (yp (pI rfl) (yp (pI rfl) (yp (pB rfl) (zf (za (ze (ze (z8 (yp (pB rfl) (yp (Ze rfl) (zf (za (zC rfl (ze (z8 (yp pC (yp pC (zf (za (zH (zP ?_))))))))))))))))))))))))));exact zG (kg rfl rfl) ⟨[[]],⟨[],by simp⟩,_,[],[],by rw[hp]; rfl,.nil,fun l hl=>by rw[hp] at hl; exact Option.some.inj hl,rfl⟩
 | some x=>
  obtain⟨a,k,b⟩:=x;have hp:U5 t d=if d.length<a then none else match Un d k a with
   | some (l,e)=>if d.length=e+b then some l else none
   | none=>none:=by unfold U5; rw[hs]; try rfl
  have hab:a≤6∧k≤2∧b≤20:=VH hs;simp only;refine yp (pU rfl) (yp (pExt rfl rfl) (yp (pExt rfl rfl) (yp (pExt rfl rfl) (yp (pExt rfl rfl) (yp (pI rfl) (yp (pI rfl) (yp (pI rfl) (yp (pB rfl) (zf (za (ze (ze (z8 (yp (pB rfl) (yp (Ze rfl) (zf (za (zA rfl (zx (za (ze (ze (z8 (yp (pT rfl) (yp (ZV rfl) (yp (pI rfl) (yp (w9 rfl rfl) (zf (za ?_)))))))))))))))))))))))))))));rw[uH];by_cases h1:d.length<a
  ·rw[decide_eq_true (show(d.length:Int)<(a:Int) from by omega)];rw[if_pos h1] at hp;refine zC rfl (ze (z8 (yp pC (yp pC (zf (za (zH (zP ?_))))))));exact zG (kg rfl rfl) (hno hp rfl _)
  rw[decide_eq_false (show ¬(d.length:Int)<(a:Int) from by omega)];rw[if_neg h1] at hp;refine zA rfl (zx (za (ze (z8 (yp (pI rfl) (yp (pI rfl) (zf (za (ze (ze (z8 (yp (pI rfl) (yp pC (zf (za (zw ?_))))))))))))))));refine Z7 (σ:=Nat) (fun i E S=>∃(v:Value) (L:List Pl) (H:List Chunk) (e:Nat),Has E [(1,sv d),(8,.int .i64 (b:Int)),(10,.int .i64 (e:Int)),(27,.int .i64 (k:Int)),(28,.int .i64 (i:Int))]∧E 4=v∧Zf 157 v L H∧L.length=i∧i≤k∧e≤d.length∧Un d k a=(Un d (k-i) e).map (fun x=>(L++x.1,x.2))∧zM S [H]) (fun i=>k-i) 0
   ⟨_,[],[],a,⟨rfl,rfl,rfl,rfl,rfl,trivial⟩,rfl,.nil,rfl,Nat.zero_le _,by omega,by cases Un d (k-0) a<;>rfl,⟨[],by simp⟩⟩ fun i E S ⟨v,L,H,e,hE,hE4,hL,hLl,hi,he,hx,hJ⟩=>?_
  obtain⟨la,lc,rfl⟩:=hL.isSlice;have hE2:Has E [(1,sv d),(4,.slice la L.length lc),(8,.int .i64 (b:Int)),(10,.int .i64 (e:Int)),(27,.int .i64 (k:Int)),(28,.int .i64 (i:Int))]:=⟨hE.1,hE4,hE.2⟩
  clear hE hE4;obtain⟨E0,e0⟩:=zu hE2; subst e0; clear hE2;refine zy hJ (ze (z8 (yp (w9 rfl rfl) (zf (za (ze ?_))))));refine zU rfl (fun h2=>?_) (fun h2=>?_)
  ·obtain⟨m,hm⟩:∃m,k-i=m+1:=⟨k-i-1,by omega⟩
   rw[hm,Un] at hx;refine zx (za (ze (zw (ze (z8 (yp (pT rfl) (yp (pI rfl) (yp (Xg (Y:=d) rfl rfl he) ?_))))))))
   skip
   refine zh (zm (aD (d.drop e) (by rw[List.length_drop]; omega)) rfl rfl fun r S' h=>?_);obtain⟨rfl,rfl⟩:=h;cases hb:(lead (d.drop e)).2 with
   | false=>
    rw[hb,if_neg (by decide)] at hx;rw[hx] at hp;refine yp (pU rfl) (yp (pExt rfl rfl) (yp (pExt rfl rfl) (yp (pI rfl) (yp (pB rfl) (zf (za (ze (ze (z8 (yp (pB rfl) (yp (Ze rfl) (zf (za (zC rfl (ze (z8 (yp pC (yp pC (zf (za (zH (zP (bret (zP (zP (bret (zP ?_)))))))))))))))))))))))))));exact zG (kg rfl rfl) (hno hp rfl _)
   | true=>
    rw[hb,if_pos rfl] at hx;have hl:=W9 (show lead (d.drop e)=((lead (d.drop e)).1,true) from by rw[←hb]);rw[List.length_drop] at hl;generalize (lead (d.drop e)).1=n at hx hl;refine yp (pU rfl) (yp (pExt rfl rfl) (yp (pExt rfl rfl) (yp (pI rfl) (yp (pB rfl) (zf (za (ze (ze (z8 (yp (pB rfl) (yp (Ze rfl) (zf (za (zA rfl (zx (za (ze (z8 (yp (pS rfl) (yp (pI rfl) (yp (pI rfl) (yp (UD (U4 rfl) (U4 rfl)) ?_))))))))))))))))))))));refine zh (Zu (⟨e,n⟩:Pl) rfl rfl (by decide) (by decide) rfl fun p43=>?_);refine zh (Zj (Y:=[(⟨e,n⟩:Pl)]) rfl rfl hL (.lit (by repeat (first | exact List.mem_cons_self | apply List.mem_cons_of_mem)) rfl) rfl (⟨0,0⟩:Pl) rfl (by simp; omega) (by simp; omega) fun v2 H2 hL2=>?_);obtain⟨la2,lc2,rfl⟩:=hL2.isSlice;refine yp (pS rfl) (zf (za (z8 (yp (pI rfl) (yp (pI rfl) (yp (Zy rfl rfl (by omega)) (yp (pI rfl) (zf (zY (za (z8 (yp (Z9 rfl rfl (by omega)) (yp (pI rfl) (zf (za ?_)))))))))))))));refine⟨i+1,⟨.slice la2 (L++[(⟨e,n⟩:Pl)]).length lc2,L++[⟨e,n⟩],H2,e+n,⟨rfl,rfl,rfl,rfl,rfl,trivial⟩,rfl,hL2,by simp[hLl],by omega,by omega,?_,.of⟩,by omega⟩;rw[hx,Option.map_map,show k-(i+1)=m from by omega];congr 1;funext x;simp
  ·obtain rfl:i=k:=by omega
   rw[Nat.sub_self,Un] at hx;rw[hx] at hp;simp only[Option.map_some,List.append_nil] at hp;refine Z0 (zF (zF (Z4 (za (ze (z8 (yp (pS rfl) (yp (pT rfl) (yp (ZV rfl) (yp (pI rfl) ?_))))))))));rw[uH];refine yp (wU rfl rfl (by omega)) (yp (pI rfl) (yp (WA rfl rfl) (yp (pS rfl) (yp (pB rfl) (zf (za (zH ?_)))))));by_cases h3:d.length=e+b
   ·rw[if_pos h3] at hp;rw[decide_eq_true (show(d.length:Int)-(e:Int)=(b:Int) from by omega)];exact zG (kg rfl rfl) ⟨_,.of,_,L,H,by rw[hp]; rfl,hL,fun l hl=>by rw[hp] at hl; exact Option.some.inj hl,rfl⟩
   ·rw[if_neg h3] at hp;rw[decide_eq_false (show ¬(d.length:Int)-(e:Int)=(b:Int) from by omega)];exact zG (kg rfl rfl) ⟨_,.of,_,L,H,by rw[hp]; rfl,hL,fun l hl=>by(rw[hp] at hl; cases hl),rfl⟩
theorem Km{f:Nat}{d:Bs}{a:Nat}{b:UInt8}(h:d[a]?=some b):Q5 (f+1) d a=Q5 f d (a+1+b.toNat):=by rw[Q5,h]
theorem YM{f:Nat}{d:Bs}{a:Nat}(h:d.length≤a):Q5 (f+1) d a=(a==d.length):=by rw[Q5,List.getElem?_eq_none h]
theorem Du(Y:Bs):decide ((⟨Y.toArray⟩:ByteArray)=⟨#[]⟩)=decide (Y=[]):=by
 refine decide_eq_decide.2 ?_;exact XC (Z:=[])
theorem dB(d:Bs)(hd:d.length<2 ^ 40):Tri Tryz.prog 142 #[sv d] [] (fun r S=>r= .bool (txt d)∧S=[]):=by
 refine Tri.forget (zB Tryz.pX (Nat.le_of_ble_eq_true rfl) ?_);unfold Tryz.mh;refine ze (z8 (yp pC (zf (za (ze (ze (z8 (yp (pT rfl) (yp (av rfl rfl) (zf (za ?_)))))))))));rw[Du];by_cases h0:d=[]
 ·rw[decide_eq_true h0];subst h0;refine zC rfl (ze (z8 (yp pC (zf (za (zH (zP ?_)))))));exact zG (rB rfl) ⟨_,.of,rfl,rfl⟩
 rw[decide_eq_false h0];have ht:txt d=Q5 (d.length+1) d 0:=by unfold txt; rw[show(d !=[])=true from by simpa using h0]; rfl
 refine zA rfl (zx (za (ze (zw ?_))));refine Z7 (σ:=Nat) (fun a E S=>Has E [(0,sv (d.drop a))]∧a≤d.length∧(∃f,txt d=Q5 f d a∧d.length+1≤f+a)∧zM S []) (fun a=>d.length-a) 0 ⟨⟨rfl,trivial⟩,Nat.zero_le _,⟨_,ht,Nat.le_refl _⟩,.of⟩ fun a E S ⟨hE,ha,⟨f,hf,hfl⟩,hJ⟩=>?_
 obtain⟨f,rfl⟩:∃g,f=g+1:=⟨f-1,by omega⟩
 obtain⟨E0,e0⟩:=zu hE; subst e0; clear hE;refine zy hJ ?_;have hdl:(d.drop a).length=d.length-a:=List.length_drop;refine ze (ze (z8 (yp (pT rfl) (yp (nT rfl rfl) (zf (za ?_))))));rw[Du];by_cases h1:a<d.length
 ·have hy:d[a]?=some d[a]:=List.getElem?_eq_getElem h1;have hy0:(d.drop a)[0]?=some d[a]:=by rw[List.getElem?_drop]; exact hy
  generalize d[a]=b at hy hy0;have hb:=b.toNat_lt;rw[decide_eq_false (show ¬d.drop a=[] from fun h=>by rw[h] at hdl; simp at hdl; omega)];rw[Km hy] at hf;refine zC rfl (zx (za (zw (ze (z8 (yp (pT rfl) (yp (dJ (k:=0) rfl rfl hy0) (yp (ql rfl) (yp (vY rfl rfl (by omega)) (yp (pI rfl) (zf (za (ze (ze (z8 (yp (pI rfl) (yp (pT rfl) (yp (ZV rfl) (yp (Va rfl rfl) (zf (za ?_)))))))))))))))))))));rw[uH];by_cases h2:a+1+b.toNat≤d.length
  ·rw[decide_eq_false (show ¬((d.drop a).length:Int)<1+(b.toNat:Int) from by omega)];refine zA rfl (zx (za (z8 (yp (pT rfl) (yp (pI rfl) (yp (Xg (Y:=d.drop a) (j:=1+b.toNat) rfl rfl (by omega)) ?_))))));rw[List.drop_drop,show a+(1+b.toNat)=a+1+b.toNat from by omega];refine yp (pT rfl) (zf (zY (za ?_)));exact⟨a+1+b.toNat,⟨⟨rfl,trivial⟩,h2,⟨f,hf,by omega⟩,.of⟩,by omega⟩
  ·rw[decide_eq_true (show((d.drop a).length:Int)<1+(b.toNat:Int) from by omega)];obtain⟨f,rfl⟩:∃g,f=g+1:=⟨f-1,by omega⟩
   rw[YM (by omega)] at hf;refine zC rfl (ze (z8 (yp pC (zf (za (zH (zP (bret (zP (bret (zP ?_)))))))))));exact zG (rB rfl) ⟨_,.of,by rw[hf,beq_eq_false_iff_ne.2 (by omega)],rfl⟩
 ·have hda:d.drop a=[]:=List.drop_eq_nil_of_le (by omega);rw[decide_eq_true hda];rw[YM (by omega)] at hf;refine zA rfl (Z0 (zF (zF (Z4 (za (ze (z8 (yp pC (zf (za (zH ?_)))))))))));exact zG (rB rfl) ⟨_,.of,by rw[hf,beq_iff_eq.2 (by omega)],rfl⟩
theorem fJ(n:Nat):decide ((n:Int)=4)=(n==4):=by
 by_cases h:n=4
 ·rw[decide_eq_true (by omega),beq_iff_eq.2 h]
 ·rw[decide_eq_false (by omega),beq_eq_false_iff_ne.2 h]
theorem aW(n:Nat):decide ((n:Int)=16)=(n==16):=by
 by_cases h:n=16
 ·rw[decide_eq_true (by omega),beq_iff_eq.2 h]
 ·rw[decide_eq_false (by omega),beq_eq_false_iff_ne.2 h]
theorem QJ(t:Int)(d:Bs)(hd:d.length<2 ^ 40):Tri Tryz.prog 95 #[.int .i64 t,sv d] [] (fun r S=>r= .bool (Zo t d)∧S=[]):=by
 refine Tri.forget (zB Tryz.AA (Nat.le_of_ble_eq_true rfl) ?_);unfold Tryz.x95;refine ze (z8 (yp pC (zf (za (ze (z8 (yp (pI rfl) (yp (pT rfl) ?_))))))));refine zh (zm (KC t d hd) rfl rfl fun r S' h=>?_);obtain⟨v,L,H,rfl,hL,_,rfl⟩:=h;obtain⟨la,lc,rfl⟩:=hL.isSlice;unfold Zo;refine yp (pU rfl) (yp (pExt rfl rfl) (yp (pExt rfl rfl) (yp (pS rfl) (yp (pB rfl) (zf (za (ze (zw (ze (z8 (yp (pT rfl) (yp (ZV rfl) (yp (Va rfl rfl) (yp (pB rfl) (zf (za ?_))))))))))))))));rw[uH];by_cases h1:1000<d.length
 ·rw[decide_eq_true (show(1000:Int)<(d.length:Int) from by omega),if_pos h1];refine zC rfl (ze (z8 (yp pC (zf (za (zH (bret (zP ?_))))))));exact zG (rB rfl) ⟨[],⟨H,by simp⟩,rfl,rfl⟩
 rw[decide_eq_false (show ¬(1000:Int)<(d.length:Int) from by omega),if_neg h1];refine zA rfl (ze (z8 (yp (pI rfl) (yp (WA rfl rfl) (yp (pB rfl) (zf (za ?_)))))));by_cases h2:t=1
 ·rw[decide_eq_true h2,if_pos h2];refine zC rfl (ze (z8 (yp (pT rfl) (yp (ZV rfl) (yp (WA rfl rfl) (yp (pB rfl) (zf (za (zH (bret (zP ?_)))))))))));rw[uH]
  skip
  exact zG (rB rfl) ⟨[],⟨H,by simp⟩,by rw[fJ],rfl⟩
 rw[decide_eq_false h2,if_neg h2];refine zA rfl (ze (z8 (yp (pI rfl) (yp (WA rfl rfl) (yp (pB rfl) (zf (za ?_)))))));by_cases h3:t=28
 ·rw[decide_eq_true h3,if_pos h3];refine zC rfl (ze (z8 (yp (pT rfl) (yp (ZV rfl) (yp (WA rfl rfl) (yp (pB rfl) (zf (za (zH (bret (zP ?_)))))))))));rw[uH]
  skip
  exact zG (rB rfl) ⟨[],⟨H,by simp⟩,by rw[aW],rfl⟩
 rw[decide_eq_false h3,if_neg h3];refine zA rfl (ze (z8 (yp (pI rfl) (yp (WA rfl rfl) (yp (pB rfl) (zf (za ?_)))))));by_cases h4:t=16
 ·rw[decide_eq_true h4,if_pos h4];refine zC rfl (ze (z8 (yp (pT rfl) ?_)));refine zh (zm (dB d hd) rfl rfl fun r S' h=>?_);obtain⟨rfl,rfl⟩:=h;refine yp (pB rfl) (zf (za (zH (bret (zP ?_)))));exact zG (rB rfl) ⟨[],⟨H,by simp⟩,rfl,rfl⟩
 rw[decide_eq_false h4,if_neg h4];refine zA rfl (zx (zY (za (ze (z8 (yp (pB rfl) (yp (pB rfl) (zf (za (zH ?_))))))))));exact zG (rB rfl) ⟨[],⟨H,by simp⟩,rfl,rfl⟩
/-! ### the walk over the names in data -/
def pv(p:Pl):Array Value:= #[.int .i64 (p.at_:Int),.int .i64 (p.n:Int)]
abbrev jP(bt bd:Nat)(t:Int)(d:Bs):zq:=[[(bt,.cells #[.int .i64 t] 3)],[(bd,.cells #[sv d] 9)]]
theorem YZ(t:Int)(d:Bs):Tri Tryz.prog 51 #[.int .i64 t,sv d] [] (fun r S=>∃bt bd,r= .func (.func 96) #[] #[.pointer (some ⟨bt,0,none⟩),.pointer (some ⟨bd,0,none⟩)]∧S=jP bt bd t d):=by
 refine Tri.forget (zB Tryz.Bw (Nat.le_of_ble_eq_true rfl) ?_);unfold Tryz.D9;refine ze (z8 ?_);refine zh (lG (U4 rfl) fun p2=>?_);refine zh (lG (gH rfl) fun p3=>?_);refine yp pC (zf (za (ze (z8 (yp (Ap (eU rfl) (eU rfl)) (yp (pF rfl) (zf (za (zH ?_)))))))));exact zG (rF rfl) ⟨jP p2 p3 t d,⟨[],by simp; exact List.Perm.swap _ _ _⟩,p2,p3,rfl,rfl⟩
theorem dP{bt bd:Nat}{t:Int}{d:Bs}{S0:zq}(hd:d.length<2 ^ 40):
 J9 Tryz.prog 96 #[] #[.pointer (some ⟨bt,0,none⟩),.pointer (some ⟨bd,0,none⟩)] (jP bt bd t d) S0
  (fun pre x=>pre++[x]<+:(prt t d).map pv) (fun xs=>xs=(prt t d).map pv):=by
 intro l c J Jx hJ0 hround;have e0:(#[]++ #[.func (.yield l) #[] #[]]++ #[.pointer (some ⟨bt,0,none⟩),.pointer (some ⟨bd,0,none⟩)]:Array Value)= #[.func (.yield l) #[] #[],.pointer (some ⟨bt,0,none⟩),.pointer (some ⟨bd,0,none⟩)]:=rfl;rw[e0];refine Tri.forget (zB Tryz.Az (Nat.le_of_ble_eq_true rfl) ?_);unfold Tryz.x96;refine ze (ze (z8 ?_));refine zh (zo rfl rfl ?_);refine zh (zo rfl rfl ?_);refine zh (zm (QJ t d hd) rfl rfl fun r S' h=>?_);obtain⟨rfl,rfl⟩:=h;cases hok:Zo t d with
 | false=>
  have hp:prt t d=[]:=by unfold prt; rw[if_neg (by rw[hok]; decide)]
  refine yp (Ze rfl) (zf (za (zC rfl (zH (zP ?_)))));exact zG Vu ⟨[c]::S0,⟨(jP bt bd t d).flatten,by simp; exact List.perm_append_comm (l₁:=[_,_])⟩,.inl ⟨[],by rw[hp]; rfl,hJ0⟩⟩
 | true=>
  have hsome:∃l,U5 t d=some l:=by
   have h0:=hok;unfold Zo at h0;cases hs:ZN t with
   | none=>exact⟨[],by unfold U5; rw[hs]⟩
   | some x=>
    have hk:=xV hs;split at h0
    ·cases h0
    ·rw[if_neg hk.1,if_neg hk.2.1,if_neg hk.2.2] at h0;exact Option.isSome_iff_exists.1 h0
  obtain⟨L0,hp0⟩:=hsome;have hp:prt t d=L0:=by unfold prt; rw[if_pos hok,hp0]; rfl
  refine yp (Ze rfl) (zf (za (zA rfl (zx (za (ze (z8 ?_)))))));refine zh (zo rfl rfl ?_);refine zh (zo rfl rfl ?_);refine zh (zm (KC t d hd) rfl rfl fun r S' h=>?_);obtain⟨v,L,H,rfl,hL,hLe,rfl⟩:=h;obtain rfl:=hLe L0 hp0;have hL2:=kr hp0;obtain⟨la,lc,rfl⟩:=hL.isSlice;rw[hp];refine yp (pU rfl) (yp (pExt rfl rfl) (yp (pExt rfl rfl) (yp (pS rfl) (yp (pB rfl) (zf (za (ze (z8 (yp (pS rfl) (yp (Zq rfl) (yp pC (zf (za (zw ?_))))))))))))));refine Z7 (σ:=Nat) (fun i E S=>Has E [(0,.func (.yield l) #[] #[]),(18,.slice la L.length lc),(19,.int .i64 (L.length:Int)),(20,.int .i64 i)]∧i≤L.length∧∃T',J ((L.take i).map pv) T'∧zM S (H::T')) (fun i=>L.length-i) 0
   ⟨⟨rfl,rfl,rfl,rfl,trivial⟩,Nat.zero_le _,[c]::S0,hJ0,⟨(jP bt bd t d).flatten,?_⟩⟩ fun i E S ⟨hE,hi,T',hJ,hk⟩=>?_
  ·simp;exact List.Perm.append_left H ((List.perm_append_comm (l₁:=[_,_])).cons _)
  obtain⟨E0,e0⟩:=zu hE; subst e0; clear hE;refine zy hk (ze (z8 (yp (w9 rfl rfl) (zf (za (ze ?_))))));refine zU rfl (fun h=>?_) (fun h=>?_)
  ·have hlt:i<L.length:=by omega
   obtain⟨bb2,sp,fz,hz,rfl,hm,hc,rfl⟩:=hL.at' (by intro h; simp[h] at hlt);refine zx (za (ze (zw (ze (z8 (yp (zT rfl rfl (by omega)) ?_))))));refine zh (wC (l:=enc L[i]) rfl (Ux hlt rfl) rfl ?_);refine zh (Zt fun p7=>?_);refine zh (ZX (c':=[.int .i64 (L[i].at_:Int),.int .i64 (L[i].n:Int)]) rfl rfl rfl rfl rfl ?_);refine zf (za (ze (z8 (yp (pF rfl) (yp (zl rfl) ?_)))));refine zh (zo rfl rfl ?_);refine yp (zl rfl) ?_;refine zh (zo rfl rfl ?_);have ht:L.take (i+1)=L.take i++[L[i]]:=List.take_succ_eq_append_getElem hlt;have hV:(L.take i).map pv++[pv L[i]]<+:L.map pv:=by
    rw[show(L.take i).map pv++[pv L[i]]=(L.take (i+1)).map pv from by rw[ht,List.map_append]; rfl];exact(List.take_prefix _ _).map _
   refine zh (Jb (hround _ (pv L[i]) T' (by rw[hp]; exact hV) hJ) rfl rfl fun bl T2 h=>?_);rcases h with⟨rfl,hJ'⟩ | ⟨rfl,hJx⟩
   ·refine yp (Ze rfl) (zf (za (zA rfl (zx (zY (za (z8 (yp (Z9 rfl rfl (by omega)) (yp (pI rfl) (zf (za ?_)))))))))));refine⟨i+1,⟨⟨rfl,rfl,rfl,rfl,trivial⟩,by omega,T2,?_,.of⟩,by omega⟩;rw[ht,List.map_append]; exact hJ'
   ·refine yp (Ze rfl) (zf (za (zC rfl (zH (bret (zP (zP (bret ?_))))))));exact zG Vu ⟨T2,.of,.inr ⟨_,hJx⟩⟩
  ·refine Z0 (zF (zF (Z4 ?_)));refine VE Vu ⟨T',.of,.inl ⟨_,?_,hJ⟩⟩;rw[List.take_of_length_le (by omega)]
theorem YG{n:Nat}{Q:Exit→Env→zq→Prop}{E:Env}{g:Operand}{p q:Tmp}{xa xb:zI}{bt bd:Nat}{t:Int}{d:Bs}{S S0 G0:zq}[hsub:Sub S0 (jP bt bd t d++S) G0](J:Nat→zq→Prop)
 (hg:ev E g= .func (.func 96) #[] #[.pointer (some ⟨bt,0,none⟩),.pointer (some ⟨bd,0,none⟩)]) (hps:[p,q].all (fun t=>Nat.blt t n)=true) (hd:d.length<2 ^ 40) (hJ0:J 0 S)
 (hround:∀(l k:Nat) (x:Pl) (T:zq),(prt t d)[k]?=some x→J k T→Y Tryz.prog (some l) n xa (VG (fun E1 S1=>Y Tryz.prog (some l) n xb (YV (fun _ S'=>J (k+1) S') (fun _ _ _=>False) []) E1 S1) (fun _ _ _=>False)) (Uu [p,q] [.int .i64 (x.at_:Int),.int .i64 (x.n:Int)] E) T)
 (hdone:∀S',J (prt t d).length S'→Q .normal E S'):Y Tryz.prog none n (.range g [p,q] xa xb) Q E S0:=by
 refine Qa (S:=S) (own:=jP bt bd t d) (G0:=G0) (fun pre T=>pre<+:(prt t d).map pv∧J pre.length T) (fun _ _ _=>False) hg hps (dP (bt:=bt) (bd:=bd) (S0:=S) hd) ⟨List.nil_prefix,hJ0⟩ ?_ ?_ ?_ ?_
 ·intro pre x hx;have:x∈(prt t d).map pv:=hx.subset (by simp);obtain⟨e,_,rfl⟩:=List.mem_map.1 this;rfl
 ·rintro l pre x T hx ⟨_,hJ⟩;have hxl:((prt t d).map pv)[pre.length]?=some x:=by
   obtain⟨u,hu⟩:=hx;rw[←hu,List.append_assoc,List.getElem?_append_right (Nat.le_refl _),Nat.sub_self]; rfl
  rw[List.getElem?_map] at hxl;cases he:(prt t d)[pre.length]? with
  | none=>rw[he] at hxl; cases hxl
  | some e=>
   rw[he] at hxl;obtain rfl:=(Option.some.inj hxl).symm;have h:=hround l pre.length e T he hJ;have hx2:pre++[pv e]<+:(prt t d).map pv:=hx;refine Y.mono h ?_;rintro ex E1 S1 h1;cases ex with
   | normal=>
    refine Y.mono h1 ?_;rintro ex2 E2 S2 h2;cases ex2 with
    | normal=>exact⟨hx2,by rw[List.length_append]; exact h2⟩
    | _=>exact h2
   | _=>exact h1
 ·rintro xs S' hx ⟨_,hJ⟩;rw[hx,List.length_map] at hJ;exact hdone S' hJ
 ·rintro e pre S' _ h;exact h.elim
end Go.Proofs.YtekgciopamkjlaaGreat
