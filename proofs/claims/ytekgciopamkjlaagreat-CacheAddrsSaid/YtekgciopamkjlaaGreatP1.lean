/- Records (chapter 3), plainly: where names stand in data, and what data may be. Names added and dropped, one behind the other: how often each is used, and what they cost. Sets (chapter 8), plainly: what may be, its names, its size, its block's bytes. Names that live: each is used as often as numbers of it are held; arenas that are alike. A set's block (chapter 8), plainly: data with names in other letters, or with numbers in their places. Parts of strings, strings put together, as lists of bytes. Records (chapter 3): what data may be, and its names. A range over the names in data. -/
import Derived.Test.YtekgciopamkjlaaGreatN1
import Derived.Test.YtekgciopamkjlaaGreatI1
import Derived.Test.YtekgciopamkjlaaGreatFPack
namespace Go.Proofs.YtekgciopamkjlaaGreat
open Go.Xs
open Enc (enc)
/-! ### what a text begins with -/
theorem yE:∀(f:Nat) (Y:Bs) (a n:Nat),Xr f Y a=(n,true)→a<n∧n≤Y.length
 | 0,_,_,_,h=>by simp[Xr] at h
 | f+1,Y,a,n,h=>by
  unfold Xr at h;cases hy:Y[a]? with
  | none=>rw[hy] at h; simp at h
  | some b=>
   have hlt:=(List.getElem?_eq_some_iff.1 hy).1;rw[hy] at h;simp only at h;split at h
   ·simp at h
   ·split at h
    ·obtain rfl:a+1=n:=(Prod.mk.inj h).1;omega
    ·split at h
     ·simp at h
     ·have:=yE f Y _ n h;omega
theorem jY:∀(f:Nat) (Y:Bs) (a n m:Nat),Xr f Y a=(n,true)→n≤m→Xr f (Y.take m) a=(n,true)
 | 0,_,_,_,_,h,_=>by simp[Xr] at h
 | f+1,Y,a,n,m,h,hm=>by
  have hb:=yE (f+1) Y a n h;have hg:(Y.take m)[a]?=Y[a]?:=List.getElem?_take_of_lt (by omega);unfold Xr at h ⊢;rw[hg];cases hy:Y[a]? with
  | none=>rw[hy] at h; simp at h
  | some b=>
   rw[hy] at h;simp only at h ⊢;split at h
   ·simp at h
   ·next h0=>
    rw[if_neg h0];split at h
    ·next h1=>rw[if_pos h1]; exact h
    ·next h1=>
     rw[if_neg h1];split at h
     ·simp at h
     ·next h2=>rw[if_neg h2]; exact jY f Y _ n m h hm
theorem yD:∀(f:Nat) (Y:Bs) (a n m:Nat),Xr f (Y.take m) a=(n,true)→Xr f Y a=(n,true)
 | 0,_,_,_,_,h=>by simp[Xr] at h
 | f+1,Y,a,n,m,h=>by
  have hb:=yE (f+1) _ a n h;have hg:(Y.take m)[a]?=Y[a]?:=List.getElem?_take_of_lt (by have:=List.length_take_le m Y; omega);unfold Xr at h ⊢;rw[hg] at h;cases hy:Y[a]? with
  | none=>rw[hy] at h; simp at h
  | some b=>
   rw[hy] at h;simp only at h ⊢;split at h
   ·simp at h
   ·next h0=>
    rw[if_neg h0];split at h
    ·next h1=>rw[if_pos h1]; exact h
    ·next h1=>
     rw[if_neg h1];split at h
     ·simp at h
     ·next h2=>rw[if_neg h2]; exact yD f Y _ n m h
/-- a text begins with a name of n bytes: its first n bytes are one -/
theorem yC{Y:Bs}{n:Nat}:lead Y=(n,true)↔n≤Y.length∧WR (Y.take n)=true:=by
 unfold WR lead;constructor
 ·intro h;have hb:=yE _ _ _ _ h;rw[jY _ _ _ _ n h (Nat.le_refl _),List.length_take,Nat.min_eq_left hb.2];exact⟨hb.2,by simp⟩
 ·rintro⟨h1,h2⟩;rw[Bool.and_eq_true] at h2;have hlen:(Y.take n).length=n:=by rw[List.length_take]; omega
  have h3:(Xr 256 (Y.take n) 0).1=n:=by have:=h2.2; rw[hlen] at this; simpa using this
  exact yD 256 Y 0 n n (Prod.ext h3 h2.1)
theorem vK{Y:Bs}{n:Nat}(h:lead Y=(n,true)):1≤n∧n≤255∧n≤Y.length:=by
 have hb:=yE _ _ _ _ h;have:=ql 256 Y 0;unfold lead at h;rw[h] at this;exact⟨by omega,this,hb.2⟩
/-- ahead of anything -/
theorem iC{Y Z:Bs}(h:WR Y=true):lead (Y++Z)=(Y.length,true):=yC.2 ⟨by simp,by rw[List.take_left]; exact h⟩
/-! ### where names stand -/
structure Pl where
 at_:Nat
 n:Nat
instance:Enc Pl:=⟨fun x=>[.int .i64 (x.at_:Int),.int .i64 (x.n:Int)],2,fun _=>rfl,fun _=>rfl⟩
def wo(t:Int):Option (Nat × Nat × Nat):=if t=2∨t=5∨t=12 then some (0,1,0) else if t=15 then some (2,1,0) else if t=33 then some (6,1,0) else if t=6 then some (0,2,20) else none
/-- names, one behind the other -/
def Yb(d:Bs):Nat→Nat→Option (List Pl × Nat)
 | 0,a=>some ([],a)
 | k+1,a=>if(lead (d.drop a)).2=true then(Yb d k (a+(lead (d.drop a)).1)).map fun x=>(⟨a,(lead (d.drop a)).1⟩::x.1,x.2) else none
def xW(t:Int)(d:Bs):Option (List Pl):=match wo t with
 | none=>some []
 | some (a,k,b)=>if d.length<a then none else match Yb d k a with
  | some (l,e)=>if d.length=e+b then some l else none
  | none=>none
/-- texts -/
def nC:Nat→Bs→Nat→Bool
 | 0,_,_=>false
 | f+1,d,a=>match d[a]? with
  | some b=>nC f d (a+1+b.toNat)
  | none=>a==d.length
def txt(d:Bs):Bool:=d !=[] && nC (d.length+1) d 0
def Zo(t:Int)(d:Bs):Bool:=if 1000<d.length then false else if t=1 then d.length==4 else if t=28 then d.length==16 else if t=16 then txt d else(xW t d).isSome
def prt(t:Int)(d:Bs):List Pl:=if Zo t d=true then(xW t d).getD [] else []
theorem gu{d:Bs}:∀{k a:Nat} {l:List Pl} {e:Nat},Yb d k a=some (l,e)→a≤d.length→e≤d.length∧a≤e∧l.length=k
 | 0,a,l,e,h,ha=>by
  obtain⟨rfl,rfl⟩:=Prod.mk.inj (Option.some.inj h);exact⟨ha,Nat.le_refl _,rfl⟩
 | k+1,a,l,e,h,ha=>by
  unfold Yb at h;split at h
  ·next h2=>
   have hl:lead (d.drop a)=((lead (d.drop a)).1,true):=by rw[←h2]
   have hp:=vK hl;rw[List.length_drop] at hp;cases hx:Yb d k (a+(lead (d.drop a)).1) with
   | none=>rw[hx] at h; cases h
   | some x=>
    obtain⟨l2,e2⟩:=x;rw[hx] at h;obtain⟨rfl,rfl⟩:=Prod.mk.inj (Option.some.inj h);have:=gu hx (by omega);exact⟨this.1,by omega,by simp[this.2.2]⟩
  ·cases h
/-- places, one behind the other, from a on -/
def Row(d:Bs):Nat→List Pl→Prop
 | a,[]=>a≤d.length
 | a,p::l=>p.at_=a∧lead (d.drop a)=(p.n,true)∧Row d (a+p.n) l
theorem Km{d:Bs}:∀{k a:Nat} {l:List Pl} {e:Nat},Yb d k a=some (l,e)→a≤d.length→Row d a l
 | 0,a,l,e,h,ha=>by
  obtain⟨rfl,rfl⟩:=Prod.mk.inj (Option.some.inj h);exact ha
 | k+1,a,l,e,h,ha=>by
  unfold Yb at h;split at h
  ·next h2=>
   have hl:lead (d.drop a)=((lead (d.drop a)).1,true):=by rw[←h2]
   have hp:=vK hl;rw[List.length_drop] at hp;cases hx:Yb d k (a+(lead (d.drop a)).1) with
   | none=>rw[hx] at h; cases h
   | some x=>
    obtain⟨l2,e2⟩:=x;rw[hx] at h;obtain⟨rfl,rfl⟩:=Prod.mk.inj (Option.some.inj h);exact⟨rfl,hl,Km hx (show a+(lead (d.drop a)).1≤d.length from by omega)⟩
  ·cases h
theorem Qy{t:Int}{d:Bs}{l:List Pl}(h:xW t d=some l):l=[]∨∃a k b e,wo t=some (a,k,b)∧a≤d.length∧Yb d k a=some (l,e)∧d.length=e+b:=by
 unfold xW at h;split at h
 ·exact .inl (Option.some.inj h).symm
 ·next a k b hs=>
  split at h
  ·cases h
  ·split at h
   ·next l2 e hp=>
    split at h
    ·next he=>
     obtain rfl:=Option.some.inj h;exact .inr ⟨a,k,b,e,hs,by omega,hp,he⟩
    ·cases h
   ·cases h
theorem jH{t:Int}{x:Nat × Nat × Nat}(h:wo t=some x):t≠1∧t≠28∧t≠16:=by
 unfold wo at h;refine⟨fun e=>?_,fun e=>?_,fun e=>?_⟩<;>(subst e; simp at h)
theorem xV{t:Int}{x:Nat × Nat × Nat}(h:wo t=some x):x.1≤6∧x.2.1≤2∧x.2.2≤20:=by
 unfold wo at h;split at h
 ·obtain rfl:=Option.some.inj h; decide
 ·split at h
  ·obtain rfl:=Option.some.inj h; decide
  ·split at h
   ·obtain rfl:=Option.some.inj h; decide
   ·split at h
    ·obtain rfl:=Option.some.inj h; decide
    ·cases h
theorem Kl{t:Int}{d:Bs}{l:List Pl}(h:xW t d=some l):l.length≤2:=by
 rcases Qy h with rfl | ⟨a,k,b,e,hs,ha,hp,_⟩
 ·exact Nat.zero_le _
 ·have h1:=(xV hs).2.1;have h2:=(gu hp ha).2.2;simp only at h1;omega
/-! ### Drop, and one use more, step by step -/
def Cn:List Nm→Int→List Nm
 | [],_=>[]
 | e::l,i=>if e.id=i then(if e.u=1 then l else⟨e.id,e.n,e.u-1⟩::l) else e::Cn l i
def inc:List Nm→Int→List Nm
 | [],_=>[]
 | e::l,i=>if e.id=i then⟨e.id,e.n,e.u+1⟩::l else e::inc l i
theorem kr:∀(L:List Nm) (i:Int),vM L i=Cn L i
 | [],_=>rfl
 | e::l,i=>by
  have ih:=kr l i;unfold vM at ih ⊢;unfold Cn VU;by_cases h:e.id=i
  ·rw[if_pos h,if_pos h];simp only[List.getElem?_cons_zero,List.eraseIdx_cons_zero];unfold reuse;rw[List.set_cons_zero]
  ·rw[if_neg h,if_neg h, ←ih];cases hx:VU i l with
   | none=>rfl
   | some k=>
    obtain⟨x,h1,_⟩:=Ua hx;simp only[Option.map_some,List.getElem?_cons_succ,h1,List.eraseIdx_cons_succ];unfold reuse;rw[List.set_cons_succ];split<;>rfl
theorem YC:∀{L:List Nm} {j:Nat} {e:Nm},(L.map (·.id)).Nodup→L[j]?=some e→reuse L j e (e.u+1)=inc L e.id
 | [],_,_,_,h=>by simp at h
 | x::l,0,e,_,h=>by
  obtain rfl:x=e:=by simpa using h
  unfold inc reuse;rw[if_pos rfl,List.set_cons_zero]
 | x::l,j+1,e,hd,h=>by
  rw[List.map_cons,List.nodup_cons] at hd;have hl:l[j]?=some e:=by simpa using h
  have hne:x.id≠e.id:=fun h2=>hd.1 (h2▸List.mem_map.2 ⟨e,List.mem_of_getElem? hl,rfl⟩)
  have ih:=YC hd.2 hl;unfold reuse at ih ⊢;unfold inc;rw[if_neg hne,List.set_cons_succ,ih]
/-! ### a list of names, each used so often more -/
def Wt:List Nm→(Int→Nat)→List Nm
 | [],_=>[]
 | e::l,c=>if e.u+c e.id=0 then Wt l c else⟨e.id,e.n,e.u+c e.id⟩::Wt l c
theorem yZ(e:Nm)(l:List Nm)(c:Int→Nat):Wt (e::l) c=if e.u+c e.id=0 then Wt l c else⟨e.id,e.n,e.u+c e.id⟩::Wt l c:=rfl
theorem vw:∀{L:List Nm} {c c':Int→Nat},(∀e∈L,c e.id=c' e.id)→Wt L c=Wt L c'
 | [],_,_,_=>rfl
 | e::l,c,c',h=>by
  unfold Wt;rw[h e (by simp),vw fun x hx=>h x (List.mem_cons_of_mem _ hx)]
theorem UD(c:Int→Nat):∀(L M:List Nm),Wt (L++M) c=Wt L c++Wt M c
 | [],_=>rfl
 | e::l,M=>by
  rw[List.cons_append,yZ,yZ,UD c l M];split
  ·rfl
  ·rfl
theorem aF:∀{L:List Nm},Pos L→Wt L (fun _=>0)=L
 | [],_=>rfl
 | e::l,h=>by
  unfold Wt;have:=h e (by simp);rw[if_neg (by omega),aF fun x hx=>h x (List.mem_cons_of_mem _ hx)];rfl
theorem Ji:∀{L:List Nm} {c:Int→Nat},(∀e∈L,e.u+c e.id=0)→Wt L c=[]
 | [],_,_=>rfl
 | e::l,c,h=>by
  unfold Wt;rw[if_pos (h e (by simp))];exact Ji fun x hx=>h x (List.mem_cons_of_mem _ hx)
theorem Vz:∀{L:List Nm} {c:Int→Nat} {x:Nm},x∈Wt L c↔∃e∈L,x=⟨e.id,e.n,e.u+c e.id⟩∧x.u≠0
 | [],c,x=>by unfold Wt; simp
 | e::l,c,x=>by
  unfold Wt;split
  ·next h0=>
   rw[Vz];constructor
   ·rintro⟨y,hy,h1,h2⟩; exact⟨y,List.mem_cons_of_mem _ hy,h1,h2⟩
   ·rintro⟨y,hy,h1,h2⟩;rcases List.mem_cons.1 hy with rfl | hy
    ·rw[h1] at h2; exact absurd h0 h2
    ·exact⟨y,hy,h1,h2⟩
  ·next h0=>
   rw[List.mem_cons,Vz];constructor
   ·rintro(rfl | ⟨y,hy,h1,h2⟩)
    ·exact⟨e,by simp,rfl,h0⟩
    ·exact⟨y,List.mem_cons_of_mem _ hy,h1,h2⟩
   ·rintro⟨y,hy,h1,h2⟩;rcases List.mem_cons.1 hy with rfl | hy
    ·exact .inl h1
    ·exact .inr ⟨y,hy,h1,h2⟩
theorem KT(c:Int→Nat):∀(L:List Nm),List.Sublist ((Wt L c).map (·.id)) (L.map (·.id))∧List.Sublist ((Wt L c).map (·.n)) (L.map (·.n))
 | []=>⟨.slnil,.slnil⟩
 | e::l=>by
  have ih:=KT c l;unfold Wt;split
  ·exact⟨.cons _ ih.1,.cons _ ih.2⟩
  ·exact⟨.cons_cons _ ih.1,.cons_cons _ ih.2⟩
theorem aH{L:List Nm}(c:Int→Nat)(h:xL L):xL (Wt L c):=⟨(KT c L).1.nodup h.ids,(KT c L).2.nodup h.ns⟩
theorem Jj{c:Int→Nat}{i:Int}:∀{L:List Nm},(L.map (·.id)).Nodup→(∃e∈L,e.id=i)→1≤c i→Cn (Wt L c) i=Wt L (fun k=>if k=i then c k-1 else c k)
 | [],_,h,_=>by simp at h
 | e::l,hd,h,hc=>by
  rw[List.map_cons,List.nodup_cons] at hd;unfold Wt;by_cases he:e.id=i
  ·have htl:Wt l c=Wt l (fun k=>if k=i then c k-1 else c k):=vw fun x hx=>by
    have hne:x.id≠i:=fun h2=>hd.1 (he▸h2▸List.mem_map.2 ⟨x,hx,rfl⟩)
    show c x.id=if x.id=i then c x.id-1 else c x.id
    rw[if_neg hne]
   rw[if_neg (by rw[he]; omega)];unfold Cn;rw[if_pos he];simp only[he,if_true];by_cases h1:e.u+c i=1
   ·rw[if_pos h1,if_pos (by omega),htl]
   ·rw[if_neg h1,if_neg (by omega), ←htl,show e.u+c i-1=e.u+(c i-1) from by omega]
  ·have h2:∃e∈l,e.id=i:=by
    obtain⟨x,hx,hxi⟩:=h;rcases List.mem_cons.1 hx with rfl | hx
    ·exact absurd hxi he
    ·exact⟨x,hx,hxi⟩
   have ih:=Jj hd.2 h2 hc;simp only[if_neg he];by_cases h0:e.u+c e.id=0
   ·rw[if_pos h0,if_pos h0]; exact ih
   ·rw[if_neg h0,if_neg h0];show Cn (_::_) i=_;unfold Cn;rw[if_neg (show ¬(⟨e.id,e.n,e.u+c e.id⟩:Nm).id=i from he),ih]
theorem aG{c:Int→Nat}{i:Int}:∀{L:List Nm},(L.map (·.id)).Nodup→(∀e∈L,1≤e.u+c e.id)→inc (Wt L c) i=Wt L (fun k=>if k=i then c k+1 else c k)
 | [],_,_=>rfl
 | e::l,hd,h=>by
  rw[List.map_cons,List.nodup_cons] at hd;have h1:=h e (by simp);unfold Wt;rw[if_neg (by omega)];show inc (_::_) i=_;unfold inc;by_cases he:e.id=i
  ·have htl:Wt l c=Wt l (fun k=>if k=i then c k+1 else c k):=vw fun x hx=>by
    have hne:x.id≠i:=fun h2=>hd.1 (he▸h2▸List.mem_map.2 ⟨x,hx,rfl⟩)
    show c x.id=if x.id=i then c x.id+1 else c x.id
    rw[if_neg hne]
   rw[if_pos (show(⟨e.id,e.n,e.u+c e.id⟩:Nm).id=i from he)];simp only[he,if_true];rw[if_neg (by omega), ←htl]; rfl
  ·have ih:=aG (c:=c) (i:=i) hd.2 fun x hx=>h x (List.mem_cons_of_mem _ hx)
   rw[if_neg (show ¬(⟨e.id,e.n,e.u+c e.id⟩:Nm).id=i from he)];simp only[if_neg he];rw[if_neg (by omega),ih]
/-! ### drops -/
def drops(L:List Nm)(ids:List Int):List Nm:=ids.foldl vM L
theorem X8:∀{ids:List Int} {L:List Nm} {c:Int→Nat},(L.map (·.id)).Nodup→(∀i∈ids,∃e∈L,e.id=i)→drops (Wt L fun k=>c k+ids.count k) ids=Wt L c
 | [],L,c,_,_=>by unfold drops; simp
 | i::ids,L,c,hd,h=>by
  have h1:=Jj (c:=fun k=>c k+(i::ids).count k) (i:=i) hd (h i (by simp)) (by simp; omega);have h2:(Wt L fun k=>if k=i then c k+(i::ids).count k-1 else c k+(i::ids).count k)=Wt L fun k=>c k+ids.count k:=vw fun e _=>by
   show(if e.id=i then c e.id+(i::ids).count e.id-1 else c e.id+(i::ids).count e.id)=c e.id+ids.count e.id;rw[List.count_cons];by_cases he:e.id=i
   ·subst he; simp
   ·have:(i==e.id)=false:=by simpa using fun h3:i=e.id=>he h3.symm
    rw[if_neg he,this]; simp
  show(ids.foldl vM (vM (Wt L fun k=>c k+(i::ids).count k) i))=_;rw[kr,h1,h2];exact X8 hd fun j hj=>h j (List.mem_cons_of_mem _ hj)
/-! ### adds -/
structure Ad where
 D:List (Option Bt)
 L:List Nm
 ids:List Int
 e:Int
def wO(N:Nat):List (Option Bt)→List Nm→List Bs→Ad
 | D,L,[]=>⟨D,L,[],0⟩
 | D,L,n::l=>if WO N D L n=0 then⟨(wO N (WQ D L (zC n)) (ZN D L (zC n)) l).D,(wO N (WQ D L (zC n)) (ZN D L (zC n)) l).L,U3 D L (zC n)::(wO N (WQ D L (zC n)) (ZN D L (zC n)) l).ids,(wO N (WQ D L (zC n)) (ZN D L (zC n)) l).e⟩ else⟨D,L,[],WO N D L n⟩
theorem KR{L:List Nm}{m:Bs}:(Vn L m).isSome=true↔∃e∈L,e.n=m:=by
 constructor
 ·intro h;obtain⟨e,he⟩:=Option.isSome_iff_exists.1 h;obtain⟨j,_,h2,h3⟩:=vO he;exact⟨e,List.mem_of_getElem? h2,h3⟩
 ·rintro⟨e,he,rfl⟩;exact qU he
theorem mH{D:List (Option Bt)}{L:List Nm}{n m:Bs}:(Vn (ZN D L n) m).isSome=true↔m=n∨(Vn L m).isSome=true:=by
 rw[KR,KR];cases hb:Vn L n with
 | some x=>
  obtain⟨j,h1,h2,rfl⟩:=vO hb;have:ZN D L x.n=reuse L j x (x.u+1):=by unfold ZN; rw[h1]; simp only[h2]
  rw[this];constructor
  ·rintro⟨e,he,rfl⟩;obtain⟨y,hy,_,h4⟩:=VX h2 he;exact .inr ⟨y,hy,h4⟩
  ·rintro(rfl | ⟨y,hy,rfl⟩)
   ·obtain⟨z,hz,_,h4⟩:=WX (u:=x.u+1) h2 (List.mem_of_getElem? h2);exact⟨z,hz,h4⟩
   ·obtain⟨z,hz,_,h4⟩:=WX (u:=x.u+1) h2 hy;exact⟨z,hz,h4⟩
 | none=>
  have:ZN D L n=L++[⟨((hnd D:Nat):Int),n,1⟩]:=by unfold ZN; rw[WM hb]
  rw[this];constructor
  ·rintro⟨e,he,rfl⟩;rcases List.mem_append.1 he with he | he
   ·exact .inr ⟨e,he,rfl⟩
   ·rw[List.mem_singleton.1 he]; exact .inl rfl
  ·rintro(rfl | ⟨y,hy,rfl⟩)
   ·exact⟨⟨((hnd D:Nat):Int),m,1⟩,by simp,rfl⟩
   ·exact⟨y,List.mem_append.2 (.inl hy),rfl⟩
theorem yG(D:List (Option Bt)):Zl D ((hnd D:Nat):Int)=none:=by
 have:=vL D;have hp:=wR D;rw[show((hnd D:Nat):Int)=((hnd D-1:Nat):Int)+1 from by omega,ZH]; exact this
/-- what adds leave: the elder names, new ones behind them, each used as often as its number was told -/
theorem XK(N:Nat):∀(l:List Bs) (D:List (Option Bt)) (L:List Nm) (c:Int→Nat),xL L→(∀e∈L,(Zl D e.id).isSome=true)→(∀e∈L,1≤e.u+c e.id)→(∀i,(∀e∈L,e.id≠i)→c i=0)→
 ∃M:List Nm,(∀e∈M,e.u=0)∧xL (L++M)∧(wO N D (Wt L c) l).L=Wt (L++M) (fun k=>c k+(wO N D (Wt L c) l).ids.count k)∧(∀i∈(wO N D (Wt L c) l).ids,∃e∈L++M,e.id=i)∧
  (∀e∈L++M,(Zl (wO N D (Wt L c) l).D e.id).isSome=true)∧(∀e∈M,Zl D e.id=none)
 | [],D,L,c,hd,hD,_,_=>⟨[],fun e he=>by simp at he,by rw[List.append_nil]; exact hd,by unfold wO; simp,fun i hi=>by unfold wO at hi; simp at hi,by rw[List.append_nil]; exact hD,fun e he=>by simp at he⟩
 | n::l,D,L,c,hd,hD,hu,hc=>by
  unfold wO;by_cases hE:WO N D (Wt L c) n=0
  ·rw[if_pos hE];have hcount:∀(i k:Int) (ids:List Int),(i::ids).count k=ids.count k+if k=i then 1 else 0:=fun i k ids=>by
    rw[List.count_cons];by_cases h:k=i
    ·subst h; simp
    ·have:(i==k)=false:=by simpa using fun h3:i=k=>h h3.symm
     rw[if_neg h,this]; simp
   cases hb:Vn (Wt L c) (zC n) with
   | some x=>
    obtain⟨j,h1,h2,h3⟩:=vO hb;have hxm:=List.mem_of_getElem? h2;obtain⟨e,heL,hxe,_⟩:=Vz.1 hxm;have hL:ZN D (Wt L c) (zC n)=Wt L (fun k=>if k=x.id then c k+1 else c k):=by
     unfold ZN; rw[h1]; simp only[h2];rw[YC (aH c hd).ids h2,aG hd.ids hu]
    have hDD:WQ D (Wt L c) (zC n)=D:=by unfold WQ; rw[hb]; rfl
    have hI:U3 D (Wt L c) (zC n)=x.id:=by unfold U3; rw[hb]; rfl
    rw[hL,hDD,hI];have hxid:x.id=e.id:=by rw[hxe]
    obtain⟨M,i1,i2,i3,i4,i5,i6⟩:=XK N l D L (fun k=>if k=x.id then c k+1 else c k) hd hD (fun y hy=>by
     have:=hu y hy;show 1≤y.u+if y.id=x.id then c y.id+1 else c y.id
     split<;>omega) (fun i hi=>by
     show(if i=x.id then c i+1 else c i)=0;rw[if_neg fun h4=>hi e heL (by rw[h4,hxid])]; exact hc i hi)
    refine⟨M,i1,i2,?_,fun i hi=>?_,i5,i6⟩
    ·rw[i3];refine vw fun y _=>?_
     show(if y.id=x.id then c y.id+1 else c y.id)+_=c y.id+_;rw[hcount];split<;>omega
    ·rcases List.mem_cons.1 hi with rfl | hi
     ·exact⟨e,List.mem_append.2 (.inl heL),hxid.symm⟩
     ·exact i4 i hi
   | none=>
    have hL0:ZN D (Wt L c) (zC n)=Wt L c++[⟨((hnd D:Nat):Int),zC n,1⟩]:=by unfold ZN; rw[WM hb]
    have hDD:WQ D (Wt L c) (zC n)=ZJ D (8+(zC n).length):=by unfold WQ; rw[hb]; rfl
    have hI:U3 D (Wt L c) (zC n)=((hnd D:Nat):Int):=by unfold U3; rw[hb]; rfl
    have hno:=yG D;have hidn:∀y∈L,y.id≠((hnd D:Nat):Int):=fun y hy h=>by
     have:=hD y hy;rw[h,hno] at this; cases this
    have hnn:∀y∈L,y.n≠zC n:=fun y hy h=>by
     have hm:(⟨y.id,y.n,y.u+c y.id⟩:Nm)∈Wt L c:=Vz.2 ⟨y,hy,rfl,by have:=hu y hy; show y.u+c y.id≠0; omega⟩;exact Va (WM hb) _ hm h
    have hL:ZN D (Wt L c) (zC n)=Wt (L++[⟨((hnd D:Nat):Int),zC n,0⟩]) (fun k=>if k=((hnd D:Nat):Int) then 1 else c k):=by
     rw[hL0,UD];congr 1
     ·refine vw fun y hy=>?_
      show c y.id=if y.id=((hnd D:Nat):Int) then 1 else c y.id
      rw[if_neg (hidn y hy)]
     ·unfold Wt;simp[Wt]
    rw[hL,hDD,hI];have hd2:xL (L++[⟨((hnd D:Nat):Int),zC n,0⟩]):=hd.add hidn hnn;obtain⟨M,i1,i2,i3,i4,i5,i6⟩:=XK N l (ZJ D (8+(zC n).length)) (L++[⟨((hnd D:Nat):Int),zC n,0⟩]) (fun k=>if k=((hnd D:Nat):Int) then 1 else c k) hd2 (fun y hy=>by
     rcases List.mem_append.1 hy with hy | hy
     ·rw[ZB (hidn y hy)]; exact hD y hy
     ·rw[List.mem_singleton.1 hy]; show(Zl _ ((hnd D:Nat):Int)).isSome=true; rw[W9]; rfl) (fun y hy=>by
     show 1≤y.u+if y.id=((hnd D:Nat):Int) then 1 else c y.id
     rcases List.mem_append.1 hy with hy | hy
     ·rw[if_neg (hidn y hy)]; exact hu y hy
     ·rw[List.mem_singleton.1 hy]; simp) (fun i hi=>by
     show(if i=((hnd D:Nat):Int) then 1 else c i)=0;have h5:¬i=((hnd D:Nat):Int):=fun h=>hi ⟨((hnd D:Nat):Int),zC n,0⟩ (by simp) h.symm
     rw[if_neg h5];exact hc i fun y hy=>hi y (List.mem_append.2 (.inl hy)))
    rw[List.append_assoc] at i2 i3 i4 i5;refine⟨[⟨((hnd D:Nat):Int),zC n,0⟩]++M,fun y hy=>?_,i2,?_,fun i hi=>?_,i5,fun y hy=>?_⟩
    ·rcases List.mem_append.1 hy with hy | hy
     ·rw[List.mem_singleton.1 hy]
     ·exact i1 y hy
    ·rw[i3];refine vw fun y _=>?_
     show(if y.id=((hnd D:Nat):Int) then 1 else c y.id)+_=c y.id+_;rw[hcount];by_cases h6:y.id=((hnd D:Nat):Int)
     ·rw[if_pos h6,if_pos h6,h6,hc _ hidn]; omega
     ·rw[if_neg h6,if_neg h6]; omega
    ·rcases List.mem_cons.1 hi with rfl | hi
     ·exact⟨⟨((hnd D:Nat):Int),zC n,0⟩,by simp,rfl⟩
     ·exact i4 i hi
    ·rcases List.mem_append.1 hy with hy | hy
     ·rw[List.mem_singleton.1 hy]; exact hno
     ·have h7:=i6 y hy;have hne:y.id≠((hnd D:Nat):Int):=fun h=>by rw[h,W9] at h7; cases h7
      rw[ZB hne] at h7; exact h7
  ·rw[if_neg hE];exact⟨[],fun e he=>by simp at he,by rw[List.append_nil]; exact hd,by simp,fun i hi=>by simp at hi,by rw[List.append_nil]; exact hD,fun e he=>by simp at he⟩
/-- all adds undone -/
theorem cu{N:Nat}{l:List Bs}{D:List (Option Bt)}{L:List Nm}(hd:xL L)(hp:Pos L)(hD:∀e∈L,(Zl D e.id).isSome=true):drops (wO N D L l).L (wO N D L l).ids=L:=by
 have h0:=aF hp;obtain⟨M,i1,i2,i3,i4,_,_⟩:=XK N l D L (fun _=>0) hd hD (fun e he=>by have:=hp e he; omega) (fun _ _=>rfl);rw[h0] at i3 i4;rw[i3,X8 i2.ids i4,UD,h0,Ji (fun e he=>by rw[i1 e he]),List.append_nil]
/-! ### what they cost -/
def wL(L:List Nm):List Bs→List Bs→Nat
 | _,[]=>0
 | seen,n::l=>(if zC n∈seen∨(Vn L (zC n)).isSome=true then 0 else zZ (8+n.length))+wL L (zC n::seen) l
theorem uZ{L:List Nm}:∀{l:List Bs} {s s':List Bs},(∀m,m∈s↔m∈s')→wL L s l=wL L s' l
 | [],_,_,_=>rfl
 | n::l,s,s',h=>by
  unfold wL;rw[uZ (s:=zC n::s) (s':=zC n::s') fun m=>by rw[List.mem_cons,List.mem_cons,h m]];simp only[h (zC n)]
theorem kE{L L':List Nm}{x:Bs}(hL:∀m,(Vn L' m).isSome=true↔m=x∨(Vn L m).isSome=true):∀{l:List Bs} {s:List Bs},wL L' s l=wL L (x::s) l
 | [],_=>rfl
 | n::l,s=>by
  unfold wL;rw[kE hL (l:=l) (s:=zC n::s),uZ (s:=x::zC n::s) (s':=zC n::x::s) fun m=>by simp only[List.mem_cons]; exact⟨fun h=>by rcases h with h | h | h<;>simp[h],fun h=>by rcases h with h | h | h<;>simp[h]⟩];congr 1;have hiff:(zC n∈s∨(Vn L' (zC n)).isSome=true)↔(zC n∈x::s∨(Vn L (zC n)).isSome=true):=by
   rw[hL,List.mem_cons];exact⟨fun h=>by rcases h with h | h | h<;>simp[h],fun h=>by rcases h with(h | h) | h<;>simp[h]⟩
  simp only[hiff]
theorem yR(k:Nat):16≤zZ k:=by
 unfold zZ
 (repeat' split)<;>omega
theorem Y6{N:Nat}:∀{l:List Bs} {D:List (Option Bt)} {L:List Nm},(∀n∈l,WR n=true)→Zh D≤N→
 (Zh D+wL L [] l≤N→(wO N D L l).e=0∧Zh (wO N D L l).D=Zh D+wL L [] l)∧(N<Zh D+wL L [] l→(wO N D L l).e=4)
 | [],D,L,_,hN=>⟨fun _=>⟨rfl,rfl⟩,fun h=>absurd h (Nat.not_lt.2 hN)⟩
 | n::l,D,L,hv,hN=>by
  have hvn:=hv n (by simp);have h255:=Ww hvn;have hfl:=wM n;have hstep:wL L [zC n] l=wL (ZN D L (zC n)) [] l:=(kE fun m=>mH).symm;have hcc:cost (8+(n.length:Int))=(zZ (8+n.length):Nat):=by
   unfold cost; rw[if_neg (by omega)]; congr 1
  have h16:=yR (8+n.length);unfold wO wL;rw[hstep];have hnil:¬zC n∈([]:List Bs):=by simp
  cases hb:(Vn L (zC n)).isSome with
  | true=>
   have hE:WO N D L n=0:=by unfold WO; rw[if_neg (by rw[hvn]; decide),hb]; rfl
   have hDD:WQ D L (zC n)=D:=by unfold WQ; rw[hb]; rfl
   rw[if_pos hE,if_pos (.inr rfl),Nat.zero_add,hDD];exact Y6 (fun m hm=>hv m (List.mem_cons_of_mem _ hm)) hN
  | false=>
   have hEa:WO N D L n=if(N:Int)-Zh D<(zZ (8+n.length):Nat) then 4 else 0:=by
    unfold WO ZI;rw[if_neg (by rw[hvn]; decide),hb,if_neg (by decide),hcc,if_neg (by omega)]
   have hDD:WQ D L (zC n)=ZJ D (8+n.length):=by unfold WQ; rw[hb,hfl]; rfl
   rw[if_neg (show ¬(zC n∈([]:List Bs)∨false=true) from by simp)];by_cases hroom:Zh D+zZ (8+n.length)≤N
   ·have hE:WO N D L n=0:=by rw[hEa,if_neg (by omega)]
    rw[if_pos hE];have hu:=Q0 D (8+n.length);rw[←hDD] at hu;have ih:=Y6 (N:=N) (l:=l) (D:=WQ D L (zC n)) (L:=ZN D L (zC n)) (fun m hm=>hv m (List.mem_cons_of_mem _ hm)) (by omega);rw[hu] at ih;refine⟨fun h=>?_,fun h=>ih.2 (by omega)⟩;obtain⟨h1,h2⟩:=ih.1 (by omega);exact⟨h1,by rw[←Nat.add_assoc]; exact h2⟩
   ·have hE:WO N D L n=4:=by rw[hEa,if_pos (by omega)]
    rw[if_neg (by rw[hE]; decide)];exact⟨fun h=>by omega,fun _=>hE⟩
structure RR where
 n:Bs
 t:Int
 c:Int
 ttl:Int
 d:Bs
instance:Enc RR:=⟨fun x=>[sv x.n,.int .i64 x.t,.int .i64 x.c,.int .i64 x.ttl,sv x.d],5,fun _=>rfl,fun _=>rfl⟩
structure St where
 name:Bs
 typ:Int
 kind:Int
 zone:Bs
 rrs:List RR
def St.v(s:St)(w:Value):Value:= .agg #[sv s.name,.int .i64 s.typ,w,.int .i64 s.kind,sv s.zone]
def y9(a b:Bs):Bool:=WR a && WR b && (a.map low==b.map low)
def UR(s:St)(r:RR):Bool:=y9 r.n s.name && decide (r.t=s.typ) && decide (r.c=1) && Zo r.t r.d
def WK(s:St):Bool:=WR s.name && WR s.zone && decide (1≤s.typ∧s.typ≤65535∧0≤s.kind∧s.kind≤2) && decide (s.rrs.length≤32) && (decide (0<s.rrs.length)==decide (s.kind=0)) && s.rrs.all (UR s)
def uX(d:Bs)(p:Pl):Bs:=(d.drop p.at_).take p.n
def Zw(r:RR):List Bs:=(prt r.t r.d).map (uX r.d)
def Zb(s:St):List Bs:=s.name::s.zone::(s.rrs.map Zw).flatten
def wV(l:List Int):Int:=l.foldr (· + ·) 0
def WH(r:RR):Int:=2+(r.d.length:Int)+wV ((prt r.t r.d).map fun p=>4-(p.n:Int))
def Zp(s:St):Int:=16+wV (s.rrs.map WH)
def wh(s:St):Int:=if WK s=false then 1 else if 4096<Zp s then 3 else 0
def xU(s:St):Int:=if wh s=0 then Zp s else 0
/-- data with other bytes in the names' places -/
def splice(d:Bs):Nat→List Pl→List Bs→Bs
 | a,p::l,x::xs=>(d.drop a).take (p.at_-a)++x++splice d (p.at_+p.n) l xs
 | a,_,_=>d.drop a
def Wm(t:Int)(d:Bs):Bs:=splice d 0 (prt t d) ((prt t d).map fun p=>zC (uX d p))
def Zj(s:St):St:=⟨zC s.name,s.typ,s.kind,zC s.zone,s.rrs.map fun r=>⟨zC s.name,r.t,1,0,Wm r.t r.d⟩⟩
/-- a number's bytes, the least first -/
def Ue:Nat→Nat→Bs
 | 0,_=>[]
 | k+1,n=>UInt8.ofNat (n%256)::Ue k (n/256)
theorem ZC:∀(k n:Nat),(Ue k n).length=k
 | 0,_=>rfl
 | k+1,n=>by show(Ue k (n/256)).length+1=k+1; rw[ZC k]
def Uf(i:Int):Bs:=Ue 4 i.toNat
def vg(r:RR)(ids:List Int):Bs:=splice r.d 0 (prt r.t r.d) (ids.map Uf)
def Ut:List RR→List Int→Bs
 | [],_=>[]
 | r::l,ids=>Ue 2 (vg r ids).length++vg r ids++Ut l (ids.drop (prt r.t r.d).length)
def Wu(s:St)(ids:List Int):Bs:=Uf (ids.getD 0 0)++Ue 2 s.typ.toNat++Ue 2 s.kind.toNat++Uf (ids.getD 1 0)++Ue 4 0x5e7b10c5++Ut s.rrs (ids.drop 2)
theorem V9(a:Int)(l:List Int):wV (a::l)=a+wV l:=rfl
theorem Xi(l m:List Int):wV (l++m)=wV l+wV m:=by
 induction l with
 | nil=>show wV m=0+wV m; omega
 | cons a l ih=>rw[List.cons_append,V9,V9,ih]; omega
theorem Qu(t:Int)(d:Bs):prt t d=[]∨∃a k b e,wo t=some (a,k,b)∧a≤d.length∧Yb d k a=some (prt t d,e)∧d.length=e+b:=by
 unfold prt;split
 ·next h=>
  cases hp:xW t d with
  | none=>exact .inl rfl
  | some l=>exact Qy hp
 ·exact .inl rfl
/-- names are names -/
theorem Qr{d:Bs}:∀{a:Nat} {l:List Pl},Row d a l→∀p∈l,WR (uX d p)=true∧(uX d p).length=p.n∧p.at_+p.n≤d.length
 | _,[],_,p,hp=>by simp at hp
 | a,q::l,⟨h1,h2,h3⟩,p,hp=>by
  rcases List.mem_cons.1 hp with rfl | hp
  ·subst h1;have hb:=vK h2;rw[List.length_drop] at hb;exact⟨(yC.1 h2).2,by unfold uX; rw[List.length_take,List.length_drop]; omega,by omega⟩
  ·exact Qr h3 p hp
theorem XB{t:Int}{d:Bs}{p:Pl}(hp:p∈prt t d):WR (uX d p)=true∧(uX d p).length=p.n∧p.at_+p.n≤d.length:=by
 rcases Qu t d with h | ⟨a,k,b,e,_,ha,hc,_⟩
 ·rw[h] at hp; simp at hp
 ·exact Qr (Km hc ha) p hp
theorem yA{s:St}(h:WK s=true):∀n∈Zb s,WR n=true:=fun n hn=>by
 unfold WK at h;simp only[Bool.and_eq_true] at h;obtain⟨⟨⟨⟨⟨h1,h2⟩,_⟩,_⟩,_⟩,_⟩:=h;unfold Zb at hn;rcases List.mem_cons.1 hn with rfl | hn
 ·exact h1
 rcases List.mem_cons.1 hn with rfl | hn
 ·exact h2
 obtain⟨l,hl,hn⟩:=List.mem_flatten.1 hn;obtain⟨r,_,rfl⟩:=List.mem_map.1 hl;unfold Zw at hn;obtain⟨p,hp,rfl⟩:=List.mem_map.1 hn;exact(XB hp).1
/-! ### numbers beside names -/
inductive Al (L:List Nm):List Int→List Bs→Prop
 | nil:Al L [] []
 | cons {i:Int} {n:Bs} {ids:List Int} {ns:List Bs} (h:∃e∈L,e.id=i∧e.n=n) (t:Al L ids ns):Al L (i::ids) (n::ns)
theorem Al.mono{L L':List Nm}(h:∀e∈L,∃e'∈L',e'.id=e.id∧e'.n=e.n):∀{ids:List Int} {ns:List Bs},Al L ids ns→Al L' ids ns
 | _,_,.nil=> .nil
 | _,_,.cons ⟨e,he,h1,h2⟩ t=>by
  obtain⟨e',he',h3,h4⟩:=h e he;exact .cons ⟨e',he',h3.trans h1,h4.trans h2⟩ (Al.mono h t)
theorem cO{D:List (Option Bt)}{L:List Nm}{n:Bs}{e:Nm}(he:e∈L):∃e'∈ZN D L n,e'.id=e.id∧e'.n=e.n:=by
 cases hb:Vn L n with
 | some x=>
  obtain⟨j,h1,h2,rfl⟩:=vO hb;have:ZN D L x.n=reuse L j x (x.u+1):=by unfold ZN; rw[h1]; simp only[h2]
  rw[this];exact WX h2 he
 | none=>
  have:ZN D L n=L++[⟨((hnd D:Nat):Int),n,1⟩]:=by unfold ZN; rw[WM hb]
  rw[this];exact⟨e,List.mem_append.2 (.inl he),rfl,rfl⟩
theorem cK{D:List (Option Bt)}{L:List Nm}{n:Bs}:∃e∈ZN D L n,e.id=U3 D L n∧e.n=n:=by
 cases hb:Vn L n with
 | some x=>
  obtain⟨j,h1,h2,rfl⟩:=vO hb;have:ZN D L x.n=reuse L j x (x.u+1):=by unfold ZN; rw[h1]; simp only[h2]
  rw[this];obtain⟨e,he,h3,h4⟩:=WX (u:=x.u+1) h2 (List.mem_of_getElem? h2);exact⟨e,he,by rw[h3]; unfold U3; rw[hb]; rfl,h4⟩
 | none=>
  have:ZN D L n=L++[⟨((hnd D:Nat):Int),n,1⟩]:=by unfold ZN; rw[WM hb]
  rw[this];exact⟨⟨((hnd D:Nat):Int),n,1⟩,by simp,by unfold U3; rw[hb]; rfl,rfl⟩
theorem U2{N:Nat}{D:List (Option Bt)}{L:List Nm}{n:Bs}{l:List Bs}(h:WO N D L n=0):wO N D L (n::l)=⟨(wO N (WQ D L (zC n)) (ZN D L (zC n)) l).D,(wO N (WQ D L (zC n)) (ZN D L (zC n)) l).L,U3 D L (zC n)::(wO N (WQ D L (zC n)) (ZN D L (zC n)) l).ids,(wO N (WQ D L (zC n)) (ZN D L (zC n)) l).e⟩:=by
 rw[wO,if_pos h]
theorem Y4{N:Nat}{D:List (Option Bt)}{L:List Nm}{n:Bs}{l:List Bs}(h:WO N D L n≠0):wO N D L (n::l)=⟨D,L,[],WO N D L n⟩:=by
 rw[wO,if_neg h]
theorem Y5{N:Nat}:∀{l:List Bs} {D:List (Option Bt)} {L:List Nm} {e:Nm},e∈L→∃e'∈(wO N D L l).L,e'.id=e.id∧e'.n=e.n
 | [],_,_,e,he=>⟨e,he,rfl,rfl⟩
 | n::l,D,L,e,he=>by
  by_cases hE:WO N D L n=0
  ·rw[U2 hE];obtain⟨e1,h1,h2,h3⟩:=cO (D:=D) (n:=zC n) he;obtain⟨e2,h4,h5,h6⟩:=Y5 (N:=N) (l:=l) (D:=WQ D L (zC n)) h1;exact⟨e2,h4,h5.trans h2,h6.trans h3⟩
  ·rw[Y4 hE]; exact⟨e,he,rfl,rfl⟩
theorem Q5{N:Nat}:∀{l:List Bs} {D:List (Option Bt)} {L:List Nm},(wO N D L l).e=0→Al (wO N D L l).L (wO N D L l).ids (l.map zC)
 | [],_,_,_=> .nil
 | n::l,D,L,h=>by
  by_cases hE:WO N D L n=0
  ·rw[U2 hE] at h ⊢;obtain⟨e1,h1,h2,h3⟩:=cK (D:=D) (L:=L) (n:=zC n);obtain⟨e2,h4,h5,h6⟩:=Y5 (N:=N) (l:=l) (D:=WQ D L (zC n)) h1;exact .cons ⟨e2,h4,h5.trans h2,h6.trans h3⟩ (Q5 h)
  ·rw[Y4 hE] at h; exact absurd h hE
/-! ### names that live by the numbers that are held -/
structure jc(L:List Nm)(A:List Int):Prop where
 dis:xL L
 us:∀e∈L,e.u=A.count e.id
 pos:Pos L
 ids:∀i∈A,∃e∈L,e.id=i
theorem jc.nil:jc [] []:=⟨⟨List.nodup_nil,List.nodup_nil⟩,fun e he=>by simp at he,Pos.nil,fun i hi=>by simp at hi⟩
def Q8(L:List Nm):List Nm:=L.map fun e=>⟨e.id,e.n,0⟩
theorem mW(L:List Nm):(Q8 L).map (·.id)=L.map (·.id):=by unfold Q8; rw[List.map_map]; rfl
theorem tV(L:List Nm):(Q8 L).map (·.n)=L.map (·.n):=by unfold Q8; rw[List.map_map]; rfl
theorem Xu{L:List Nm}{e:Nm}(h:e∈Q8 L):e.u=0∧∃x∈L,x.id=e.id∧x.n=e.n:=by
 unfold Q8 at h;obtain⟨x,hx,rfl⟩:=List.mem_map.1 h;exact⟨rfl,x,hx,rfl,rfl⟩
theorem xg{L:List Nm}{e:Nm}(h:e∈L):(⟨e.id,e.n,0⟩:Nm)∈Q8 L:=List.mem_map.2 ⟨e,h,rfl⟩
theorem kP{L:List Nm}(h:xL L):xL (Q8 L):=⟨by rw[mW]; exact h.ids,by rw[tV]; exact h.ns⟩
theorem aD{c:Int→Nat}:∀{L:List Nm},(∀e∈L,e.u=c e.id)→Pos L→Wt (Q8 L) c=L
 | [],_,_=>rfl
 | e::l,h,hp=>by
  have h1:=h e (by simp);have h2:=hp e (by simp);show Wt (⟨e.id,e.n,0⟩::Q8 l) c=_;rw[yZ,aD (fun x hx=>h x (List.mem_cons_of_mem _ hx)) fun x hx=>hp x (List.mem_cons_of_mem _ hx)];simp only;rw[if_neg (by omega),Nat.zero_add, ←h1]
theorem jc.Wt{L:List Nm}{A:List Int}(h:jc L A):Wt (Q8 L) (fun k=>A.count k)=L:=aD h.us h.pos
theorem jc.of{M:List Nm}{A:List Int}(hd:xL M)(h0:∀e∈M,e.u=0)(hi:∀i∈A,∃e∈M,e.id=i):jc (Proofs.YtekgciopamkjlaaGreat.Wt M fun k=>A.count k) A:=by
 refine⟨aH _ hd,fun e he=>?_,fun e he=>?_,fun i hA=>?_⟩
 ·obtain⟨x,hx,rfl,_⟩:=Vz.1 he;show x.u+A.count x.id=A.count x.id;rw[h0 x hx,Nat.zero_add]
 ·obtain⟨x,hx,rfl,h1⟩:=Vz.1 he;exact Nat.pos_of_ne_zero h1
 ·obtain⟨e,he,rfl⟩:=hi i hA;refine⟨_,Vz.2 ⟨e,he,rfl,?_⟩,rfl⟩;have:=List.count_pos_iff.2 hA;show e.u+A.count e.id≠0;omega
theorem jc.adds{N:Nat}{l:List Bs}{D:List (Option Bt)}{L:List Nm}{A:List Int}(h:jc L A)(hD:∀e∈L,(Zl D e.id).isSome=true):jc (wO N D L l).L (A++(wO N D L l).ids):=by
 obtain⟨M,i1,i2,i3,i4,_,_⟩:=XK N l D (Q8 L) (fun k=>A.count k) (kP h.dis) (fun e he=>by
  obtain⟨_,x,hx,h1,_⟩:=Xu he;rw[←h1]; exact hD x hx) (fun e he=>by
  obtain⟨_,x,hx,h1,_⟩:=Xu he;have:=h.us x hx;have:=h.pos x hx;show 1≤e.u+A.count e.id;rw[←h1]; omega) (fun i hi=>by
  refine List.count_eq_zero.2 fun hA=>?_
  obtain⟨e,he,rfl⟩:=h.ids i hA;exact hi _ (xg he) rfl)
 rw[h.Wt] at i3 i4;rw[i3];have hc:(fun k=>A.count k+(wO N D L l).ids.count k)=fun k=>(A++(wO N D L l).ids).count k:=by
  funext k; rw[List.count_append]
 rw[hc];refine jc.of i2 (fun e he=>?_) (fun i hi=>?_)
 ·rcases List.mem_append.1 he with he | he
  ·exact(Xu he).1
  ·exact i1 e he
 ·rcases List.mem_append.1 hi with hi | hi
  ·obtain⟨e,he,h1⟩:=h.ids i hi;exact⟨_,List.mem_append.2 (.inl (xg he)),h1⟩
  ·exact i4 i hi
/-- numbers are given back -/
theorem jc.drops{L:List Nm}{A ids R:List Int}(h:jc L A)(hA:∀k,A.count k=R.count k+ids.count k):jc (drops L ids) R∧∀e∈L,e.id∈R→∃e'∈Proofs.YtekgciopamkjlaaGreat.drops L ids,e'.id=e.id∧e'.n=e.n:=by
 have hb:=h.Wt;have hmem:∀i,i∈R∨i∈ids→i∈A:=fun i hi=>by
  rw[←List.count_pos_iff,hA];rcases hi with hi | hi
  ·have:=List.count_pos_iff.2 hi; omega
  ·have:=List.count_pos_iff.2 hi; omega
 have hfun:(fun k=>A.count k)=fun k=>R.count k+ids.count k:=funext hA
 have hd:Proofs.YtekgciopamkjlaaGreat.drops L ids=Proofs.YtekgciopamkjlaaGreat.Wt (Q8 L) (fun k=>R.count k):=by
  rw[←hb,hfun];have:=X8 (ids:=ids) (L:=Q8 L) (c:=fun k=>R.count k) (kP h.dis).ids (fun i hi=>by
   obtain⟨e,he,h1⟩:=h.ids i (hmem i (.inr hi));exact⟨_,xg he,h1⟩)
  rw[hfun] at hb;rw[hb] at this ⊢;exact this
 rw[hd];refine⟨jc.of (kP h.dis) (fun e he=>(Xu he).1) (fun i hi=>?_),fun e he hR=>?_⟩
 ·obtain⟨e,he,h1⟩:=h.ids i (hmem i (.inl hi));exact⟨_,xg he,h1⟩
 ·refine⟨_,Vz.2 ⟨_,xg he,rfl,?_⟩,rfl,rfl⟩;have:=List.count_pos_iff.2 hR;show 0+R.count e.id≠0;omega
theorem jc.empty{L:List Nm}(h:jc L []):L=[]:=by
 cases L with
 | nil=>rfl
 | cons e l=>
  have h1:=h.us e (by simp);have h2:=h.pos e (by simp);simp at h1; omega
/-! ### arenas that are alike -/
def UE(D D':List (Option Bt)):Prop:=∀i,(Zl D i).map List.length=(Zl D' i).map List.length
theorem UE.symm{D D':List (Option Bt)}(h:UE D D'):UE D' D:=fun i=>(h i).symm
theorem UE.trans{D D' D'':List (Option Bt)}(h:UE D D')(k:UE D' D''):UE D D'':=fun i=>(h i).trans (k i)
theorem UE.refl(D:List (Option Bt)):UE D D:=fun _=>rfl
theorem UE.stand{D D':List (Option Bt)}(h:UE D D')(i:Int):(Zl D i).isSome=(Zl D' i).isSome:=by
 have:=congrArg Option.isSome (h i);simpa using this
theorem JJ{D D':List (Option Bt)}(h:UE D D')(i:Nat):((D[i]?).join).map List.length=((D'[i]?).join).map List.length:=by
 have:=h ((i:Int)+1)
 rwa [ZH,ZH] at this
theorem Ka{D D':List (Option Bt)}(h:d9 D=d9 D'):UE D D':=fun i=>by
 unfold Zl;split
 ·have h1:=congrArg (fun l=>(l[(i-1).toNat]?).join) h;simp only[d9,List.getElem?_map] at h1;cases h2:D[(i-1).toNat]? with
  | none=>
   rw[h2] at h1;cases h3:D'[(i-1).toNat]? with
   | none=>rfl
   | some y=>rw[h3] at h1; simpa using h1
  | some x=>
   rw[h2] at h1;cases h3:D'[(i-1).toNat]? with
   | none=>rw[h3] at h1; simpa using h1
   | some y=>rw[h3] at h1; simpa using h1
 ·rfl
theorem U6{D D':List (Option Bt)}(h:UE D D'):hnd D=hnd D':=by
 refine J2 (wR D) (fun i hi=>?_) ?_
 ·obtain⟨b,hb⟩:=xw D i hi;have:=JJ h i;rw[hb] at this;cases h2:D'[i]? with
  | none=>rw[h2] at this; simp at this
  | some x=>
   cases x with
   | none=>rw[h2] at this; simp at this
   | some c=>exact⟨c,rfl⟩
 ·have:=JJ h (hnd D-1);rw[vL D] at this;cases h2:(D'[hnd D-1]?).join with
  | none=>rfl
  | some c=>rw[h2] at this; simp at this
theorem U4:∀{D:List (Option Bt)},(∀i:Nat,(D[i]?).join=none)→Zh D=0
 | [],_=>rfl
 | a::l,h=>by
  have h0:=h 0;simp only[List.getElem?_cons_zero,Option.join_some] at h0;subst h0;have ih:=U4 (D:=l) fun i=>by simpa using h (i+1)
  unfold Zh at ih ⊢;rw[List.map_cons,List.sum_cons,ih]; rfl
theorem Qk:∀{D D':List (Option Bt)},(∀i:Nat,((D[i]?).join).map List.length=((D'[i]?).join).map List.length)→Zh D=Zh D'
 | [],D',h=>(U4 (D:=D') fun i=>by
  have:=h i;cases h2:(D'[i]?).join with
  | none=>rfl
  | some c=>rw[h2] at this; simp at this).symm
 | a::l,[],h=>U4 (D:=a::l) fun i=>by
  have:=h i;cases h2:((a::l)[i]?).join with
  | none=>rfl
  | some c=>rw[h2] at this; simp at this
 | a::l,b::m,h=>by
  have h0:=h 0;have ih:=Qk (D:=l) (D':=m) fun i=>by simpa using h (i+1)
  simp only[List.getElem?_cons_zero,Option.join_some] at h0;unfold Zh at ih ⊢;rw[List.map_cons,List.sum_cons,List.map_cons,List.sum_cons,ih];congr 1;cases a with
  | none=>
   cases b with
   | none=>rfl
   | some y=>simp at h0
  | some x=>
   cases b with
   | none=>simp at h0
   | some y=>
    have:x.length=y.length:=by simpa using h0
    show zZ x.length=zZ y.length;rw[this]
theorem fB{D D':List (Option Bt)}(h:UE D D'):Zh D=Zh D':=Qk (JJ h)
theorem y7{D D':List (Option Bt)}(h:UE D D')(N:Nat)(n:Int):ZI N D n=ZI N D' n:=by unfold ZI; rw[fB h]
theorem YA{D D':List (Option Bt)}(h:UE D D')(m:Nat):UE (ZJ D m) (ZJ D' m):=fun i=>by
 by_cases hi:i=((hnd D:Nat):Int)
 ·have h2:=W9 D' m;rw[←U6 h] at h2;rw[hi,W9,h2]
 ·rw[ZB hi,ZB (by rw[←U6 h]; exact hi)]; exact h i
theorem X5(D:List (Option Bt))(i:Int):Zl (WT D i) i=none:=by
 cases hb:Zl D i with
 | some b=>exact YV hb
 | none=>unfold WT; rw[hb,if_neg (by decide)]; exact hb
theorem jG{D D':List (Option Bt)}(h:UE D D')(i:Int):UE (WT D i) (WT D' i):=fun k=>by
 by_cases hk:k=i
 ·rw[hk,X5,X5]
 ·rw[wm hk,wm hk]; exact h k
theorem nO{D:List (Option Bt)}{h:Int}{b Y:Bt}(hg:Zl D h=some b)(hl:Y.length=b.length):UE (D.set (h-1).toNat (some Y)) D:=Ka (XA hg hl)
theorem vC.stand{D:List (Option Bt)}{L:List Nm}{B:List (Int × Bs)}(h:vC D L B):∀e∈L,(Zl D e.id).isSome=true:=fun e he=>by rw[h.blk e he]; rfl
theorem vC.empty{D:List (Option Bt)}(h:vC D [] []):Zh D=0:=by
 refine U4 fun i=>?_
 cases hb:(D[i]?).join with
 | none=>rfl
 | some b=>
  rw[←ZH] at hb;rcases h.all _ b hb with⟨e,he,_⟩ | ⟨x,hx,_⟩
  ·simp at he
  ·simp at hx
/-- a block more, of others -/
theorem vC.alloc{D:List (Option Bt)}{L:List Nm}{B:List (Int × Bs)}(h:vC D L B)(m:Nat):vC (ZJ D m) L ((((hnd D:Nat):Int),zeros m)::B):=by
 have hno:=yG D;have hid:∀e∈L,e.id≠((hnd D:Nat):Int):=fun x hx e=>by
  have:=h.blk x hx;rw[e,hno] at this; cases this
 refine⟨h.dis,fun e he=>by rw[ZB (hid e he)]; exact h.blk e he,fun x hx=>?_,fun i b hib=>?_,h.us,h.fold⟩
 ·rcases List.mem_cons.1 hx with rfl | hx
  ·exact⟨W9 D m,hid⟩
  ·obtain⟨h1,h2⟩:=h.oth x hx;have hne:x.1≠((hnd D:Nat):Int):=fun e=>by rw[e,hno] at h1; cases h1
   exact⟨by rw[ZB hne]; exact h1,h2⟩
 ·by_cases hi:i=((hnd D:Nat):Int)
  ·exact .inr ⟨_,List.mem_cons_self,hi.symm⟩
  ·rw[ZB hi] at hib;rcases h.all i b hib with hx | ⟨x,hx,hxi⟩
   ·exact .inl hx
   ·exact .inr ⟨x,List.mem_cons_of_mem _ hx,hxi⟩
/-- handles of others are told once -/
def Hs(B:List (Int × Bs)):Prop:=(B.map (·.1)).Nodup
theorem vC.write{D:List (Option Bt)}{L:List Nm}{B:List (Int × Bs)}{k:Int}{b Y:Bs}(h:vC D L ((k,b)::B))(hh:Hs ((k,b)::B)):vC (D.set (k-1).toNat (some Y)) L ((k,Y)::B):=by
 obtain⟨h1,h2⟩:=h.oth (k,b) (by simp);have hg:Zl D k=some b:=h1;have hne:∀x∈B,x.1≠k:=fun x hx e=>(List.nodup_cons.1 hh).1 (List.mem_map.2 ⟨x,hx,e⟩)
 refine⟨h.dis,fun e he=>by rw[WJ hg,if_neg (h2 e he)]; exact h.blk e he,fun x hx=>?_,fun i c hib=>?_,h.us,h.fold⟩
 ·rcases List.mem_cons.1 hx with rfl | hx
  ·exact⟨by rw[WJ hg,if_pos rfl],h2⟩
  ·obtain⟨h3,h4⟩:=h.oth x (List.mem_cons_of_mem _ hx);exact⟨by rw[WJ hg,if_neg (hne x hx)]; exact h3,h4⟩
 ·rw[WJ hg] at hib;by_cases hi:i=k
  ·exact .inr ⟨_,List.mem_cons_self,hi.symm⟩
  ·rw[if_neg hi] at hib;rcases h.all i c hib with hx | ⟨x,hx,hxi⟩
   ·exact .inl hx
   ·rcases List.mem_cons.1 hx with rfl | hx
    ·exact absurd hxi.symm hi
    ·exact .inr ⟨x,List.mem_cons_of_mem _ hx,hxi⟩
/-- a block of others goes -/
theorem vC.free{D:List (Option Bt)}{L:List Nm}{B B':List (Int × Bs)}{k:Int}{b:Bs}(h:vC D L B)(hm:(k,b)∈B)(hB:∀x,x∈B'↔x∈B∧x.1≠k):vC (WT D k) L B':=by
 obtain⟨h1,h2⟩:=h.oth (k,b) hm;refine⟨h.dis,fun e he=>by rw[wm (h2 e he)]; exact h.blk e he,fun x hx=>?_,fun i c hib=>?_,h.us,h.fold⟩
 ·obtain⟨h3,h4⟩:=(hB x).1 hx;obtain⟨h5,h6⟩:=h.oth x h3;exact⟨by rw[wm h4]; exact h5,h6⟩
 ·by_cases hi:i=k
  ·rw[hi,X5] at hib; cases hib
  ·rw[wm hi] at hib;rcases h.all i c hib with hx | ⟨x,hx,hxi⟩
   ·exact .inl hx
   ·exact .inr ⟨x,(hB x).2 ⟨hx,by rw[hxi]; exact hi⟩,hxi⟩
def Xm:Nat→List Bs→List Pl
 | _,[]=>[]
 | a,x::xs=>⟨a,x.length⟩::Xm (a+x.length) xs
theorem QL:∀(a:Nat) (xs:List Bs),(Xm a xs).length=xs.length
 | _,[]=>rfl
 | a,x::xs=>by show(Xm _ xs).length+1=xs.length+1; rw[QL]
theorem jV:∀{a:Nat} {xs zs:List Bs},xs.map List.length=zs.map List.length→Xm a xs=Xm a zs
 | _,[],[],_=>rfl
 | _,[],_::_,h=>by simp at h
 | _,_::_,[],h=>by simp at h
 | a,x::xs,y::zs,h=>by
  rw[List.map_cons,List.map_cons,List.cons.injEq] at h;show(⟨a,x.length⟩:Pl)::Xm (a+x.length) xs=⟨a,y.length⟩::Xm (a+y.length) zs;rw[h.1,jV h.2]
theorem Kn:∀(xs:List Bs) (P Z:Bs),(∀x∈xs,WR x=true)→Yb (P++xs.flatten++Z) xs.length P.length=some (Xm P.length xs,P.length+xs.flatten.length)
 | [],P,Z,_=>rfl
 | x::xs,P,Z,h=>by
  have hx:=h x (by simp);have hd:(P++(x::xs).flatten++Z).drop P.length=x++(xs.flatten++Z):=by
   rw[List.flatten_cons,List.append_assoc,List.append_assoc,List.drop_left]
  have hl:=iC (Z:=xs.flatten++Z) hx;have ih:=Kn xs (P++x) Z (fun y hy=>h y (List.mem_cons_of_mem _ hy));have e:P++(x::xs).flatten++Z=P++x++xs.flatten++Z:=by rw[List.flatten_cons,List.append_assoc P x]
  rw[List.length_append] at ih;show Yb _ (xs.length+1) P.length=_;unfold Yb;rw[hd,hl,e];simp only[if_true,ih,Option.map_some];show some (_,_)=some (_,_);rw[List.flatten_cons,List.length_append,Nat.add_assoc]; rfl
theorem yg{d:Bs}:∀{k a:Nat} {l:List Pl} {e:Nat},Yb d k a=some (l,e)→a≤d.length→∃xs:List Bs,xs.length=k∧(∀x∈xs,WR x=true)∧l=Xm a xs∧d.drop a=xs.flatten++d.drop e∧l.map (uX d)=xs∧e=a+xs.flatten.length
 | 0,a,l,e,h,ha=>by
  obtain⟨rfl,rfl⟩:=Prod.mk.inj (Option.some.inj h);exact⟨[],rfl,fun x hx=>by simp at hx,rfl,rfl,rfl,rfl⟩
 | k+1,a,l,e,h,ha=>by
  unfold Yb at h;split at h
  ·next h2=>
   have hl:lead (d.drop a)=((lead (d.drop a)).1,true):=by rw[←h2]
   have hp:=vK hl;have hv:=(yC.1 hl).2;rw[List.length_drop] at hp;cases hx:Yb d k (a+(lead (d.drop a)).1) with
   | none=>rw[hx] at h; cases h
   | some x=>
    obtain⟨l2,e2⟩:=x;rw[hx] at h;obtain⟨rfl,rfl⟩:=Prod.mk.inj (Option.some.inj h);obtain⟨xs,i1,i2,i3,i4,i5,i6⟩:=yg hx (by omega);have hlen:((d.drop a).take (lead (d.drop a)).1).length=(lead (d.drop a)).1:=by rw[List.length_take,List.length_drop]; omega
    refine⟨(d.drop a).take (lead (d.drop a)).1::xs,by rw[List.length_cons,i1],fun y hy=>?_,?_,?_,?_,?_⟩
    ·rcases List.mem_cons.1 hy with rfl | hy
     ·exact hv
     ·exact i2 y hy
    ·show _=(⟨a,_⟩:Pl)::Xm _ xs;rw[hlen,i3]
    ·rw[List.flatten_cons,List.append_assoc, ←i4, ←List.drop_drop,List.take_append_drop]
    ·rw[List.map_cons,i5]; rfl
    ·rw[List.flatten_cons,List.length_append,hlen,i6,Nat.add_assoc]
  ·cases h
theorem Ur{t:Int}{x:Nat × Nat × Nat}(h:wo t=some x):t≠1∧t≠28∧t≠16∧1≤x.2.1:=by
 unfold wo at h;split at h
 ·obtain rfl:=Option.some.inj h; exact⟨by omega,by omega,by omega,Nat.le_refl _⟩
 ·split at h
  ·obtain rfl:=Option.some.inj h; exact⟨by omega,by omega,by omega,Nat.le_refl _⟩
  ·split at h
   ·obtain rfl:=Option.some.inj h; exact⟨by omega,by omega,by omega,Nat.le_refl _⟩
   ·split at h
    ·obtain rfl:=Option.some.inj h; exact⟨by omega,by omega,by omega,by decide⟩
    ·cases h
/-- data in three parts: bytes, names, bytes -/
structure Form(t:Int)(d:Bs)(P:Bs)(xs:List Bs)(Z:Bs):Prop where
 shape:wo t=some (P.length,xs.length,Z.length)
 eq:d=P++xs.flatten++Z
 WR:∀x∈xs,WR x=true
theorem Form.xW{t:Int}{d P:Bs}{xs:List Bs}{Z:Bs}(h:Form t d P xs Z):xW t d=some (Xm P.length xs):=by
 unfold Proofs.YtekgciopamkjlaaGreat.xW;rw[h.shape];have:=Kn xs P Z h.WR;rw[←h.eq] at this;have hl:d.length=P.length+xs.flatten.length+Z.length:=by rw[h.eq,List.length_append,List.length_append]
 simp only;rw[if_neg (by omega),this];simp only;rw[if_pos hl]
theorem Form.ok{t:Int}{d P:Bs}{xs:List Bs}{Z:Bs}(h:Form t d P xs Z)(hd:d.length≤1000):Zo t d=true∧prt t d=Xm P.length xs:=by
 have hk:=Ur h.shape;have h1:Zo t d=true:=by
  unfold Zo;rw[if_neg (by omega),if_neg hk.1,if_neg hk.2.1,if_neg hk.2.2.1,h.xW]; rfl
 refine⟨h1,?_⟩;unfold prt;rw[if_pos h1,h.xW]; rfl
theorem wX{t:Int}{d:Bs}(h:Zo t d=true):d.length≤1000:=by
 unfold Zo at h;split at h
 ·cases h
 ·omega
theorem KJ{t:Int}{d:Bs}(h:Zo t d=true){x:Nat × Nat × Nat}(hs:wo t=some x):∃P xs Z,Form t d P xs Z∧(prt t d).map (uX d)=xs:=by
 have hk:=Ur hs;have h0:=h;have hlen:=wX h;unfold Zo at h;rw[if_neg (by omega),if_neg hk.1,if_neg hk.2.1,if_neg hk.2.2.1] at h;have hprt:∀l,xW t d=some l→prt t d=l:=fun l hl=>by unfold prt; rw[if_pos h0,hl]; rfl
 obtain⟨a,k,b⟩:=x;unfold xW at h hprt;rw[hs] at h hprt;simp only at h hprt;split at h
 ·cases h
 ·next ha=>
  rw[if_neg ha] at hprt;split at h
  ·next l e hp=>
   rw[hp] at hprt;split at h
   ·next he=>
    obtain⟨xs,i1,i2,i3,i4,i5,i6⟩:=yg hp (by omega);have hpe:=hprt l (by simp only; rw[if_pos he]);refine⟨d.take a,xs,d.drop e,⟨?_,?_,i2⟩,by rw[hpe]; exact i5⟩
    ·rw[hs,i1,List.length_take,List.length_drop];congr 2
     ·omega
     ·congr 1; omega
    ·rw[List.append_assoc, ←i4,List.take_append_drop]
   ·cases h
  ·cases h
theorem VP{t:Int}{d:Bs}(hs:wo t=none):prt t d=[]:=by
 unfold prt xW;rw[hs];split<;>rfl
theorem Yz:∀(xs zs:List Bs) (P Z:Bs),zs.length=xs.length→splice (P++xs.flatten++Z) P.length (Xm P.length xs) zs=zs.flatten++Z
 | [],zs,P,Z,h=>by
  have:zs=[]:=List.length_eq_zero_iff.1 h;subst this;show(P++[]++Z).drop P.length=[]++Z;rw[List.append_nil,List.drop_left]; rfl
 | x::xs,[],P,Z,h=>by simp at h
 | x::xs,y::zs,P,Z,h=>by
  have ih:=Yz xs zs (P++x) Z (by simpa using h);have e:P++(x::xs).flatten++Z=P++x++xs.flatten++Z:=by rw[List.flatten_cons,List.append_assoc P x]
  rw[List.length_append] at ih;rw[e];show((P++x++xs.flatten++Z).drop P.length).take (P.length-P.length)++y++splice (P++x++xs.flatten++Z) (P.length+x.length) (Xm (P.length+x.length) xs) zs=_;rw[ih,Nat.sub_self,List.take_zero,List.nil_append,List.flatten_cons,List.append_assoc]
theorem Form.splice{t:Int}{d P:Bs}{xs:List Bs}{Z:Bs}(h:Form t d P xs Z){zs:List Bs}(hy:zs.length=xs.length):splice d 0 (Xm P.length xs) zs=P++zs.flatten++Z:=by
 have hk:=(Ur h.shape).2.2.2;have:=Yz xs zs P Z hy;rw[←h.eq] at this;cases xs with
 | nil=>simp at hk
 | cons x xs=>
  cases zs with
  | nil=>simp at hy
  | cons y zs=>
   have e1:Proofs.YtekgciopamkjlaaGreat.splice d P.length (Xm P.length (x::xs)) (y::zs)=y++Proofs.YtekgciopamkjlaaGreat.splice d (P.length+x.length) (Xm (P.length+x.length) xs) zs:=by
    show(d.drop P.length).take (P.length-P.length)++y++_=_;rw[Nat.sub_self,List.take_zero]; rfl
   rw[e1] at this;show(d.drop 0).take (P.length-0)++y++Proofs.YtekgciopamkjlaaGreat.splice d (P.length+x.length) (Xm (P.length+x.length) xs) zs=_;rw[List.append_assoc,this,List.drop_zero,Nat.sub_zero,List.append_assoc];congr 1;rw[h.eq,List.append_assoc,List.take_left]
/-- folded -/
theorem Form.fold{t:Int}{d P:Bs}{xs:List Bs}{Z:Bs}(h:Form t d P xs Z):Form t (P++(xs.map zC).flatten++Z) P (xs.map zC) Z:=by
 refine⟨by rw[List.length_map]; exact h.shape,rfl,fun x hx=>?_⟩;obtain⟨y,hy,rfl⟩:=List.mem_map.1 hx;rw[VN]; exact h.WR y hy
theorem YX(xs:List Bs):(xs.map zC).map List.length=xs.map List.length:=by
 rw[List.map_map]; exact List.map_congr_left fun x _=>wM x
theorem iU(xs zs:List Bs)(h:xs.map List.length=zs.map List.length):xs.flatten.length=zs.flatten.length:=by
 rw[List.length_flatten,List.length_flatten,h]
theorem Form.cut{t:Int}{d P:Bs}{xs:List Bs}{Z:Bs}(h:Form t d P xs Z)(hd:d.length≤1000):(prt t d).map (uX d)=xs:=by
 rw[(h.ok hd).2];have:=Kn xs P Z h.WR;rw[←h.eq] at this;obtain⟨zs,_,_,i3,i4,i5,i6⟩:=yg this (by rw[h.eq,List.length_append,List.length_append]; omega);rw[i5];have hm:Xm P.length xs=Xm P.length zs:=i3
 -- the same lengths, the same bytes
 have key:∀(a:Nat) (xs zs:List Bs) (Z Z':Bs),Xm a xs=Xm a zs→xs.flatten++Z=zs.flatten++Z'→xs=zs:=by
  intro a xs
  induction xs generalizing a with
  | nil=>
   intro zs Z Z' h1 _;cases zs with
   | nil=>rfl
   | cons y zs=>cases h1
  | cons x xs ih=>
   intro zs Z Z' h1 h2;cases zs with
   | nil=>cases h1
   | cons y zs=>
    have h3:(⟨a,x.length⟩:Pl)::Xm (a+x.length) xs=⟨a,y.length⟩::Xm (a+y.length) zs:=h1;obtain⟨h4,h5⟩:=List.cons.inj h3;have hl:x.length=y.length:=congrArg Pl.n h4;rw[List.flatten_cons,List.flatten_cons,List.append_assoc,List.append_assoc] at h2;obtain⟨h6,h7⟩:=List.append_inj h2 hl;rw[h6,ih _ _ _ _ (by rw[hl] at h5; rw[←hl] at h5; rw[h5,hl]) h7]
 refine(key P.length xs zs Z (d.drop (P.length+xs.flatten.length)) hm ?_).symm;rw[←i4,h.eq,List.append_assoc,List.drop_left]
theorem Form.J3{t:Int}{d P:Bs}{xs:List Bs}{Z:Bs}(h:Form t d P xs Z):(P++(xs.map zC).flatten++Z).length=d.length:=by
 rw[h.eq,List.length_append,List.length_append,List.length_append,List.length_append,iU _ _ (YX xs)]
theorem yK{t:Int}{d P:Bs}{xs:List Bs}{Z:Bs}(h:Form t d P xs Z)(hd:d.length≤1000):Wm t d=P++(xs.map zC).flatten++Z:=by
 have h1:=h.cut hd;unfold Wm;have:((prt t d).map fun p=>zC (uX d p))=xs.map zC:=by rw[←h1,List.map_map]; rfl
 rw[this,(h.ok hd).2];exact h.splice (by rw[List.length_map])
theorem yJ{t:Int}{d:Bs}(hs:wo t=none):Wm t d=d:=by
 unfold Wm;rw[VP hs]; rfl
/-- data folded is as good -/
theorem yI{t:Int}{d:Bs}(h:Zo t d=true):Zo t (Wm t d)=true∧prt t (Wm t d)=prt t d∧(Wm t d).length=d.length:=by
 cases hs:wo t with
 | none=>rw[yJ hs]; exact⟨h,rfl,rfl⟩
 | some x=>
  have hd:=wX h;obtain⟨P,xs,Z,hf,_⟩:=KJ h hs;rw[yK hf hd];have hl:=hf.J3;obtain⟨h1,h2⟩:=hf.fold.ok (by omega);exact⟨h1,by rw[h2,(hf.ok hd).2,jV (YX xs)],hl⟩
theorem kD{r:RR}{P:Bs}{xs:List Bs}{Z:Bs}(h:Form r.t r.d P xs Z)(hd:r.d.length≤1000){ids:List Int}(hi:ids.length=xs.length):vg r ids=P++(ids.map Uf).flatten++Z:=by
 unfold vg;rw[(h.ok hd).2];exact h.splice (by rw[List.length_map,hi])
theorem kC{r:RR}(hs:wo r.t=none)(ids:List Int):vg r ids=r.d:=by
 unfold vg;rw[VP hs];cases ids<;>rfl
theorem QW:∀(ids:List Int),(ids.map Uf).flatten.length=4*ids.length
 | []=>rfl
 | i::l=>by rw[List.map_cons,List.flatten_cons,List.length_append,QW l,List.length_cons,Uf,ZC]; omega
theorem Qo:∀(a:Nat) (xs:List Bs),wV ((Xm a xs).map fun p=>4-(p.n:Int))=4*(xs.length:Int)-(xs.flatten.length:Int)
 | _,[]=>rfl
 | a,x::xs=>by
  show wV ((4-(x.length:Int))::(Xm (a+x.length) xs).map fun p=>4-(p.n:Int))=_;rw[V9,Qo,List.flatten_cons,List.length_append,List.length_cons]
  push_cast
  omega
theorem Ja{r:RR}(h:Zo r.t r.d=true){ids:List Int}(hi:ids.length=(prt r.t r.d).length):((vg r ids).length:Int)=WH r-2:=by
 unfold WH;cases hs:wo r.t with
 | none=>rw[kC hs,VP hs]; show(r.d.length:Int)=2+r.d.length+0-2; omega
 | some x=>
  have hd:=wX h;obtain⟨P,xs,Z,hf,_⟩:=KJ h hs;have hp:=(hf.ok hd).2;rw[hp,QL] at hi;rw[kD hf hd hi,hp,Qo,hf.eq];rw[List.length_append,List.length_append,List.length_append,List.length_append,QW,hi]
  push_cast
  omega
theorem nN{r:RR}(h:Zo r.t r.d=true):2≤WH r:=by
 have:=Ja h (ids:=List.replicate (prt r.t r.d).length 0) (by simp);omega
theorem jM:∀{l:List RR} {ids:List Int},(∀r∈l,Zo r.t r.d=true)→ids.length=((l.map Zw).flatten).length→((Ut l ids).length:Int)=wV (l.map WH)
 | [],_,_,_=>rfl
 | r::l,ids,h,hi=>by
  rw[List.map_cons,List.flatten_cons,List.length_append,Zw,List.length_map] at hi;have hd:vg r ids=vg r (ids.take (prt r.t r.d).length):=by
   unfold vg;have key:∀(d:Bs) (l:List Pl) (a:Nat) (xs:List Bs),splice d a l xs=splice d a l (xs.take l.length):=by
    intro d l
    induction l with
    | nil=>intro a xs; cases xs<;>rfl
    | cons p l ih=>
     intro a xs;cases xs with
     | nil=>rfl
     | cons x xs=>
      show _=splice d a (p::l) (x::xs.take l.length);show(d.drop a).take (p.at_-a)++x++splice d (p.at_+p.n) l xs=(d.drop a).take (p.at_-a)++x++splice d (p.at_+p.n) l (xs.take l.length);rw[←ih]
   rw[key,List.map_take]
  have h1:=Ja (h r (by simp)) (ids:=ids.take (prt r.t r.d).length) (by rw[List.length_take]; omega);have ih:=jM (l:=l) (ids:=ids.drop (prt r.t r.d).length) (fun x hx=>h x (List.mem_cons_of_mem _ hx)) (by rw[List.length_drop]; omega);show((Ue 2 (vg r ids).length++vg r ids++Ut l (ids.drop (prt r.t r.d).length)).length:Int)=_;rw[List.length_append,List.length_append,ZC,List.map_cons,V9, ←ih];rw[←hd] at h1
  push_cast
  omega
theorem xI{s:St}{ids:List Int}(h:∀r∈s.rrs,Zo r.t r.d=true)(hi:ids.length=(Zb s).length):((Wu s ids).length:Int)=Zp s:=by
 have h1:ids.length=((s.rrs.map Zw).flatten).length+2:=by rw[hi]; rfl
 have:=jM (l:=s.rrs) (ids:=ids.drop 2) h (by rw[List.length_drop]; omega);unfold Wu Zp Uf;simp only[List.length_append,ZC];rw[←this]
 push_cast
 omega
theorem WC{s:St}(h:WK s=true):∀r∈s.rrs,Zo r.t r.d=true∧r.t=s.typ:=fun r hr=>by
 unfold WK at h;simp only[Bool.and_eq_true] at h;have:=List.all_eq_true.1 h.2 r hr;unfold UR at this;simp only[Bool.and_eq_true,decide_eq_true_eq] at this;exact⟨this.2,this.1.1.2⟩
theorem VY{s:St}(h:WK s=true):WR s.name=true∧WR s.zone=true∧1≤s.typ∧s.typ≤65535∧0≤s.kind∧s.kind≤2∧s.rrs.length≤32∧(0<s.rrs.length↔s.kind=0):=by
 unfold WK at h;simp only[Bool.and_eq_true,decide_eq_true_eq,beq_iff_eq] at h;obtain⟨⟨⟨⟨⟨h1,h2⟩,h3⟩,h4⟩,h5⟩,_⟩:=h;exact⟨h1,h2,h3.1,h3.2.1,h3.2.2.1,h3.2.2.2,h4,decide_eq_decide.1 h5⟩
theorem iR{s:St}(h:WK s=true):WK (Zj s)=true∧Zp (Zj s)=Zp s:=by
 have hn:=VY h;have hd:=WC h;constructor
 ·unfold WK Zj;simp only[Bool.and_eq_true,decide_eq_true_eq,beq_iff_eq,List.length_map];refine⟨⟨⟨⟨⟨by rw[VN]; exact hn.1,by rw[VN]; exact hn.2.1⟩,⟨hn.2.2.1,hn.2.2.2.1,hn.2.2.2.2.1,hn.2.2.2.2.2.1⟩⟩,hn.2.2.2.2.2.2.1⟩,decide_eq_decide.2 hn.2.2.2.2.2.2.2⟩,List.all_eq_true.2 fun r hr=>?_⟩;obtain⟨x,hx,rfl⟩:=List.mem_map.1 hr;obtain⟨h1,h2⟩:=hd x hx;unfold UR y9;simp only[Bool.and_eq_true,decide_eq_true_eq,beq_self_eq_true,VN,hn.1,and_self,true_and];exact⟨⟨h2,trivial⟩,(yI h1).1⟩
 ·unfold Zp Zj;simp only[List.map_map];congr 2;refine List.map_congr_left fun r hr=>?_
  obtain⟨h2,h3,h4⟩:=yI (hd r hr).1;show WH ⟨zC s.name,r.t,1,0,Wm r.t r.d⟩=WH r;unfold WH;simp only;rw[h3,h4]
theorem qz(Y:Bs)(j k:Nat):(⟨Y.toArray⟩:ByteArray).extract j k=⟨((Y.drop j).take (k-j)).toArray⟩:=by
 apply ByteArray.ext;rw[ByteArray.data_extract];apply Array.toList_inj.1;simp
theorem Cy(Y Z:Bs):(⟨Y.toArray⟩:ByteArray)++(⟨Z.toArray⟩:ByteArray)=⟨(Y++Z).toArray⟩:=by
 apply ByteArray.ext;rw[ByteArray.data_append];simp
theorem Kt{E:Env}{x i:Operand}{Y:Bs}{j:Nat}{q:IntKind}(h1:ev E x=sv Y)(h2:ev E i= .int q (j:Int))(h:j≤Y.length):zu (ev E) (.sslc x (some i) none)=some (sv (Y.drop j)):=by
 rw[oo (s:=⟨Y.toArray⟩) h1 h2 h,Qm,qz,List.take_of_length_le (by rw[List.length_drop]; omega)]
theorem sG{E:Env}{x i i':Operand}{Y:Bs}{j k:Nat}{q q':IntKind}(h1:ev E x=sv Y)(h2:ev E i= .int q (j:Int))(h2':ev E i'= .int q' (k:Int))(h:j≤k∧k≤Y.length):zu (ev E) (.sslc x (some i) (some i'))=some (sv ((Y.drop j).take (k-j))):=by
 rw[EH (s:=⟨Y.toArray⟩) h1 h2 h2' h,qz]
theorem EU{E:Env}{x y:Operand}{Y Z:Bs}(h1:ev E x=sv Y)(h2:ev E y=sv Z)(h:Y.length+Z.length≤9223372036854775807):zu (ev E) (.bin .add x y)=some (sv (Y++Z)):=by
 simp only[zu,h1,h2,Wy,aN,Qm];rw[if_pos h,Cy]
theorem JH{Y Z:Bs}:(⟨Y.toArray⟩:ByteArray)=⟨Z.toArray⟩↔Y=Z:=⟨fun h=>by have:=congrArg (fun b:ByteArray=>b.data.toList) h; simpa using this,fun h=>by rw[h]⟩
theorem JQ{E:Env}{S:zB}{t u s q:Tmp}{v v' v'' v3:Value}(hv:E t=v)(hv':E u=v')(hv'':E s=v'')(hv3:E q=v3):Xo Tryz.prog #[.tmp t,.tmp u,.tmp s,.tmp q] E S (.tuple #[v,v',v'',v3]):=fun fn F w tmps h _ he=>by
 rw[←hv, ←hv', ←hv'', ←hv3, ←he];simp[results,h,Sem.run_bind,Sem.run,Result.andThen,pure]
/-- append(b, s...) -/
theorem rR{r:Option Nat}{n:Nat}{K:Env→zB→Prop}{E:Env}{S G:zB}{d:Option Tmp}{e bytes:Nat}{z:List Value}{s x:Operand}{v:Value}{L Y:Bs}{H:List Chunk}[hp:Pick S H G](hs:ev E s=v)(hx:ev E x=sv Y)(hL:Zf e v L H)
 (hz:enc (0:UInt8)=z) (hb:(L.length+Y.length)*bytes≤140737488355328) (hl:L.length+Y.length≤9223372036854775807)
 (h:∀v' H',Zf e v' (L++Y) H'→K (Zk d v' E) (H'::G)):YO Tryz.prog r n d (.app e 1 bytes z s x) K E S:=by
 refine rQ (α:=UInt8) hs hx hL (fun F w _=>⟨?_,?_⟩) rfl (0:UInt8) hz hb hl h
 ·show(pure (⟨Y.toArray⟩:ByteArray).size:Sem Nat).run Tryz.prog w=_;simp[pure,Qm]
 ·show(pure (((⟨Y.toArray⟩:ByteArray).extract 0 Y.length).data.map fun b=>Value.int .u8 b.toNat):Sem (Array Value)).run Tryz.prog w=_;rw[qz,List.drop_zero,Nat.sub_zero,List.take_length];have:(Y.toArray.map fun b=>Value.int .u8 b.toNat)=(cells Y).toArray:=by
   apply Array.toList_inj.1;rw[U0]; simp
  rw[this]; rfl
def nP(t:Int):Value:=match wo t with
 | some (a,k,b)=> .tuple #[.int .i64 (a:Int),.int .i64 (k:Int),.int .i64 (b:Int),.bool true]
 | none=> .tuple #[.int .i64 0,.int .i64 0,.int .i64 0,.bool false]
theorem Qs(t:Int):Tri Tryz.prog 143 #[.int .i64 t] [] (fun r S=>r=nP t∧S=[]):=by
 refine Tri.forget (zn Tryz.GY (Nat.le_of_ble_eq_true rfl) ?_);unfold Tryz.Dx;unfold nP wo;refine ze (z8 (yp pC (yp pC (yp pC (yp pC (zf (za (ze (ze (z8 (yp (pI rfl) (zf (za (zo (ze (ze (z8 (yp (WB rfl rfl) (yp (pB rfl) (zf (za ?_)))))))))))))))))))));by_cases h1:t=2
 ·rw[decide_eq_true h1,if_pos (.inl h1)];refine zI rfl (zq (za (zI rfl (ze (z8 (yp pC (yp pC (yp pC (yp pC (zf (za (zL (bret (zX ?_))))))))))))));exact zK (JQ rfl rfl rfl rfl) ⟨_,.of,rfl,rfl⟩
 rw[decide_eq_false h1];refine zw rfl (ze (z8 (yp (WB rfl rfl) (yp (pB rfl) (zf (za ?_))))));by_cases h2:t=5
 ·rw[decide_eq_true h2,if_pos (.inr (.inl h2))];refine zI rfl (zq (za (zI rfl (ze (z8 (yp pC (yp pC (yp pC (yp pC (zf (za (zL (bret (zX ?_))))))))))))));exact zK (JQ rfl rfl rfl rfl) ⟨_,.of,rfl,rfl⟩
 rw[decide_eq_false h2];refine zw rfl (z8 (yp (WB rfl rfl) (yp (pB rfl) (zf (za ?_)))));by_cases h3:t=12
 ·rw[decide_eq_true h3,if_pos (.inr (.inr h3))];refine zI rfl (ze (z8 (yp pC (yp pC (yp pC (yp pC (zf (za (zL (bret (zX ?_)))))))))));exact zK (JQ rfl rfl rfl rfl) ⟨_,.of,rfl,rfl⟩
 rw[decide_eq_false h3,if_neg (show ¬(t=2∨t=5∨t=12) from by omega)];refine zw rfl (ze (z8 (yp (WB rfl rfl) (yp (pB rfl) (zf (za ?_))))));by_cases h4:t=15
 ·rw[decide_eq_true h4,if_pos h4];refine zI rfl (ze (z8 (yp pC (yp pC (yp pC (yp pC (zf (za (zL (bret (zX ?_)))))))))));exact zK (JQ rfl rfl rfl rfl) ⟨_,.of,rfl,rfl⟩
 rw[decide_eq_false h4,if_neg h4];refine zw rfl (ze (z8 (yp (WB rfl rfl) (yp (pB rfl) (zf (za ?_))))));by_cases h5:t=33
 ·rw[decide_eq_true h5,if_pos h5];refine zI rfl (ze (z8 (yp pC (yp pC (yp pC (yp pC (zf (za (zL (bret (zX ?_)))))))))));exact zK (JQ rfl rfl rfl rfl) ⟨_,.of,rfl,rfl⟩
 rw[decide_eq_false h5,if_neg h5];refine zw rfl (ze (z8 (yp (WB rfl rfl) (yp (pB rfl) (zf (za ?_))))));by_cases h6:t=6
 ·rw[decide_eq_true h6,if_pos h6];refine zI rfl (ze (z8 (yp pC (yp pC (yp pC (yp pC (zf (za (zL (bret (zX ?_)))))))))));exact zK (JQ rfl rfl rfl rfl) ⟨_,.of,rfl,rfl⟩
 rw[decide_eq_false h6,if_neg h6];refine zw rfl (zq (zT (za (ze (z8 (yp pC (yp pC (yp pC (yp pC (zf (za (zL ?_))))))))))));exact zK (JQ rfl rfl rfl rfl) ⟨_,.of,rfl,rfl⟩
theorem jP(t:Int)(d:Bs)(hd:d.length<2 ^ 40):Tri Tryz.prog 97 #[.int .i64 t,sv d] [] (fun r S=>∃v L H,r= .tuple #[v,.bool (xW t d).isSome]∧Zf 157 v (L:List Pl) H∧(∀l,xW t d=some l→L=l)∧S=[H]):=by
 refine Tri.forget (zn Tryz.Mw (Nat.le_of_ble_eq_true rfl) ?_);unfold Tryz.NJ;refine ze (z8 (yp pC (yp pC (zf (za (ze (z8 (yp (pI rfl) ?_))))))));refine zh (zk (Qs t) rfl rfl fun r S' h=>?_);obtain⟨rfl,rfl⟩:=h;have hno:∀{v:Value},(xW t d)=none→v= .tuple #[.slice none 0 0,.bool false]→∀S,∃S'',zG S S''∧∃w L H,v= .tuple #[w,.bool (xW t d).isSome]∧Zf 157 w (L:List Pl) H∧(∀l,xW t d=some l→L=l)∧S''=[H]:=fun h hv S=>⟨[[]],⟨S.flatten,by simp⟩,_,[],[],by rw[h]; exact hv,.nil,fun l hl=>by(rw[h] at hl; cases hl),rfl⟩
 unfold nP;cases hs:wo t with
 | none=>
  have hp:xW t d=some []:=by unfold xW; rw[hs]
  simp only;refine yp (pU rfl) (yp (pExt rfl rfl) (yp (pExt rfl rfl) (yp (pExt rfl rfl) (yp (pExt rfl rfl) (yp (pI rfl) (yp (pI rfl) (yp (pI rfl) (yp (pB rfl) (zf (za (ze (ze (z8 (yp (pB rfl) (yp (Ze rfl) (zf (za (zI rfl (ze (z8 (yp pC (yp pC (zf (za (zL (zX ?_))))))))))))))))))))))))));exact zK (AZ rfl rfl) ⟨[[]],⟨[],by simp⟩,_,[],[],by rw[hp]; rfl,.nil,fun l hl=>by rw[hp] at hl; exact Option.some.inj hl,rfl⟩
 | some x=>
  obtain⟨a,k,b⟩:=x;have hp:xW t d=if d.length<a then none else match Yb d k a with
   | some (l,e)=>if d.length=e+b then some l else none
   | none=>none:=by unfold xW; rw[hs]; try rfl
  have hab:a≤6∧k≤2∧b≤20:=xV hs;simp only;refine yp (pU rfl) (yp (pExt rfl rfl) (yp (pExt rfl rfl) (yp (pExt rfl rfl) (yp (pExt rfl rfl) (yp (pI rfl) (yp (pI rfl) (yp (pI rfl) (yp (pB rfl) (zf (za (ze (ze (z8 (yp (pB rfl) (yp (Ze rfl) (zf (za (zw rfl (zq (za (ze (ze (z8 (yp (pT rfl) (yp (uU rfl) (yp (pI rfl) (yp (ZL rfl rfl) (zf (za ?_)))))))))))))))))))))))))))));rw[Qm];by_cases h1:d.length<a
  ·rw[decide_eq_true (show(d.length:Int)<(a:Int) from by omega)];rw[if_pos h1] at hp;refine zI rfl (ze (z8 (yp pC (yp pC (zf (za (zL (zX ?_))))))));exact zK (AZ rfl rfl) (hno hp rfl _)
  rw[decide_eq_false (show ¬(d.length:Int)<(a:Int) from by omega)];rw[if_neg h1] at hp;refine zw rfl (zq (za (ze (z8 (yp (pI rfl) (yp (pI rfl) (zf (za (ze (ze (z8 (yp (pI rfl) (yp pC (zf (za (zo ?_))))))))))))))));refine Z4 (σ:=Nat) (fun i E S=>∃(v:Value) (L:List Pl) (H:List Chunk) (e:Nat),Has E [(1,sv d),(8,.int .i64 (b:Int)),(10,.int .i64 (e:Int)),(27,.int .i64 (k:Int)),(28,.int .i64 (i:Int))]∧E 4=v∧Zf 157 v L H∧L.length=i∧i≤k∧e≤d.length∧Yb d k a=(Yb d (k-i) e).map (fun x=>(L++x.1,x.2))∧zG S [H]) (fun i=>k-i) 0
   ⟨_,[],[],a,⟨rfl,rfl,rfl,rfl,rfl,trivial⟩,rfl,.nil,rfl,Nat.zero_le _,by omega,by cases Yb d (k-0) a<;>rfl,⟨[],by simp⟩⟩ fun i E S ⟨v,L,H,e,hE,hE4,hL,hLl,hi,he,hx,hJ⟩=>?_
  obtain⟨la,lc,rfl⟩:=hL.isSlice;have hE2:Has E [(1,sv d),(4,.slice la L.length lc),(8,.int .i64 (b:Int)),(10,.int .i64 (e:Int)),(27,.int .i64 (k:Int)),(28,.int .i64 (i:Int))]:=⟨hE.1,hE4,hE.2⟩
  clear hE hE4;obtain⟨E0,e0⟩:=zl hE2; subst e0; clear hE2;refine zm hJ (ze (z8 (yp (ZL rfl rfl) (zf (za (ze ?_))))));refine zO rfl (fun h2=>?_) (fun h2=>?_)
  ·obtain⟨m,hm⟩:∃m,k-i=m+1:=⟨k-i-1,by omega⟩
   rw[hm,Yb] at hx;refine zq (za (ze (zo (ze (z8 (yp (pT rfl) (yp (pI rfl) (yp (Kt (Y:=d) rfl rfl he) ?_))))))))
   skip
   refine zh (zk (ig (d.drop e) (by rw[List.length_drop]; omega)) rfl rfl fun r S' h=>?_);obtain⟨rfl,rfl⟩:=h;cases hb:(lead (d.drop e)).2 with
   | false=>
    rw[hb,if_neg (by decide)] at hx;rw[hx] at hp;refine yp (pU rfl) (yp (pExt rfl rfl) (yp (pExt rfl rfl) (yp (pI rfl) (yp (pB rfl) (zf (za (ze (ze (z8 (yp (pB rfl) (yp (Ze rfl) (zf (za (zI rfl (ze (z8 (yp pC (yp pC (zf (za (zL (zX (bret (zX (zX (bret (zX ?_)))))))))))))))))))))))))));exact zK (AZ rfl rfl) (hno hp rfl _)
   | true=>
    rw[hb,if_pos rfl] at hx;have hl:=vK (show lead (d.drop e)=((lead (d.drop e)).1,true) from by rw[←hb]);rw[List.length_drop] at hl;generalize (lead (d.drop e)).1=n at hx hl;refine yp (pU rfl) (yp (pExt rfl rfl) (yp (pExt rfl rfl) (yp (pI rfl) (yp (pB rfl) (zf (za (ze (ze (z8 (yp (pB rfl) (yp (Ze rfl) (zf (za (zw rfl (zq (za (ze (z8 (yp (pS rfl) (yp (pI rfl) (yp (pI rfl) (yp (vE (uM rfl) (uM rfl)) ?_))))))))))))))))))))));refine zh (Ve (⟨e,n⟩:Pl) rfl rfl (by decide) (by decide) rfl fun p43=>?_);refine zh (VL (Y:=[(⟨e,n⟩:Pl)]) rfl rfl hL (.lit (by repeat (first | exact List.mem_cons_self | apply List.mem_cons_of_mem)) rfl) rfl (⟨0,0⟩:Pl) rfl (by simp; omega) (by simp; omega) fun v2 H2 hL2=>?_);obtain⟨la2,lc2,rfl⟩:=hL2.isSlice;refine yp (pS rfl) (zf (za (z8 (yp (pI rfl) (yp (pI rfl) (yp (Zi rfl rfl (by omega)) (yp (pI rfl) (zf (zT (za (z8 (yp (Za rfl rfl (by omega)) (yp (pI rfl) (zf (za ?_)))))))))))))));refine⟨i+1,⟨.slice la2 (L++[(⟨e,n⟩:Pl)]).length lc2,L++[⟨e,n⟩],H2,e+n,⟨rfl,rfl,rfl,rfl,rfl,trivial⟩,rfl,hL2,by simp[hLl],by omega,by omega,?_,.of⟩,by omega⟩;rw[hx,Option.map_map,show k-(i+1)=m from by omega];congr 1;funext x;simp
  ·obtain rfl:i=k:=by omega
   rw[Nat.sub_self,Yb] at hx;rw[hx] at hp;simp only[Option.map_some,List.append_nil] at hp;refine zV (zy (zy (zW (za (ze (z8 (yp (pS rfl) (yp (pT rfl) (yp (uU rfl) (yp (pI rfl) ?_))))))))));rw[Qm];refine yp (Zt rfl rfl (by omega)) (yp (pI rfl) (yp (WB rfl rfl) (yp (pS rfl) (yp (pB rfl) (zf (za (zL ?_)))))));by_cases h3:d.length=e+b
   ·rw[if_pos h3] at hp;rw[decide_eq_true (show(d.length:Int)-(e:Int)=(b:Int) from by omega)];exact zK (AZ rfl rfl) ⟨_,.of,_,L,H,by rw[hp]; rfl,hL,fun l hl=>by rw[hp] at hl; exact Option.some.inj hl,rfl⟩
   ·rw[if_neg h3] at hp;rw[decide_eq_false (show ¬(d.length:Int)-(e:Int)=(b:Int) from by omega)];exact zK (AZ rfl rfl) ⟨_,.of,_,L,H,by rw[hp]; rfl,hL,fun l hl=>by(rw[hp] at hl; cases hl),rfl⟩
theorem eB{f:Nat}{d:Bs}{a:Nat}{b:UInt8}(h:d[a]?=some b):nC (f+1) d a=nC f d (a+1+b.toNat):=by rw[nC,h]
theorem Ql{f:Nat}{d:Bs}{a:Nat}(h:d.length≤a):nC (f+1) d a=(a==d.length):=by rw[nC,List.getElem?_eq_none h]
theorem Ow(Y:Bs):decide ((⟨Y.toArray⟩:ByteArray)=⟨#[]⟩)=decide (Y=[]):=by
 refine decide_eq_decide.2 ?_;exact JH (Z:=[])
theorem nZ(d:Bs)(hd:d.length<2 ^ 40):Tri Tryz.prog 142 #[sv d] [] (fun r S=>r= .bool (txt d)∧S=[]):=by
 refine Tri.forget (zn Tryz.GZ (Nat.le_of_ble_eq_true rfl) ?_);unfold Tryz.Dy;refine ze (z8 (yp pC (zf (za (ze (ze (z8 (yp (pT rfl) (yp (ES rfl rfl) (zf (za ?_)))))))))));rw[Ow];by_cases h0:d=[]
 ·rw[decide_eq_true h0];subst h0;refine zI rfl (ze (z8 (yp pC (zf (za (zL (zX ?_)))))));exact zK (rB rfl) ⟨_,.of,rfl,rfl⟩
 rw[decide_eq_false h0];have ht:txt d=nC (d.length+1) d 0:=by unfold txt; rw[show(d !=[])=true from by simpa using h0]; rfl
 refine zw rfl (zq (za (ze (zo ?_))));refine Z4 (σ:=Nat) (fun a E S=>Has E [(0,sv (d.drop a))]∧a≤d.length∧(∃f,txt d=nC f d a∧d.length+1≤f+a)∧zG S []) (fun a=>d.length-a) 0 ⟨⟨rfl,trivial⟩,Nat.zero_le _,⟨_,ht,Nat.le_refl _⟩,.of⟩ fun a E S ⟨hE,ha,⟨f,hf,hfl⟩,hJ⟩=>?_
 obtain⟨f,rfl⟩:∃g,f=g+1:=⟨f-1,by omega⟩
 obtain⟨E0,e0⟩:=zl hE; subst e0; clear hE;refine zm hJ ?_;have hdl:(d.drop a).length=d.length-a:=List.length_drop;refine ze (ze (z8 (yp (pT rfl) (yp (Mr rfl rfl) (zf (za ?_))))));rw[Ow];by_cases h1:a<d.length
 ·have hy:d[a]?=some d[a]:=List.getElem?_eq_getElem h1;have hy0:(d.drop a)[0]?=some d[a]:=by rw[List.getElem?_drop]; exact hy
  generalize d[a]=b at hy hy0;have hb:=b.toNat_lt;rw[decide_eq_false (show ¬d.drop a=[] from fun h=>by rw[h] at hdl; simp at hdl; omega)];rw[eB hy] at hf;refine zI rfl (zq (za (zo (ze (z8 (yp (pT rfl) (yp (bq (k:=0) rfl rfl hy0) (yp (jS rfl) (yp (Vo rfl rfl (by omega)) (yp (pI rfl) (zf (za (ze (ze (z8 (yp (pI rfl) (yp (pT rfl) (yp (uU rfl) (yp (VE rfl rfl) (zf (za ?_)))))))))))))))))))));rw[Qm];by_cases h2:a+1+b.toNat≤d.length
  ·rw[decide_eq_false (show ¬((d.drop a).length:Int)<1+(b.toNat:Int) from by omega)];refine zw rfl (zq (za (z8 (yp (pT rfl) (yp (pI rfl) (yp (Kt (Y:=d.drop a) (j:=1+b.toNat) rfl rfl (by omega)) ?_))))));rw[List.drop_drop,show a+(1+b.toNat)=a+1+b.toNat from by omega];refine yp (pT rfl) (zf (zT (za ?_)));exact⟨a+1+b.toNat,⟨⟨rfl,trivial⟩,h2,⟨f,hf,by omega⟩,.of⟩,by omega⟩
  ·rw[decide_eq_true (show((d.drop a).length:Int)<1+(b.toNat:Int) from by omega)];obtain⟨f,rfl⟩:∃g,f=g+1:=⟨f-1,by omega⟩
   rw[Ql (by omega)] at hf;refine zI rfl (ze (z8 (yp pC (zf (za (zL (zX (bret (zX (bret (zX ?_)))))))))));exact zK (rB rfl) ⟨_,.of,by rw[hf,beq_eq_false_iff_ne.2 (by omega)],rfl⟩
 ·have hda:d.drop a=[]:=List.drop_eq_nil_of_le (by omega);rw[decide_eq_true hda];rw[Ql (by omega)] at hf;refine zw rfl (zV (zy (zy (zW (za (ze (z8 (yp pC (zf (za (zL ?_)))))))))));exact zK (rB rfl) ⟨_,.of,by rw[hf,beq_iff_eq.2 (by omega)],rfl⟩
theorem Iy(n:Nat):decide ((n:Int)=4)=(n==4):=by
 by_cases h:n=4
 ·rw[decide_eq_true (by omega),beq_iff_eq.2 h]
 ·rw[decide_eq_false (by omega),beq_eq_false_iff_ne.2 h]
theorem Cq(n:Nat):decide ((n:Int)=16)=(n==16):=by
 by_cases h:n=16
 ·rw[decide_eq_true (by omega),beq_iff_eq.2 h]
 ·rw[decide_eq_false (by omega),beq_eq_false_iff_ne.2 h]
theorem JU(t:Int)(d:Bs)(hd:d.length<2 ^ 40):Tri Tryz.prog 95 #[.int .i64 t,sv d] [] (fun r S=>r= .bool (Zo t d)∧S=[]):=by
 refine Tri.forget (zn Tryz.MB (Nat.le_of_ble_eq_true rfl) ?_);unfold Tryz.x95;refine ze (z8 (yp pC (zf (za (ze (z8 (yp (pI rfl) (yp (pT rfl) ?_))))))));refine zh (zk (jP t d hd) rfl rfl fun r S' h=>?_);obtain⟨v,L,H,rfl,hL,_,rfl⟩:=h;obtain⟨la,lc,rfl⟩:=hL.isSlice;unfold Zo;refine yp (pU rfl) (yp (pExt rfl rfl) (yp (pExt rfl rfl) (yp (pS rfl) (yp (pB rfl) (zf (za (ze (zo (ze (z8 (yp (pT rfl) (yp (uU rfl) (yp (VE rfl rfl) (yp (pB rfl) (zf (za ?_))))))))))))))));rw[Qm];by_cases h1:1000<d.length
 ·rw[decide_eq_true (show(1000:Int)<(d.length:Int) from by omega),if_pos h1];refine zI rfl (ze (z8 (yp pC (zf (za (zL (bret (zX ?_))))))));exact zK (rB rfl) ⟨[],⟨H,by simp⟩,rfl,rfl⟩
 rw[decide_eq_false (show ¬(1000:Int)<(d.length:Int) from by omega),if_neg h1];refine zw rfl (ze (z8 (yp (pI rfl) (yp (WB rfl rfl) (yp (pB rfl) (zf (za ?_)))))));by_cases h2:t=1
 ·rw[decide_eq_true h2,if_pos h2];refine zI rfl (ze (z8 (yp (pT rfl) (yp (uU rfl) (yp (WB rfl rfl) (yp (pB rfl) (zf (za (zL (bret (zX ?_)))))))))));rw[Qm]
  skip
  exact zK (rB rfl) ⟨[],⟨H,by simp⟩,by rw[Iy],rfl⟩
 rw[decide_eq_false h2,if_neg h2];refine zw rfl (ze (z8 (yp (pI rfl) (yp (WB rfl rfl) (yp (pB rfl) (zf (za ?_)))))));by_cases h3:t=28
 ·rw[decide_eq_true h3,if_pos h3];refine zI rfl (ze (z8 (yp (pT rfl) (yp (uU rfl) (yp (WB rfl rfl) (yp (pB rfl) (zf (za (zL (bret (zX ?_)))))))))));rw[Qm]
  skip
  exact zK (rB rfl) ⟨[],⟨H,by simp⟩,by rw[Cq],rfl⟩
 rw[decide_eq_false h3,if_neg h3];refine zw rfl (ze (z8 (yp (pI rfl) (yp (WB rfl rfl) (yp (pB rfl) (zf (za ?_)))))));by_cases h4:t=16
 ·rw[decide_eq_true h4,if_pos h4];refine zI rfl (ze (z8 (yp (pT rfl) ?_)));refine zh (zk (nZ d hd) rfl rfl fun r S' h=>?_);obtain⟨rfl,rfl⟩:=h;refine yp (pB rfl) (zf (za (zL (bret (zX ?_)))));exact zK (rB rfl) ⟨[],⟨H,by simp⟩,rfl,rfl⟩
 rw[decide_eq_false h4,if_neg h4];refine zw rfl (zq (zT (za (ze (z8 (yp (pB rfl) (yp (pB rfl) (zf (za (zL ?_))))))))));exact zK (rB rfl) ⟨[],⟨H,by simp⟩,rfl,rfl⟩
/-! ### the walk over the names in data -/
def pv(p:Pl):Array Value:= #[.int .i64 (p.at_:Int),.int .i64 (p.n:Int)]
abbrev qb(bt bd:Nat)(t:Int)(d:Bs):zB:=[[(bt,.cells #[.int .i64 t] 3)],[(bd,.cells #[sv d] 9)]]
theorem Kj(t:Int)(d:Bs):Tri Tryz.prog 51 #[.int .i64 t,sv d] [] (fun r S=>∃bt bd,r= .func (.func 96) #[] #[.pointer (some ⟨bt,0,none⟩),.pointer (some ⟨bd,0,none⟩)]∧S=qb bt bd t d):=by
 refine Tri.forget (zn Tryz.Nc (Nat.le_of_ble_eq_true rfl) ?_);unfold Tryz.Oe;refine ze (z8 ?_);refine zh (mO (uM rfl) fun p2=>?_);refine zh (mO (fE rfl) fun p3=>?_);refine yp pC (zf (za (ze (z8 (yp (ER (jI rfl) (jI rfl)) (yp (pF rfl) (zf (za (zL ?_)))))))));exact zK (rF rfl) ⟨qb p2 p3 t d,⟨[],by simp; exact List.Perm.swap _ _ _⟩,p2,p3,rfl,rfl⟩
theorem oV{bt bd:Nat}{t:Int}{d:Bs}{S0:zB}(hd:d.length<2 ^ 40):
 Y8 Tryz.prog 96 #[] #[.pointer (some ⟨bt,0,none⟩),.pointer (some ⟨bd,0,none⟩)] (qb bt bd t d) S0
  (fun pre x=>pre++[x]<+:(prt t d).map pv) (fun xs=>xs=(prt t d).map pv):=by
 intro l c J Jx hJ0 hround;have e0:(#[]++ #[.func (.yield l) #[] #[]]++ #[.pointer (some ⟨bt,0,none⟩),.pointer (some ⟨bd,0,none⟩)]:Array Value)= #[.func (.yield l) #[] #[],.pointer (some ⟨bt,0,none⟩),.pointer (some ⟨bd,0,none⟩)]:=rfl;rw[e0];refine Tri.forget (zn Tryz.Mx (Nat.le_of_ble_eq_true rfl) ?_);unfold Tryz.x96;refine ze (ze (z8 ?_));refine zh (zF rfl rfl ?_);refine zh (zF rfl rfl ?_);refine zh (zk (JU t d hd) rfl rfl fun r S' h=>?_);obtain⟨rfl,rfl⟩:=h;cases hok:Zo t d with
 | false=>
  have hp:prt t d=[]:=by unfold prt; rw[if_neg (by rw[hok]; decide)]
  refine yp (Ze rfl) (zf (za (zI rfl (zL (zX ?_)))));exact zK ZG ⟨[c]::S0,⟨(qb bt bd t d).flatten,by simp; exact List.perm_append_comm (l₁:=[_,_])⟩,.inl ⟨[],by rw[hp]; rfl,hJ0⟩⟩
 | true=>
  have hsome:∃l,xW t d=some l:=by
   have h0:=hok;unfold Zo at h0;cases hs:wo t with
   | none=>exact⟨[],by unfold xW; rw[hs]⟩
   | some x=>
    have hk:=jH hs;split at h0
    ·cases h0
    ·rw[if_neg hk.1,if_neg hk.2.1,if_neg hk.2.2] at h0;exact Option.isSome_iff_exists.1 h0
  obtain⟨L0,hp0⟩:=hsome;have hp:prt t d=L0:=by unfold prt; rw[if_pos hok,hp0]; rfl
  refine yp (Ze rfl) (zf (za (zw rfl (zq (za (ze (z8 ?_)))))));refine zh (zF rfl rfl ?_);refine zh (zF rfl rfl ?_);refine zh (zk (jP t d hd) rfl rfl fun r S' h=>?_);obtain⟨v,L,H,rfl,hL,hLe,rfl⟩:=h;obtain rfl:=hLe L0 hp0;have hL2:=Kl hp0;obtain⟨la,lc,rfl⟩:=hL.isSlice;rw[hp];refine yp (pU rfl) (yp (pExt rfl rfl) (yp (pExt rfl rfl) (yp (pS rfl) (yp (pB rfl) (zf (za (ze (z8 (yp (pS rfl) (yp (Zz rfl) (yp pC (zf (za (zo ?_))))))))))))));refine Z4 (σ:=Nat) (fun i E S=>Has E [(0,.func (.yield l) #[] #[]),(18,.slice la L.length lc),(19,.int .i64 (L.length:Int)),(20,.int .i64 i)]∧i≤L.length∧∃T',J ((L.take i).map pv) T'∧zG S (H::T')) (fun i=>L.length-i) 0
   ⟨⟨rfl,rfl,rfl,rfl,trivial⟩,Nat.zero_le _,[c]::S0,hJ0,⟨(qb bt bd t d).flatten,?_⟩⟩ fun i E S ⟨hE,hi,T',hJ,hk⟩=>?_
  ·simp;exact List.Perm.append_left H ((List.perm_append_comm (l₁:=[_,_])).cons _)
  obtain⟨E0,e0⟩:=zl hE; subst e0; clear hE;refine zm hk (ze (z8 (yp (ZL rfl rfl) (zf (za (ze ?_))))));refine zO rfl (fun h=>?_) (fun h=>?_)
  ·have hlt:i<L.length:=by omega
   obtain⟨bb2,sp,fz,hz,rfl,hm,hc,rfl⟩:=hL.at' (by intro h; simp[h] at hlt);refine zq (za (ze (zo (ze (z8 (yp (zN rfl rfl (by omega)) ?_))))));refine zh (wB (l:=enc L[i]) rfl (vJ hlt rfl) rfl ?_);refine zh (Z8 fun p7=>?_);refine zh (vQ (c':=[.int .i64 (L[i].at_:Int),.int .i64 (L[i].n:Int)]) rfl rfl rfl rfl rfl ?_);refine zf (za (ze (z8 (yp (pF rfl) (yp (zx rfl) ?_)))));refine zh (zF rfl rfl ?_);refine yp (zx rfl) ?_;refine zh (zF rfl rfl ?_);have ht:L.take (i+1)=L.take i++[L[i]]:=List.take_succ_eq_append_getElem hlt;have hV:(L.take i).map pv++[pv L[i]]<+:L.map pv:=by
    rw[show(L.take i).map pv++[pv L[i]]=(L.take (i+1)).map pv from by rw[ht,List.map_append]; rfl];exact(List.take_prefix _ _).map _
   refine zh (Xw (hround _ (pv L[i]) T' (by rw[hp]; exact hV) hJ) rfl rfl fun bl T2 h=>?_);rcases h with⟨rfl,hJ'⟩ | ⟨rfl,hJx⟩
   ·refine yp (Ze rfl) (zf (za (zw rfl (zq (zT (za (z8 (yp (Za rfl rfl (by omega)) (yp (pI rfl) (zf (za ?_)))))))))));refine⟨i+1,⟨⟨rfl,rfl,rfl,rfl,trivial⟩,by omega,T2,?_,.of⟩,by omega⟩;rw[ht,List.map_append]; exact hJ'
   ·refine yp (Ze rfl) (zf (za (zI rfl (zL (bret (zX (zX (bret ?_))))))));exact zK ZG ⟨T2,.of,.inr ⟨_,hJx⟩⟩
  ·refine zV (zy (zy (zW ?_)));refine ZF ZG ⟨T',.of,.inl ⟨_,?_,hJ⟩⟩;rw[List.take_of_length_le (by omega)]
theorem kR{n:Nat}{Q:Exit→Env→zB→Prop}{E:Env}{g:Operand}{p q:Tmp}{xa xb:zA}{bt bd:Nat}{t:Int}{d:Bs}{S S0 G0:zB}[hsub:Sub S0 (qb bt bd t d++S) G0](J:Nat→zB→Prop)
 (hg:ev E g= .func (.func 96) #[] #[.pointer (some ⟨bt,0,none⟩),.pointer (some ⟨bd,0,none⟩)]) (hps:[p,q].all (fun t=>Nat.blt t n)=true) (hd:d.length<2 ^ 40) (hJ0:J 0 S)
 (hround:∀(l k:Nat) (x:Pl) (T:zB),(prt t d)[k]?=some x→J k T→Y Tryz.prog (some l) n xa (VO (fun E1 S1=>Y Tryz.prog (some l) n xb (Kh (fun _ S'=>J (k+1) S') (fun _ _ _=>False) []) E1 S1) (fun _ _ _=>False)) (UQ [p,q] [.int .i64 (x.at_:Int),.int .i64 (x.n:Int)] E) T)
 (hdone:∀S',J (prt t d).length S'→Q .normal E S'):Y Tryz.prog none n (.range g [p,q] xa xb) Q E S0:=by
 refine kQ (S:=S) (own:=qb bt bd t d) (G0:=G0) (fun pre T=>pre<+:(prt t d).map pv∧J pre.length T) (fun _ _ _=>False) hg hps (oV (bt:=bt) (bd:=bd) (S0:=S) hd) ⟨List.nil_prefix,hJ0⟩ ?_ ?_ ?_ ?_
 ·intro pre x hx;have:x∈(prt t d).map pv:=hx.subset (by simp);obtain⟨e,_,rfl⟩:=List.mem_map.1 this;rfl
 ·rintro l pre x T hx ⟨_,hJ⟩;have hxl:((prt t d).map pv)[pre.length]?=some x:=by
   obtain⟨u,hu⟩:=hx;rw[←hu,List.append_assoc,List.getElem?_append_right (Nat.le_refl _),Nat.sub_self]; rfl
  rw[List.getElem?_map] at hxl;cases he:(prt t d)[pre.length]? with
  | none=>rw[he] at hxl; cases hxl
  | some e=>
   rw[he] at hxl;obtain rfl:=(Option.some.inj hxl).symm;have h:=hround l pre.length e T he hJ;have hx2:pre++[pv e]<+:(prt t d).map pv:=hx;refine Y.mono h ?_;rintro ex E1 S1 h1;cases ex with
   | normal=>
    refine Y.mono h1 ?_;rintro ex2 E2 S2 h2;cases ex2 with
    | normal=>exact⟨hx2,by rw[List.length_append]; exact h2⟩
    | _=>exact h2
   | _=>exact h1
 ·rintro xs S' hx ⟨_,hJ⟩;rw[hx,List.length_map] at hJ;exact hdone S' hJ
 ·rintro e pre S' _ h;exact h.elim
end Go.Proofs.YtekgciopamkjlaaGreat
