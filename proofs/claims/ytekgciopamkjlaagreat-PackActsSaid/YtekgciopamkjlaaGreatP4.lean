/- Sets that live (chapter 8): put, dropped. Sets that live (chapter 8): what they take of the arena, told by the sets alone. -/
import Derived.Test.YtekgciopamkjlaaGreatP3
namespace Go.Proofs.YtekgciopamkjlaaGreat
open Go.Xs
open Enc (enc)
structure LS where
 h:Int
 s:St
 ids:List Int
def yQ(Z:List LS):List (Int × Bs):=Z.map fun z=>(z.h,Wn z.s z.ids)
def je(Z:List LS):List Int:=(Z.map (·.ids)).flatten
def u7(Z:List LS)(h:Int):List LS:=Z.filter fun z=>z.h !=h
structure Pk(D:List (Option Bt))(L:List Nm)(Z:List LS):Prop where
 inn:Wo D L (yQ Z)
 liv:YC L (je Z)
 hs:Hs (yQ Z)
 ok:∀z∈Z,ZL z.s=0∧yP z.s∧Al L z.ids ((zS z.s).map zk)
theorem K5{Z:List LS}{z:LS}(h:z∈Z):(z.h,Wn z.s z.ids)∈yQ Z:=List.mem_map.2 ⟨z,h,rfl⟩
theorem Pk.nil:Pk [] [] []:=⟨Wo.nil,YC.nil,List.nodup_nil,fun z hz=>by simp at hz⟩
theorem jN:∀(Z:List LS) (h:Int),yQ (u7 Z h)=yT (yQ Z) h
 | [],_=>rfl
 | z::Z,h=>by
  have ih:=jN Z h;unfold u7 yT yQ at ih ⊢;rw[List.filter_cons,List.map_cons,List.filter_cons];split
  ·rw[List.map_cons,ih]
  ·exact ih
theorem ay{Z:List LS}{h:Int}{z:LS}:z∈u7 Z h↔z∈Z∧z.h≠h:=by unfold u7; simp
theorem Yf:∀{Z:List LS} {h:Int},(∀z∈Z,z.h≠h)→u7 Z h=Z
 | [],_,_=>rfl
 | z::Z,h,hn=>by
  have ih:=Yf (Z:=Z) (h:=h) fun y hy=>hn y (List.mem_cons_of_mem _ hy)
  unfold u7 at ih ⊢;have h1:(z.h !=h)=true:=by simpa using hn z (by simp)
  rw[List.filter_cons,if_pos h1,ih]
theorem o9{z:LS}{Z:List LS}(h:Hs (yQ (z::Z))):∀y∈Z,y.h≠z.h:=fun y hy e=>by
 have:=(List.nodup_cons.1 h).1;exact this (List.mem_map.2 ⟨(y.h,Wn y.s y.ids),K5 hy,e⟩)
theorem JW:∀{Z:List LS} {z:LS},Hs (yQ Z)→z∈Z→∀k,(je Z).count k=(je (u7 Z z.h)).count k+z.ids.count k
 | [],z,_,hz,_=>by simp at hz
 | y::Z,z,hh,hz,k=>by
  have hne:=o9 hh;have hcons:(je (y::Z)).count k=y.ids.count k+(je Z).count k:=by unfold je; rw[List.map_cons,List.flatten_cons,List.count_append]
  rcases List.mem_cons.1 hz with rfl | hz
  ·have h1:u7 (z::Z) z.h=Z:=by
    have:=Yf hne;unfold u7 at this ⊢;rw[List.filter_cons,if_neg (by simp),this]
   rw[hcons,h1]; omega
  ·have h2:u7 (y::Z) z.h=y::u7 Z z.h:=by
    unfold u7;have:(y.h !=z.h)=true:=by simpa using fun e=>hne z hz e.symm
    rw[List.filter_cons,if_pos this]
   have ih:=JW (List.nodup_cons.1 hh).2 hz k;have hc2:(je (y::u7 Z z.h)).count k=y.ids.count k+(je (u7 Z z.h)).count k:=by unfold je; rw[List.map_cons,List.flatten_cons,List.count_append]
   rw[hcons,h2,hc2,ih]; omega
theorem dW{Z:List LS}{z:LS}{i:Int}(hz:z∈Z)(hi:i∈z.ids):i∈je Z:=List.mem_flatten.2 ⟨z.ids,List.mem_map.2 ⟨z,hz,rfl⟩,hi⟩
theorem Al.keep{L L':List Nm}{R:List Int}(h:∀e∈L,e.id∈R→∃e'∈L',e'.id=e.id∧e'.n=e.n):∀{ids:List Int} {ns:List Bs},(∀i∈ids,i∈R)→Al L ids ns→Al L' ids ns
 | _,_,_,.nil=> .nil
 | _,_,hR,.cons ⟨e,he,h1,h2⟩ t=>by
  obtain⟨e',he',h3,h4⟩:=h e he (by rw[h1]; exact hR _ (by simp));exact .cons ⟨e',he',h3.trans h1,h4.trans h2⟩ (Al.keep h (fun i hi=>hR i (List.mem_cons_of_mem _ hi)) t)
/-- a set more -/
theorem Pk.put{N:Nat}{D D':List (Option Bt)}{L:List Nm}{Z:List LS}(h:Pk D L Z){s:St}(hE:ZL s=0)(hs:yP s)(he:(ZI N D L (zS s)).e=0)
 (hI:Wo D' (ZI N D L (zS s)).L ((((hnd (ZI N D L (zS s)).D:Nat):Int),Wn s (ZI N D L (zS s)).ids)::yQ Z)) (hh:Hs ((((hnd (ZI N D L (zS s)).D:Nat):Int),Wn s (ZI N D L (zS s)).ids)::yQ Z)):
 Pk D' (ZI N D L (zS s)).L (⟨((hnd (ZI N D L (zS s)).D:Nat):Int),s,(ZI N D L (zS s)).ids⟩::Z):=by
 refine⟨hI,?_,hh,fun z hz=>?_⟩
 ·have h1:=h.liv.adds (N:=N) (l:=zS s) h.inn.stand;refine⟨h1.dis,fun e he=>?_,h1.pos,fun i hi=>h1.ids i ?_⟩
  ·rw[h1.us e he];unfold je;rw[List.map_cons,List.flatten_cons,List.count_append,List.count_append,Nat.add_comm]
  ·unfold je at hi;rw[List.map_cons,List.flatten_cons] at hi;rcases List.mem_append.1 hi with hi | hi
   ·exact List.mem_append.2 (.inr hi)
   ·exact List.mem_append.2 (.inl hi)
 ·rcases List.mem_cons.1 hz with rfl | hz
  ·exact⟨hE,hs,K4 he⟩
  ·obtain⟨h1,h2,h3⟩:=h.ok z hz;exact⟨h1,h2,h3.mono fun e he=>yM he⟩
/-- a set less -/
theorem Pk.drop{D D':List (Option Bt)}{L:List Nm}{Z:List LS}(h:Pk D L Z){z:LS}(hz:z∈Z)(hI:Wo D' (drops L z.ids) (yT (yQ Z) z.h)):Pk D' (drops L z.ids) (u7 Z z.h):=by
 obtain⟨h1,h2⟩:=h.liv.drops (ids:=z.ids) (R:=je (u7 Z z.h)) (JW h.hs hz);refine⟨by rw[jN]; exact hI,h1,?_,fun y hy=>?_⟩
 ·rw[jN];unfold Hs yT;have:(List.filter (fun x=>x.1 !=z.h) (yQ Z)).Sublist (yQ Z):=List.filter_sublist;exact(this.map _).nodup h.hs
 ·obtain⟨h3,h4⟩:=ay.1 hy;obtain⟨h5,h6,h7⟩:=h.ok y h3;exact⟨h5,h6,h7.keep h2 fun i hi=>dW hy hi⟩
theorem Pk.pos{D:List (Option Bt)}{L:List Nm}{Z:List LS}(h:Pk D L Z):Pos L:=h.liv.pos
theorem Pk.none{D:List (Option Bt)}{L:List Nm}(h:Pk D L []):L=[]∧Z8 D=0:=by
 have h1:YC L []:=h.liv;have h2:=h1.empty;subst h2;exact⟨rfl,h.inn.empty⟩
theorem Pk.us{D:List (Option Bt)}{L:List Nm}{Z:List LS}(h:Pk D L Z){k:Nat}(hk:(je Z).length≤k):∀e∈L,e.u≤k:=fun e he=>by
 rw[h.liv.us e he];exact Nat.le_trans List.count_le_length hk
theorem JF{β:Type}(f:Int × β→Nat):∀{K:List (Int × β)} {x:Int × β},(K.map (·.1)).Nodup→x∈K→(K.map f).sum=f x+((K.filter fun y=>y.1 !=x.1).map f).sum
 | y::K,x,hn,hx=>by
  have hn2:=List.nodup_cons.1 hn;rcases List.mem_cons.1 hx with rfl | hx
  ·rw[List.filter_cons,if_neg (by simp),List.map_cons,List.sum_cons,List.filter_eq_self.2];intro z hz;have:z.1≠x.1:=fun e=>hn2.1 (List.mem_map.2 ⟨z,hz,e⟩)
   simpa using this
  ·have hne:y.1≠x.1:=fun e=>hn2.1 (List.mem_map.2 ⟨x,hx,e.symm⟩)
   rw[List.filter_cons,if_pos (by simpa using hne),List.map_cons,List.map_cons,List.sum_cons,List.sum_cons,JF f hn2.2 hx];omega
theorem xB(D:List (Option Bt))(o:Option Bt)(i:Int):Zb (D++[o]) i=if i=(D.length:Int)+1 then o else Zb D i:=by
 unfold Zb;by_cases h1:1≤i
 ·rw[if_pos h1,if_pos h1];by_cases h2:i=(D.length:Int)+1
  ·rw[if_pos h2,show(i-1).toNat=D.length from by omega,List.getElem?_append_right (Nat.le_refl _),Nat.sub_self];cases o<;>rfl
  ·rw[if_neg h2];by_cases h3:(i-1).toNat<D.length
   ·rw[List.getElem?_append_left h3]
   ·rw[List.getElem?_eq_none (by simp; omega),List.getElem?_eq_none (by omega)]
 ·rw[if_neg h1,if_neg h1,if_neg (by omega)]
theorem jv(D:List (Option Bt))(o:Option Bt):Z8 (D++[o])=Z8 D+X6 o:=by unfold Z8; simp
theorem XW{D:List (Option Bt)}{i:Int}{b:Bt}(h:Zb D i=some b):i≤(D.length:Int):=by
 unfold Zb at h;split at h
 ·by_cases h3:(i-1).toNat<D.length
  ·omega
  ·rw[List.getElem?_eq_none (by omega)] at h; cases h
 ·cases h
theorem x8:∀(n:Nat) (D:List (Option Bt)) (K:List (Int × Bt)),D.length=n→(K.map (·.1)).Nodup→(∀i b,Zb D i=some b↔(i,b)∈K)→Z8 D=(K.map fun x=>Z6 x.2.length).sum
 | 0,D,K,hl,_,h=>by
  have:D=[]:=List.eq_nil_of_length_eq_zero hl;subst this;cases K with
  | nil=>rfl
  | cons x K=>
   have:=(h x.1 x.2).2 (by simp);unfold Zb at this;split at this<;>simp at this
 | n+1,D,K,hl,hn,h=>by
  obtain⟨D0,o,rfl⟩:∃D0 o,D=D0++[o]:=by
   rcases Jm D with rfl | ⟨A,y,rfl⟩
   ·simp at hl
   ·exact⟨A,y,rfl⟩
  have hl0:D0.length=n:=by simpa using hl
  rw[jv];cases o with
  | none=>
   rw[x8 n D0 K hl0 hn fun i b=>?_]
   ·rfl
   rw[←h i b,xB];split
   ·next e=>
    constructor
    ·intro hg;have:=XW hg;omega
    ·intro hg; cases hg
   ·rfl
  | some c=>
   have hm:((D0.length:Int)+1,c)∈K:=(h _ _).1 (by rw[xB,if_pos rfl]);rw[JF (fun x=>Z6 x.2.length) hn hm];rw[x8 n D0 (K.filter fun y=>y.1 !=(D0.length:Int)+1) hl0 ?_ fun i b=>?_]
   ·exact Nat.add_comm _ _
   ·exact((List.filter_sublist (l:=K)).map _).nodup hn
   ·rw[List.mem_filter, ←h i b,xB];constructor
    ·intro hg;have:=XW hg;rw[if_neg (by omega)];refine⟨hg,?_⟩;have:i≠(D0.length:Int)+1:=by omega
     simpa using this
    ·rintro⟨hg,hne⟩;have:i≠(D0.length:Int)+1:=by simpa using hne
     rw[if_neg this] at hg;exact hg
theorem Wo.used{D:List (Option Bt)}{L:List Nm}{B:List (Int × Bs)}(h:Wo D L B)(hh:Hs B):Z8 D=(L.map fun e=>Z6 (8+e.n.length)).sum+(B.map fun x=>Z6 x.2.length).sum:=by
 have hk:=x8 D.length D (L.map (fun e=>(e.id,Ve e.u++e.n))++B) rfl ?_ fun i b=>?_
 ·rw[hk,List.map_append,List.sum_append,List.map_map];congr 2;refine List.map_congr_left fun e _=>?_
  show Z6 (Ve e.u++e.n).length=_;rw[List.length_append,ZK]
 ·rw[List.map_append,List.map_map];refine List.nodup_append.2 ⟨h.dis.ids,hh,fun a ha b hb e=>?_⟩;obtain⟨x,hx,rfl⟩:=List.mem_map.1 ha;obtain⟨y,hy,rfl⟩:=List.mem_map.1 hb;exact(h.oth y hy).2 x hx e
 ·rw[List.mem_append,List.mem_map];constructor
  ·intro hg;rcases h.all i b hg with⟨e,he,rfl⟩ | ⟨x,hx,rfl⟩
   ·rw[h.blk e he] at hg;exact .inl ⟨e,he,by rw[Option.some.inj hg]⟩
   ·rw[(h.oth x hx).1] at hg;exact .inr (by rw[←Option.some.inj hg]; exact hx)
  ·rintro(⟨e,he,h1⟩ | hx)
   ·cases h1;exact h.blk e he
   ·exact(h.oth _ hx).1
theorem Al.get{L:List Nm}:∀{ids:List Int} {ns:List Bs},Al L ids ns→(∀i∈ids,∃e∈L,e.id=i∧e.n∈ns)∧∀n∈ns,∃e∈L,e.n=n
 | _,_,.nil=>⟨fun i hi=>by simp at hi,fun n hn=>by simp at hn⟩
 | _,_,.cons ⟨e,he,h1,h2⟩ t=>by
  obtain⟨h3,h4⟩:=t.get;refine⟨fun i hi=>?_,fun n hn=>?_⟩
  ·rcases List.mem_cons.1 hi with rfl | hi
   ·exact⟨e,he,h1,by rw[h2]; simp⟩
   ·obtain⟨e',h5,h6,h7⟩:=h3 i hi;exact⟨e',h5,h6,List.mem_cons_of_mem _ h7⟩
  ·rcases List.mem_cons.1 hn with rfl | hn
   ·exact⟨e,he,h2⟩
   ·exact h4 n hn
/-- each once -/
def dd:List Bs→List Bs
 | []=>[]
 | n::l=>if n∈dd l then dd l else n::dd l
end Go.Proofs.YtekgciopamkjlaaGreat
