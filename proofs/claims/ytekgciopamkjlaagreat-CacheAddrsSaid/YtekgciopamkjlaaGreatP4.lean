/- Sets that live (chapter 8): put, dropped. Sets that live (chapter 8): what they take of the arena, told by the sets alone. -/
import Derived.Test.YtekgciopamkjlaaGreatP3
namespace Go.Proofs.YtekgciopamkjlaaGreat
open Go.Xs
open Enc (enc)
structure LS where
 h:Int
 s:St
 ids:List Int
def Y7(Z:List LS):List (Int × Bs):=Z.map fun z=>(z.h,Wu z.s z.ids)
def jh(Z:List LS):List Int:=(Z.map (·.ids)).flatten
def uw(Z:List LS)(h:Int):List LS:=Z.filter fun z=>z.h !=h
structure Pk(D:List (Option Bt))(L:List Nm)(Z:List LS):Prop where
 inn:vC D L (Y7 Z)
 liv:jc L (jh Z)
 hs:Hs (Y7 Z)
 ok:∀z∈Z,wh z.s=0∧kK z.s∧Al L z.ids ((Zb z.s).map zC)
theorem j6{Z:List LS}{z:LS}(h:z∈Z):(z.h,Wu z.s z.ids)∈Y7 Z:=List.mem_map.2 ⟨z,h,rfl⟩
theorem Pk.nil:Pk [] [] []:=⟨vC.nil,jc.nil,List.nodup_nil,fun z hz=>by simp at hz⟩
theorem JZ:∀(Z:List LS) (h:Int),Y7 (uw Z h)=jT (Y7 Z) h
 | [],_=>rfl
 | z::Z,h=>by
  have ih:=JZ Z h;unfold uw jT Y7 at ih ⊢;rw[List.filter_cons,List.map_cons,List.filter_cons];split
  ·rw[List.map_cons,ih]
  ·exact ih
theorem gU{Z:List LS}{h:Int}{z:LS}:z∈uw Z h↔z∈Z∧z.h≠h:=by unfold uw; simp
theorem YI:∀{Z:List LS} {h:Int},(∀z∈Z,z.h≠h)→uw Z h=Z
 | [],_,_=>rfl
 | z::Z,h,hn=>by
  have ih:=YI (Z:=Z) (h:=h) fun y hy=>hn y (List.mem_cons_of_mem _ hy)
  unfold uw at ih ⊢;have h1:(z.h !=h)=true:=by simpa using hn z (by simp)
  rw[List.filter_cons,if_pos h1,ih]
theorem Fx{z:LS}{Z:List LS}(h:Hs (Y7 (z::Z))):∀y∈Z,y.h≠z.h:=fun y hy e=>by
 have:=(List.nodup_cons.1 h).1;exact this (List.mem_map.2 ⟨(y.h,Wu y.s y.ids),j6 hy,e⟩)
theorem aL:∀{Z:List LS} {z:LS},Hs (Y7 Z)→z∈Z→∀k,(jh Z).count k=(jh (uw Z z.h)).count k+z.ids.count k
 | [],z,_,hz,_=>by simp at hz
 | y::Z,z,hh,hz,k=>by
  have hne:=Fx hh;have hcons:(jh (y::Z)).count k=y.ids.count k+(jh Z).count k:=by unfold jh; rw[List.map_cons,List.flatten_cons,List.count_append]
  rcases List.mem_cons.1 hz with rfl | hz
  ·have h1:uw (z::Z) z.h=Z:=by
    have:=YI hne;unfold uw at this ⊢;rw[List.filter_cons,if_neg (by simp),this]
   rw[hcons,h1]; omega
  ·have h2:uw (y::Z) z.h=y::uw Z z.h:=by
    unfold uw;have:(y.h !=z.h)=true:=by simpa using fun e=>hne z hz e.symm
    rw[List.filter_cons,if_pos this]
   have ih:=aL (List.nodup_cons.1 hh).2 hz k;have hc2:(jh (y::uw Z z.h)).count k=y.ids.count k+(jh (uw Z z.h)).count k:=by unfold jh; rw[List.map_cons,List.flatten_cons,List.count_append]
   rw[hcons,h2,hc2,ih]; omega
theorem rC{Z:List LS}{z:LS}{i:Int}(hz:z∈Z)(hi:i∈z.ids):i∈jh Z:=List.mem_flatten.2 ⟨z.ids,List.mem_map.2 ⟨z,hz,rfl⟩,hi⟩
theorem Al.keep{L L':List Nm}{R:List Int}(h:∀e∈L,e.id∈R→∃e'∈L',e'.id=e.id∧e'.n=e.n):∀{ids:List Int} {ns:List Bs},(∀i∈ids,i∈R)→Al L ids ns→Al L' ids ns
 | _,_,_,.nil=> .nil
 | _,_,hR,.cons ⟨e,he,h1,h2⟩ t=>by
  obtain⟨e',he',h3,h4⟩:=h e he (by rw[h1]; exact hR _ (by simp));exact .cons ⟨e',he',h3.trans h1,h4.trans h2⟩ (Al.keep h (fun i hi=>hR i (List.mem_cons_of_mem _ hi)) t)
/-- a set more -/
theorem Pk.put{N:Nat}{D D':List (Option Bt)}{L:List Nm}{Z:List LS}(h:Pk D L Z){s:St}(hE:wh s=0)(hs:kK s)(he:(wO N D L (Zb s)).e=0)
 (hI:vC D' (wO N D L (Zb s)).L ((((hnd (wO N D L (Zb s)).D:Nat):Int),Wu s (wO N D L (Zb s)).ids)::Y7 Z)) (hh:Hs ((((hnd (wO N D L (Zb s)).D:Nat):Int),Wu s (wO N D L (Zb s)).ids)::Y7 Z)):
 Pk D' (wO N D L (Zb s)).L (⟨((hnd (wO N D L (Zb s)).D:Nat):Int),s,(wO N D L (Zb s)).ids⟩::Z):=by
 refine⟨hI,?_,hh,fun z hz=>?_⟩
 ·have h1:=h.liv.adds (N:=N) (l:=Zb s) h.inn.stand;refine⟨h1.dis,fun e he=>?_,h1.pos,fun i hi=>h1.ids i ?_⟩
  ·rw[h1.us e he];unfold jh;rw[List.map_cons,List.flatten_cons,List.count_append,List.count_append,Nat.add_comm]
  ·unfold jh at hi;rw[List.map_cons,List.flatten_cons] at hi;rcases List.mem_append.1 hi with hi | hi
   ·exact List.mem_append.2 (.inr hi)
   ·exact List.mem_append.2 (.inl hi)
 ·rcases List.mem_cons.1 hz with rfl | hz
  ·exact⟨hE,hs,Q5 he⟩
  ·obtain⟨h1,h2,h3⟩:=h.ok z hz;exact⟨h1,h2,h3.mono fun e he=>Y5 he⟩
/-- a set less -/
theorem Pk.drop{D D':List (Option Bt)}{L:List Nm}{Z:List LS}(h:Pk D L Z){z:LS}(hz:z∈Z)(hI:vC D' (drops L z.ids) (jT (Y7 Z) z.h)):Pk D' (drops L z.ids) (uw Z z.h):=by
 obtain⟨h1,h2⟩:=h.liv.drops (ids:=z.ids) (R:=jh (uw Z z.h)) (aL h.hs hz);refine⟨by rw[JZ]; exact hI,h1,?_,fun y hy=>?_⟩
 ·rw[JZ];unfold Hs jT;have:(List.filter (fun x=>x.1 !=z.h) (Y7 Z)).Sublist (Y7 Z):=List.filter_sublist;exact(this.map _).nodup h.hs
 ·obtain⟨h3,h4⟩:=gU.1 hy;obtain⟨h5,h6,h7⟩:=h.ok y h3;exact⟨h5,h6,h7.keep h2 fun i hi=>rC hy hi⟩
theorem Pk.pos{D:List (Option Bt)}{L:List Nm}{Z:List LS}(h:Pk D L Z):Pos L:=h.liv.pos
theorem Pk.none{D:List (Option Bt)}{L:List Nm}(h:Pk D L []):L=[]∧Zh D=0:=by
 have h1:jc L []:=h.liv;have h2:=h1.empty;subst h2;exact⟨rfl,h.inn.empty⟩
theorem Pk.us{D:List (Option Bt)}{L:List Nm}{Z:List LS}(h:Pk D L Z){k:Nat}(hk:(jh Z).length≤k):∀e∈L,e.u≤k:=fun e he=>by
 rw[h.liv.us e he];exact Nat.le_trans List.count_le_length hk
theorem jB{l l':List Nat}(h:l.Perm l'):l.sum=l'.sum:=by
 induction h with
 | nil=>rfl
 | cons x _ ih=>rw[List.sum_cons,List.sum_cons,ih]
 | swap x y l=>rw[List.sum_cons,List.sum_cons,List.sum_cons,List.sum_cons]; omega
 | trans _ _ h1 h2=>exact h1.trans h2
theorem Ux{β:Type}[DecidableEq β]:∀{A B:List β},A.Nodup→B.Nodup→(∀x,x∈A↔x∈B)→A.Perm B
 | [],B,_,_,h=>by
  cases B with
  | nil=>exact .nil
  | cons b B=>exact absurd ((h b).2 (by simp)) (by simp)
 | a::A,B,hA,hB,h=>by
  have ha:a∈B:=(h a).1 (by simp);have h1:(B.erase a).Nodup:=(List.erase_sublist (a:=a) (l:=B)).nodup hB;have h2:=List.perm_cons_erase ha;refine .trans (.cons a (Ux (List.nodup_cons.1 hA).2 h1 fun x=>?_)) h2.symm;rw[hB.mem_erase_iff];constructor
  ·intro hx;exact⟨fun e=>(List.nodup_cons.1 hA).1 (e▸hx),(h x).1 (List.mem_cons_of_mem _ hx)⟩
  ·rintro⟨hne,hx⟩;rcases List.mem_cons.1 ((h x).2 hx) with e | hx
   ·exact absurd e hne
   ·exact hx
theorem QT{β:Type}(f:Int × β→Nat):∀{K:List (Int × β)} {x:Int × β},(K.map (·.1)).Nodup→x∈K→(K.map f).sum=f x+((K.filter fun y=>y.1 !=x.1).map f).sum
 | y::K,x,hn,hx=>by
  have hn2:=List.nodup_cons.1 hn;rcases List.mem_cons.1 hx with rfl | hx
  ·rw[List.filter_cons,if_neg (by simp),List.map_cons,List.sum_cons,List.filter_eq_self.2];intro z hz;have:z.1≠x.1:=fun e=>hn2.1 (List.mem_map.2 ⟨z,hz,e⟩)
   simpa using this
  ·have hne:y.1≠x.1:=fun e=>hn2.1 (List.mem_map.2 ⟨x,hx,e.symm⟩)
   rw[List.filter_cons,if_pos (by simpa using hne),List.map_cons,List.map_cons,List.sum_cons,List.sum_cons,QT f hn2.2 hx];omega
theorem X4(D:List (Option Bt))(o:Option Bt)(i:Int):Zl (D++[o]) i=if i=(D.length:Int)+1 then o else Zl D i:=by
 unfold Zl;by_cases h1:1≤i
 ·rw[if_pos h1,if_pos h1];by_cases h2:i=(D.length:Int)+1
  ·rw[if_pos h2,show(i-1).toNat=D.length from by omega,List.getElem?_append_right (Nat.le_refl _),Nat.sub_self];cases o<;>rfl
  ·rw[if_neg h2];by_cases h3:(i-1).toNat<D.length
   ·rw[List.getElem?_append_left h3]
   ·rw[List.getElem?_eq_none (by simp; omega),List.getElem?_eq_none (by omega)]
 ·rw[if_neg h1,if_neg h1,if_neg (by omega)]
theorem JF(D:List (Option Bt))(o:Option Bt):Zh (D++[o])=Zh D+Y9 o:=by unfold Zh; simp
theorem yH{D:List (Option Bt)}{i:Int}{b:Bt}(h:Zl D i=some b):i≤(D.length:Int):=by
 unfold Zl at h;split at h
 ·by_cases h3:(i-1).toNat<D.length
  ·omega
  ·rw[List.getElem?_eq_none (by omega)] at h; cases h
 ·cases h
theorem xR:∀(n:Nat) (D:List (Option Bt)) (K:List (Int × Bt)),D.length=n→(K.map (·.1)).Nodup→(∀i b,Zl D i=some b↔(i,b)∈K)→Zh D=(K.map fun x=>zZ x.2.length).sum
 | 0,D,K,hl,_,h=>by
  have:D=[]:=List.eq_nil_of_length_eq_zero hl;subst this;cases K with
  | nil=>rfl
  | cons x K=>
   have:=(h x.1 x.2).2 (by simp);unfold Zl at this;split at this<;>simp at this
 | n+1,D,K,hl,hn,h=>by
  obtain⟨D0,o,rfl⟩:∃D0 o,D=D0++[o]:=by
   rcases K9 D with rfl | ⟨A,y,rfl⟩
   ·simp at hl
   ·exact⟨A,y,rfl⟩
  have hl0:D0.length=n:=by simpa using hl
  rw[JF];cases o with
  | none=>
   rw[xR n D0 K hl0 hn fun i b=>?_]
   ·rfl
   rw[←h i b,X4];split
   ·next e=>
    constructor
    ·intro hg;have:=yH hg;omega
    ·intro hg; cases hg
   ·rfl
  | some c=>
   have hm:((D0.length:Int)+1,c)∈K:=(h _ _).1 (by rw[X4,if_pos rfl]);rw[QT (fun x=>zZ x.2.length) hn hm];rw[xR n D0 (K.filter fun y=>y.1 !=(D0.length:Int)+1) hl0 ?_ fun i b=>?_]
   ·exact Nat.add_comm _ _
   ·exact((List.filter_sublist (l:=K)).map _).nodup hn
   ·rw[List.mem_filter, ←h i b,X4];constructor
    ·intro hg;have:=yH hg;rw[if_neg (by omega)];refine⟨hg,?_⟩;have:i≠(D0.length:Int)+1:=by omega
     simpa using this
    ·rintro⟨hg,hne⟩;have:i≠(D0.length:Int)+1:=by simpa using hne
     rw[if_neg this] at hg;exact hg
theorem vC.used{D:List (Option Bt)}{L:List Nm}{B:List (Int × Bs)}(h:vC D L B)(hh:Hs B):Zh D=(L.map fun e=>zZ (8+e.n.length)).sum+(B.map fun x=>zZ x.2.length).sum:=by
 have hk:=xR D.length D (L.map (fun e=>(e.id,Vi e.u++e.n))++B) rfl ?_ fun i b=>?_
 ·rw[hk,List.map_append,List.sum_append,List.map_map];congr 2;refine List.map_congr_left fun e _=>?_
  show zZ (Vi e.u++e.n).length=_;rw[List.length_append,ZK]
 ·rw[List.map_append,List.map_map];refine List.nodup_append.2 ⟨h.dis.ids,hh,fun a ha b hb e=>?_⟩;obtain⟨x,hx,rfl⟩:=List.mem_map.1 ha;obtain⟨y,hy,rfl⟩:=List.mem_map.1 hb;exact(h.oth y hy).2 x hx e
 ·rw[List.mem_append,List.mem_map];constructor
  ·intro hg;rcases h.all i b hg with⟨e,he,rfl⟩ | ⟨x,hx,rfl⟩
   ·rw[h.blk e he] at hg;exact .inl ⟨e,he,by rw[Option.some.inj hg]⟩
   ·rw[(h.oth x hx).1] at hg;exact .inr (by rw[←Option.some.inj hg]; exact hx)
  ·rintro(⟨e,he,h1⟩ | hx)
   ·cases h1;exact h.blk e he
   ·exact(h.oth _ hx).1
/-- the names of sets, folded -/
def QJ(I:List St):List Bs:=(I.map fun s=>(Zb s).map zC).flatten
theorem QI{I:List St}{n:Bs}:n∈QJ I↔∃s∈I,n∈(Zb s).map zC:=by
 unfold QJ;rw[List.mem_flatten];constructor
 ·rintro⟨l,hl,hn⟩;obtain⟨s,hs,rfl⟩:=List.mem_map.1 hl;exact⟨s,hs,hn⟩
 ·rintro⟨s,hs,hn⟩;exact⟨_,List.mem_map.2 ⟨s,hs,rfl⟩,hn⟩
theorem Al.get{L:List Nm}:∀{ids:List Int} {ns:List Bs},Al L ids ns→(∀i∈ids,∃e∈L,e.id=i∧e.n∈ns)∧∀n∈ns,∃e∈L,e.n=n
 | _,_,.nil=>⟨fun i hi=>by simp at hi,fun n hn=>by simp at hn⟩
 | _,_,.cons ⟨e,he,h1,h2⟩ t=>by
  obtain⟨h3,h4⟩:=t.get;refine⟨fun i hi=>?_,fun n hn=>?_⟩
  ·rcases List.mem_cons.1 hi with rfl | hi
   ·exact⟨e,he,h1,by rw[h2]; simp⟩
   ·obtain⟨e',h5,h6,h7⟩:=h3 i hi;exact⟨e',h5,h6,List.mem_cons_of_mem _ h7⟩
  ·rcases List.mem_cons.1 hn with rfl | hn
   ·exact⟨e,he,h2⟩
   ·exact h4 n hn
theorem Pk.names{D:List (Option Bt)}{L:List Nm}{Z:List LS}(h:Pk D L Z)(n:Bs):n∈L.map (·.n)↔n∈QJ (Z.map (·.s)):=by
 rw[QI];constructor
 ·intro hn;obtain⟨e,he,rfl⟩:=List.mem_map.1 hn;have h1:=h.liv.us e he;have h2:=h.liv.pos e he;have h3:e.id∈jh Z:=List.count_pos_iff.1 (by omega);unfold jh at h3;obtain⟨l,hl,hi⟩:=List.mem_flatten.1 h3;obtain⟨z,hz,rfl⟩:=List.mem_map.1 hl;obtain⟨e',he',h4,h5⟩:=(h.ok z hz).2.2.get.1 _ hi;have:e'=e:=by
   have hd:=h.liv.dis.ids;obtain⟨j,hj⟩:=List.mem_iff_getElem?.1 he;obtain⟨j',hj'⟩:=List.mem_iff_getElem?.1 he';have a1:(L.map (·.id))[j]?=some e.id:=by rw[List.getElem?_map,hj]; rfl
   have a2:(L.map (·.id))[j']?=some e.id:=by rw[List.getElem?_map,hj']; show some e'.id=_; rw[h4]
   have:=(List.getElem?_inj (List.getElem?_eq_some_iff.1 a1).1 hd).1 (a1.trans a2.symm);rw[←this,hj] at hj';exact(Option.some.inj hj').symm
  rw[this] at h5;exact⟨z.s,List.mem_map.2 ⟨z,hz,rfl⟩,h5⟩
 ·rintro⟨s,hs,hn⟩;obtain⟨z,hz,rfl⟩:=List.mem_map.1 hs;obtain⟨e,he,h1⟩:=(h.ok z hz).2.2.get.2 _ hn;exact List.mem_map.2 ⟨e,he,h1⟩
theorem Pk.El{D:List (Option Bt)}{L:List Nm}{Z:List LS}(h:Pk D L Z){A:List Bs}(hA:A.Nodup)(hm:∀n,n∈A↔n∈QJ (Z.map (·.s))):
 Zh D=(A.map fun n=>zZ (8+n.length)).sum+(Z.map fun z=>zZ (Zp z.s).toNat).sum:=by
 rw[h.inn.used h.hs];have h1:(L.map (·.n)).Perm A:=Ux h.liv.dis.ns hA fun n=>by rw[h.names n,hm n]
 have h2:=jB (h1.map fun n=>zZ (8+n.length));rw[List.map_map] at h2;rw[←h2];unfold Y7;rw[List.map_map];congr 2;refine List.map_congr_left fun z hz=>?_
 obtain⟨hE,_,hal⟩:=h.ok z hz;have:=xI (s:=z.s) (ids:=z.ids) (fun r hr=>(WC (u7 hE).1 r hr).1) (by rw[hal.len,List.length_map]);show zZ (Wu z.s z.ids).length=_;rw[←this,Int.toNat_natCast]
/-- each once -/
def dd:List Bs→List Bs
 | []=>[]
 | n::l=>if n∈dd l then dd l else n::dd l
theorem qJ:∀(l:List Bs) (n:Bs),n∈dd l↔n∈l
 | [],n=>by simp[dd]
 | m::l,n=>by
  unfold dd;have ih:=qJ l;split
  ·next h=>
   rw[ih,List.mem_cons];constructor
   ·exact .inr
   ·rintro(rfl | h2)
    ·exact(ih _).1 h
    ·exact h2
  ·rw[List.mem_cons,List.mem_cons,ih]
theorem xB:∀(l:List Bs),(dd l).Nodup
 | []=>List.nodup_nil
 | m::l=>by
  unfold dd;split
  ·exact xB l
  ·next h=>exact List.nodup_cons.2 ⟨h,xB l⟩
def uR(I:List St):Nat:=((dd (QJ I)).map fun n=>zZ (8+n.length)).sum+(I.map fun s=>zZ (Zp s).toNat).sum
theorem aQ{I:List St}{A:List Bs}(hA:A.Nodup)(hm:∀n,n∈A↔n∈QJ I):uR I=(A.map fun n=>zZ (8+n.length)).sum+(I.map fun s=>zZ (Zp s).toNat).sum:=by
 unfold uR;have h1:(dd (QJ I)).Perm A:=Ux (xB _) hA fun n=>by rw[qJ,hm n]
 rw[jB (h1.map fun n=>zZ (8+n.length))]
theorem Pk.use{D:List (Option Bt)}{L:List Nm}{Z:List LS}(h:Pk D L Z):Zh D=uR (Z.map (·.s)):=by
 rw[h.El (xB _) fun n=>qJ _ n];unfold uR;rw[List.map_map];rfl
def xD(A:List Bs):List Bs→List Bs→Nat
 | _,[]=>0
 | seen,n::l=>(if zC n∈seen∨zC n∈A then 0 else zZ (8+n.length))+xD A (zC n::seen) l
theorem av{L:List Nm}{A:List Bs}(h:∀n,n∈L.map (·.n)↔n∈A):∀(l seen:List Bs),wL L seen l=xD A seen l
 | [],_=>rfl
 | n::l,seen=>by
  have hb:(Vn L (zC n)).isSome=true↔zC n∈A:=by rw[←h,KR,List.mem_map]
  unfold wL xD;rw[av h l];simp only[hb]
def Vx(I:List St)(s:St):Int:=if wh s=0 then cost (Zp s)+(xD (QJ I) [] (Zb s):Nat) else 0
theorem Pk.cst{D:List (Option Bt)}{L:List Nm}{Z:List LS}(h:Pk D L Z)(s:St):uY L s=Vx (Z.map (·.s)) s:=by
 unfold uY Vx;rw[av h.names]
end Go.Proofs.YtekgciopamkjlaaGreat
