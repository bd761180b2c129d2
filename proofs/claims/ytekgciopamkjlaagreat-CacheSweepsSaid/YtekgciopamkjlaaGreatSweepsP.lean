/- CacheSweeps, plainly. -/
import Derived.Test.YtekgciopamkjlaaGreatTimesP
import Derived.Test.YtekgciopamkjlaaGreatCaS
namespace Go.Proofs.YtekgciopamkjlaaGreat
open Go.Xs
open Enc (enc)
def vT(X:List Int)(j:Nat):Int:=1+round (X.getD j 0) 50
theorem XP(X:List Int)(j:Nat):1≤vT X j∧vT X j≤50:=by
 have:=Wj (X.getD j 0) 50 (by decide);unfold vT;omega
theorem QD{X:List Int}{j:Nat}(h:j<X.length):vT X j=1+round X[j] 50:=by
 unfold vT;rw[List.getD_eq_getElem?_getD,List.getElem?_eq_getElem h]; rfl
abbrev Eo(X:List Int)(i:Nat)(S:Ss):Prop:=Rw uS (vT X) (fun _=>0) i S.I∧S.V=[]
theorem EG{kF:Nat→Ky}{e p:Nat→Int}{n:Nat}{S:Ss}(h:Rw kF e p n S.I)(he:∀j,0≤e j∧e j≤1099511627776):jO S:=fun it hit=>by
 have h1:it.de∈S.I.map It.de:=List.mem_map.2 ⟨it,hit,rfl⟩;rw[h.de] at h1;obtain⟨j,_,hj⟩:=List.mem_map.1 h1;have h2:e j=it.exp:=congrArg De.at_ hj;rw[←h2];exact he j
theorem Eo.put{X:List Int}{i:Nat}{S:Ss}(h:Eo X i S)(hi:i<15):Vo 8192 100 100 (ZG (Uy i) (Vw (i:Int))) 4 (vT X i) 0 S=(VP (ZG (Uy i) (Vw (i:Int))) 4 0 (vT X i) S,0)∧Eo X (i+1) (VP (ZG (Uy i) (Vw (i:Int))) 4 0 (vT X i) S):=by
 have hin:=XP X i;obtain⟨h1,h2⟩:=h.1.Rt (N:=8192) (r:=4) (x:=vT X i) hi (d:=Vw (i:Int)) rfl rfl rfl ((fu _ _ _).2 (by omega)) (by omega);have hno:wG S.I (uS i)=none:=h.1.non fun j hj q=>JH hi hj q
 have hth:∀it,Zi S (uS i) 0=some it→¬(4:Int)<it.rank:=fun it hit=>by
  rw[wL (show wG S.I (fk (uS i))=none by rw[OJ hi]; exact hno)] at hit;cases hit
 refine⟨?_,h2,h.2⟩;rw[uD (N:=8192) (s:=ZG (Uy i) (Vw (i:Int))) (S:=S) (now:=0) (l:=vT X i) rfl (lF ⟨by omega,by omega⟩ _) (by omega) hth,uh (by decide) ⟨by omega,by omega⟩,Int.zero_add];exact h1
theorem tY{I:List It}{k x:Ky}:wG (vS I k) x=if x=k then none else wG I x:=by
 by_cases h:x=k
 ·rw[if_pos h,h];exact vg.2 fun hk=>by
   rw[U0] at hk;have:=(List.mem_filter.1 hk).2;simp at this
 ·rw[if_neg h];unfold wG vS
  induction I with
  | nil=>rfl
  | cons e I ih=>
   rw[List.filter_cons,List.find?_cons];by_cases hk:e.k=k
   ·rw[if_neg (by simp[hk]),ih,decide_eq_false (show ¬e.k=x from fun q=>h (q.symm.trans hk))]
   ·rw[if_pos (by simp[hk]),List.find?_cons,ih]
theorem Ja:∀(K:List Ky) (S:Ss) (c:Nat) (x:Ky),wG (K.foldl swp (S,c)).1.I x=if x∈K∧free S.I x=true then none else wG S.I x
 | [],S,c,x=>by rw[if_neg (fun q=>by simp at q)]; rfl
 | k::K,S,c,x=>by
  rw[List.foldl_cons];by_cases hf:free S.I k=true
  ·rw[show swp (S,c) k=(KA k S,c+1) from by unfold swp; rw[if_pos hf],Ja K];show(if x∈K∧free (vS S.I k) x=true then none else wG (vS S.I k) x)=_;rw[tY];by_cases hx:x=k
   ·rw[if_pos hx,if_pos (show x∈k::K∧free S.I x=true from⟨by rw[hx]; simp,by rw[hx]; exact hf⟩)];split<;>rfl
   ·rw[if_neg hx,Qw hx];simp only[List.mem_cons,hx,false_or]
  ·rw[show swp (S,c) k=(S,c) from by unfold swp; rw[if_neg hf],Ja K];by_cases hx:x=k
   ·rw[hx,if_neg (fun q=>hf q.2),if_neg (fun q=>hf q.2)]
   ·simp only[List.mem_cons,hx,false_or]
def K9(X:List Int)(t:Int)(i:Nat):Nat:=((List.range i).filter fun j=>decide (vT X j≤t)).length
theorem lD(X:List Int)(t:Int)(i:Nat):K9 X t (i+1)=if vT X i≤t then K9 X t i+1 else K9 X t i:=by
 unfold K9;rw[List.range_succ,List.filter_append,List.filter_cons,List.length_append];by_cases h:vT X i≤t
 ·rw[if_pos h,if_pos (decide_eq_true h)]; rfl
 ·rw[if_neg h,if_neg (by simpa using h)]; rfl
theorem gK(X:List Int)(t:Int)(i:Nat):K9 X t i≤i:=by
 have:=List.length_filter_le (fun j=>decide (vT X j≤t)) (List.range i);rw[List.length_range] at this;exact this
theorem Mq(X:List Int)(t:Int)(n:Nat):(Gr (vT X) (fun _=>0) n t).length=K9 X t n:=by
 unfold Gr DC K9;rw[List.filter_filter];have:=((Xe (key:=vT X) (List.range n)).filter fun j=>decide (vT X j≤t)).length_eq;rw[←this];congr 1
theorem BU(k:Nat):(Uy k).length<2 ^ 62:=by show 4<_; decide
/-- what a sweep tells, and leaves -/
theorem Eo.swp{X:List Int}{n:Nat}{S:Ss}(h:Eo X n S)(t:Int):
 (VY t S).2=K9 X t n∧(VY t S).1.I.length+K9 X t n=n∧(∀j,j<n→if vT X j≤t then wG (VY t S).1.I (uS j)=none else ∃i,wG (VY t S).1.I (uS j)=some i∧i.exp=vT X j)∧(∀i∈(VY t S).1.I,t<i.exp∧i.exp≤50):=by
 obtain⟨h1,h2,h3⟩:=h.1.swp t;rw[Mq] at h2 h3;have hby:=Ja (due t S.I) S 0;have hd:∀j,j<n→(uS j∈due t S.I↔vT X j≤t):=fun j hj=>by
  rw[h.1.due,List.mem_map];constructor
  ·rintro⟨a,ha,e⟩;obtain⟨a1,a2⟩:=Yp.1 ha;rw[←h.1.inj a1 hj e]; exact a2
  ·exact fun q=>⟨j,Yp.2 ⟨hj,q⟩,rfl⟩
 have hall:∀j,j<n→if vT X j≤t then wG (VY t S).1.I (uS j)=none else ∃i,wG (VY t S).1.I (uS j)=some i∧i.exp=vT X j:=fun j hj=>by
  obtain⟨i,_,g1,_,g3,_⟩:=h.1.get hj;have hf:free S.I (uS j)=true:=by rw[h.1.free hj]; rfl
  have hb:=hby (uS j);split
  ·next hle=>exact hb.trans (if_pos ⟨(hd j hj).2 hle,hf⟩)
  ·next hle=>exact⟨i,(hb.trans (if_neg fun q=>hle ((hd j hj).1 q.1))).trans g1,g3⟩
 refine⟨h2,h3,hall,fun i hi=>?_⟩;have hn:(keys (VY t S).1.I).Nodup:=by
  have:∀(K:List Ky) (S:Ss) (c:Nat),(keys S.I).Nodup→(keys (K.foldl Go.Proofs.YtekgciopamkjlaaGreat.swp (S,c)).1.I).Nodup:=by
   intro K
   induction K with
   | nil=>exact fun S c h=>h
   | cons k K ih=>
    intro S c h;rw[List.foldl_cons];unfold Go.Proofs.YtekgciopamkjlaaGreat.swp;split
    ·exact ih _ _ (((vR S.I k).map _).nodup h)
    ·exact ih _ _ h
  exact this _ _ _ h.1.fam.n
 have hbi:=YC hn hi;have hk:wG S.I i.k=some i:=by
  have hb:=hby i.k;rw[show(List.foldl Go.Proofs.YtekgciopamkjlaaGreat.swp (S,0) (due t S.I)).1.I=(VY t S).1.I from rfl,hbi] at hb;split at hb
  ·cases hb
  ·exact hb.symm
 obtain⟨hi2,_⟩:=XW hk;obtain⟨j,hj,e⟩:=h.1.mem.1 (List.mem_map.2 ⟨i,hi2,rfl⟩);have:=hall j hj;rw[e] at this;split at this
 ·rw[hbi] at this; cases this
 ·obtain⟨i',g1,g2⟩:=this;rw[hbi] at g1;cases g1;have:=XP X j;omega
theorem CG{t:Int}{I:List It}(h:∀i∈I,t<i.exp):due t I=[]:=by
 unfold due upto;rw[List.map_eq_nil_iff,List.filter_eq_nil_iff];intro e he;obtain⟨i,hi,rfl⟩:=List.mem_map.1 ((kN (key:=xQ) (I.map It.de)).mem _ |>.1 he);have:=h i hi;show ¬decide (i.exp≤t)=true;simp; omega
/-- what is found of one of them -/
theorem Cx{S:Ss}{t e:Int}{j:Nat}(hj:j<15)(h:if e≤t then wG S.I (uS j)=none else ∃i,wG S.I (uS j)=some i∧i.exp=e)(hno:wG S.I ⟨Uy j,255⟩=none):
 WG S ⟨Uy j,1⟩ t=none∧e≤t∨∃i,WG S ⟨Uy j,1⟩ t=some i∧i.exp=e∧t<e:=by
 have hk:fk ⟨Uy j,1⟩=uS j:=OJ hj;have hk2:fk ⟨Uy j,255⟩=⟨Uy j,255⟩:=QA (bG hj) 255;unfold WG;by_cases hle:e≤t
 ·rw[if_pos hle] at h;rw[wL (k:=⟨Uy j,1⟩) (by rw[hk]; exact h)];refine .inl ⟨?_,hle⟩;show(if(1:Int)=255 then none else Zi S ⟨Uy j,255⟩ t)=none;rw[if_neg (by decide),wL (by rw[hk2]; exact hno)]
 ·rw[if_neg hle] at h;obtain⟨i,h1,h2⟩:=h;rw[wK (k:=⟨Uy j,1⟩) (by rw[hk]; exact h1),if_pos (by omega)];exact .inr ⟨i,rfl,h2,by omega⟩
theorem Eo.k1{X:List Int}{n:Nat}{S:Ss}(h:Eo X n S)(t:Int)(j:Nat):wG (VY t S).1.I ⟨Uy j,255⟩=none:=by
 have:=Ja (due t S.I) S 0 ⟨Uy j,255⟩;have hno:wG S.I ⟨Uy j,255⟩=none:=h.1.non fun a _ q=>absurd (congrArg Ky.t q) (by show ¬(1:Int)=255; decide)
 rw[hno] at this;split at this<;>exact this
end Go.Proofs.YtekgciopamkjlaaGreat