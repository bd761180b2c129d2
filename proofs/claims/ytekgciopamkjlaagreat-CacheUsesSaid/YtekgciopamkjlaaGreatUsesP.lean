/- CacheUses, plainly. -/
import Derived.Test.YtekgciopamkjlaaGreatFirstP
import Derived.Test.YtekgciopamkjlaaGreatCaS
namespace Go.Proofs.YtekgciopamkjlaaGreat
open Go.Xs
open Enc (enc)
theorem nL{l:List Value}{o:Nat}{a b:Value}(h:(l.drop o).take 2=[a,b]):l[o+0]?=some a:=by
 have:=congrArg (fun x=>x[0]?) h;simpa[List.getElem?_take,List.getElem?_drop] using this
theorem JB(k:Nat):(UJ k).length<2 ^ 62:=by show 4<_; decide
abbrev DT(j:Nat):It:=Vp (ZG (UJ j) (Vw (j:Int))) 4 0 500
structure Us(i:Nat)(S:Ss):Prop where
 ful:aC (fun _=>500) (fun _=>0) i S
 at_:∀j,j<i→wG S.I (Zu j)=some (DT j)
theorem Us.nil:Us 0 Ui:=⟨aC.nil _ _,fun _ hj=>absurd hj (Nat.not_lt_zero _)⟩
theorem Us.put{i:Nat}{S:Ss}(h:Us i S)(hi:i<31):Vo 2048 1000 1000 (ZG (UJ i) (Vw (i:Int))) 4 500 0 S=(VP (ZG (UJ i) (Vw (i:Int))) 4 0 500 S,0)∧Us (i+1) (VP (ZG (UJ i) (Vw (i:Int))) 4 0 500 S):=by
 obtain⟨h1,h2⟩:=h.ful.put (r:=4) (x:=500) hi (d:=Vw (i:Int)) rfl rfl rfl rfl;have hno:wG S.I (Zu i)=none:=h.ful.rw.non fun j hj q=>JK hi hj q
 refine⟨?_,h2,fun j hj=>?_⟩
 ·have hth:∀it,Zi S (Zu i) 0=some it→¬(4:Int)<it.rank:=fun it hit=>by
   rw[wL (show wG S.I (fk (Zu i))=none by rw[Gt hi]; exact hno)] at hit;cases hit
  rw[uD (N:=2048) (s:=ZG (UJ i) (Vw (i:Int))) (S:=S) (now:=0) (l:=500) rfl (show WJ 1000 1000 0 500=500 from by decide) (by decide) hth,uh (by decide) (by decide)];exact h1
 ·show wG (S.I++[DT i]) (Zu j)=_;rw[qc];by_cases hji:j=i
  ·subst hji;rw[hno,if_pos (fZ hi rfl)]; rfl
  ·rw[h.at_ j (by omega)]; rfl
theorem Us.there{i j:Nat}{S:Ss}(h:Us i S)(hi:i≤31)(hj:j<i):Zi S (Zu j) 1=some (DT j):=by
 rw[wK (show wG S.I (fk (Zu j))=some (DT j) by rw[Gt (by omega)]; exact h.at_ j hj)];exact if_pos (show(1:Int)<500 by decide)
theorem Us.find{i j:Nat}{S:Ss}(h:Us i S)(hi:i≤31)(hj:j<i):WG S (Zu j) 1=some (DT j):=by
 unfold WG;rw[h.there hi hj]
theorem Us.EH{i:Nat}{S:Ss}(h:Us i S):jO S:=fun it hit=>by
 have hm:it.k∈keys S.I:=List.mem_map.2 ⟨it,hit,rfl⟩;obtain⟨j,hj,hk⟩:=h.ful.rw.mem.1 hm;have h1:=YC h.ful.rw.fam.n hit;rw[←hk,h.at_ j hj] at h1;cases h1;show(0:Int)≤500∧(500:Int)≤1099511627776;decide
theorem Us.len{i:Nat}{S:Ss}(h:Us i S):S.V.length+S.I.length=i:=by rw[h.ful.v,h.ful.rw.len]; exact Nat.zero_add i
/-- used: it goes behind those that were not -/
theorem Us.use{u:Nat}{S:Ss}(h:Us 31 S)(hu:u<31):X4 2048 S (Zu u) 1=⟨S.I,Xr 4 (Zu u) S.P S.Q,Xq 4 (Zu u) S.P S.Q,S.V⟩∧lZ (fun _=>500) (fun j=>if j=u then true else false) 1 (X4 2048 S (Zu u) 1):=by
 have e:X4 2048 S (Zu u) 1=⟨S.I,Xr 4 (Zu u) S.P S.Q,Xq 4 (Zu u) S.P S.Q,S.V⟩:=by
  unfold X4;rw[h.there (Nat.le_refl _) hu,Gt hu];rfl
 refine⟨e,?_⟩;rw[e];exact h.ful.fst.touch (by decide) hu
theorem H8:fk ⟨[2,122,122,0],1⟩=⟨[2,122,122,0],1⟩:=QA Ej 1
theorem lZ.zz{e:Nat→Int}{u:Nat→Bool}{c:Nat}{S:Ss}(h:lZ e u c S)(now:Int):Zi S ⟨[2,122,122,0],1⟩ now=none:=
 wL (by rw[H8]; exact h.rw.non fun j hj q=>bH hj (congrArg Ky.n q))
theorem lZ.Rs{u:Nat}{S:Ss}(h:lZ (fun _=>500) (fun j=>if j=u then true else false) 1 S)(d:Bs)(hd:d.length=4):
 Vo 2048 1000 1000 (ZG [2,122,122,0] d) 4 500 2 S=(VP (ZG [2,122,122,0] d) 4 2 502 (KA (Zu (if u=0 then 1 else 0)) S),0):=by
 have hfi:∃l,(List.range 31).filter (fun j=> !(if j=u then true else false))=(if u=0 then 1 else 0)::l:=by
  by_cases h0:u=0
  ·subst h0; exact⟨_,rfl⟩
  ·rw[if_neg h0];refine⟨((List.range 31).drop 1).filter (fun j=> !(if j=u then true else false)),?_⟩;rw[show List.range 31=0::(List.range 31).drop 1 from rfl,List.filter_cons,if_pos (by rw[if_neg (fun q=>h0 q.symm)]; rfl)];rfl
 obtain⟨l,hl⟩:=hfi;have hn:=h.M8 (now:=2) (BR fun j _=>by decide) hl;rw[uD (N:=2048) (s:=ZG [2,122,122,0] d) (S:=S) (now:=2) (l:=500) rfl (show WJ 1000 1000 0 500=500 from by decide) (by decide) (fun it hit=>by
  rw[show Zi S ⟨(ZG [2,122,122,0] d).name,(ZG [2,122,122,0] d).typ⟩ 2=none from h.zz 2] at hit;cases hit),uh (by decide) (by decide)]
 exact h.put hd rfl hn
end Go.Proofs.YtekgciopamkjlaaGreat