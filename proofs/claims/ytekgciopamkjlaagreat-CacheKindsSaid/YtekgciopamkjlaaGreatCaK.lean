/- CacheKinds, plainly. -/
import Derived.Test.YtekgciopamkjlaaGreatCaS
namespace Go.Proofs.YtekgciopamkjlaaGreat
open Go.Xs
open Enc (enc)
section
variable {n:Bs} {t:Int} {both:Bool}
abbrev rW(n:Bs)(t:Int):Ss:=one (ZK n t 1) 0 3 0 50 [Zq (ZK n t 1)] []
def kd(n:Bs)(t:Int)(both:Bool):Ss:=if both=true then VP (ZK n 255 2) 3 0 60 (rW n t) else rW n t
theorem Cq(hv:wm n=true)(hn:n.length≤100)(ht:1≤t∧t≤200):Vo 4096 100 100 (ZK n t 1) 3 50 0 Ui=(rW n t,0):=by
 have hc:=K7 (k:=8+n.length) (by omega);obtain⟨hE,_,hw⟩:=Wv (t:=t) (k:=1) hv (by omega) (by decide);have hq:decide ((ZK n t 1).typ=255)=decide ((ZK n t 1).kind=2):=by
  show decide (t=255)=false;exact decide_eq_false (by omega)
 rw[uD (N:=4096) (s:=ZK n t 1) (S:=Ui) (now:=0) (l:=50) hq (show WJ 100 100 1 50=50 from by decide) (by decide) (fun i hi=>absurd (show(none:Option It)=some i from hi) (by simp)),uh (by decide) (by decide)];exact Jw hE (by omega) rfl
theorem UM(T:Int):Zi (kd n t both) ⟨n,T⟩ 10=if t=T then some (Vp (ZK n t 1) 3 0 50) else if both=true∧T=255 then some (Vp (ZK n 255 2) 3 0 60) else none:=by
 have h1:∀{a b:Int},fk ⟨n,a⟩=fk ⟨n,b⟩↔a=b:=fun {a b}=>⟨fun e=>congrArg Ky.t e,fun e=>by rw[e]⟩
 have hb:wG (rW n t).I (fk ⟨n,T⟩)=if t=T then some (Vp (ZK n t 1) 3 0 50) else none:=by
  show List.find? _ [_]=_;rw[List.find?_singleton];show(if decide (fk ⟨n,t⟩=fk ⟨n,T⟩)=true then _ else _)=_;by_cases e:t=T
  ·rw[if_pos e,if_pos (by rw[decide_eq_true (h1.2 e)])]
  ·rw[if_neg e,if_neg (by rw[decide_eq_false fun q=>e (h1.1 q)]; decide)]
 have hb2:wG (kd n t both).I (fk ⟨n,T⟩)=if t=T then some (Vp (ZK n t 1) 3 0 50) else if both=true∧T=255 then some (Vp (ZK n 255 2) 3 0 60) else none:=by
  cases both with
  | false=>
   show wG (rW n t).I _=_;rw[hb];by_cases e:t=T
   ·rw[if_pos e,if_pos e]
   ·rw[if_neg e,if_neg e,if_neg (fun q=>by cases q.1)]
  | true=>
   show wG ((rW n t).I++[_]) _=_;rw[qc,hb];show Option.or _ (if fk ⟨n,255⟩=fk ⟨n,T⟩ then _ else _)=_;by_cases e:t=T
   ·rw[if_pos e,if_pos e]; rfl
   ·rw[if_neg e,if_neg e];by_cases e2:T=255
    ·rw[if_pos (h1.2 e2.symm),if_pos ⟨rfl,e2⟩]; rfl
    ·rw[if_neg (fun q=>e2 (h1.1 q).symm),if_neg (fun q=>e2 q.2)]; rfl
 by_cases e:t=T
 ·rw[if_pos e] at hb2 ⊢;rw[wK hb2];exact if_pos (show(10:Int)<50 by decide)
 ·rw[if_neg e] at hb2 ⊢;by_cases e2:both=true∧T=255
  ·rw[if_pos e2] at hb2 ⊢;rw[wK hb2];exact if_pos (show(10:Int)<60 by decide)
  ·rw[if_neg e2] at hb2 ⊢;exact wL hb2
theorem Cn(hv:wm n=true)(hn:n.length≤100)(ht:1≤t∧t≤200):Vo 4096 100 100 (ZK n 255 2) 3 60 0 (rW n t)=(kd n t true,0):=by
 have hc:=K7 (k:=8+n.length) (by omega);obtain⟨hE,_,hw⟩:=Wv (t:=255) (k:=2) hv (by decide) (by decide);obtain⟨_,_,hw1⟩:=Wv (t:=t) (k:=1) hv (by omega) (by decide);have hno:Zq (ZK n t 1)≠fk ⟨n,255⟩:=fun e=>absurd (congrArg Ky.t e) (by show ¬t=255; omega)
 rw[uD (N:=4096) (s:=ZK n 255 2) (S:=rW n t) (now:=0) (l:=60) rfl (show WJ 100 100 2 60=60 from by decide) (by decide) (fun i hi=>by
  rw[show Zi (rW n t) ⟨(ZK n 255 2).name,(ZK n 255 2).typ⟩ 0=none from Uf (k:=⟨n,255⟩) hno] at hi;cases hi),uh (by decide) (by decide)]
 have hb:wG (rW n t).I (Zq (ZK n 255 2))=none:=by
  show List.find? _ [_]=_;rw[List.find?_cons,show decide ((AO (ZK n t 1) 0 3 0 50).k=Zq (ZK n 255 2))=false from decide_eq_false hno]; rfl
 exact kr (S:=rW n t) hE rfl hb (by show wS (ZK n t 1)+0+_≤4096; omega)
theorem xK(T:Int)(hT:T≤200):WG (kd n t both) ⟨n,T⟩ 10=if t=T then some (Vp (ZK n t 1) 3 0 50) else if both=true∧t≠255 then some (Vp (ZK n 255 2) 3 0 60) else if t=255 then some (Vp (ZK n t 1) 3 0 50) else none:=by
 unfold WG;rw[UM];by_cases e:t=T
 ·rw[if_pos e,if_pos e]
 ·rw[if_neg e,if_neg e,if_neg (fun q=>by omega)];show(if T=255 then none else Zi _ _ _)=_;rw[if_neg (by omega),UM];by_cases e2:t=255
  ·rw[if_pos e2,if_neg (fun q=>q.2 e2),if_pos e2]
  ·rw[if_neg e2];cases both with
   | false=>rw[if_neg (fun q=>by cases q.1),if_neg (fun q=>by cases q.1),if_neg e2]
   | true=>rw[if_pos ⟨rfl,rfl⟩,if_pos ⟨rfl,e2⟩]
theorem kM{i:It}(h:Zi (kd n t both) ⟨n,1⟩ 10=some i):i.s.kind≠0:=by
 rw[UM] at h;split at h
 ·cases h; show(1:Int)≠0; decide
 ·rw[if_neg (fun q=>absurd q.2 (by decide))] at h;cases h
theorem JM{M:List Int}(h:AF (kd n t both) n 10 M):M=[]:=by
 unfold AF at h;split at h
 ·next i hi=>rw[if_neg (kM hi)] at h; exact h
 ·exact h
theorem Ws:jO (kd n t both):=by
 cases both
 ·exact xk (by decide)
 ·exact dJ (xk (by decide)) (by decide)
theorem JL:(kd n t both).V.length+(kd n t both).I.length<2 ^ 30:=by
 cases both
 ·show 0+1<_; decide
 ·show 0+2<_; decide
theorem Yw{N:Nat}:Vo N 100 100 (ZK n 255 1) 3 50 0 (kd n t both)=(kd n t both,1):=by
 unfold Vo;rw[if_pos (by show decide ((255:Int)=255)≠decide ((1:Int)=2); decide)]
end
end Go.Proofs.YtekgciopamkjlaaGreat