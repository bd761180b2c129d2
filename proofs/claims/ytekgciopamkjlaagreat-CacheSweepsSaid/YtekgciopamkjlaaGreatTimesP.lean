/- StoreTimes, plainly: who goes when all goes that is over. -/
import Derived.Test.YtekgciopamkjlaaGreatC2
namespace Go.Proofs.YtekgciopamkjlaaGreat
open Go.Xs
open Enc (enc)
theorem Qw{I:List It}{k x:Ky}(h:x≠k):free (vS I k) x=free I x:=by
 have:wG (vS I k) x=wG I x:=by
  unfold wG vS
  induction I with
  | nil=>rfl
  | cons e I ih=>
   rw[List.filter_cons,List.find?_cons];by_cases hk:e.k=k
   ·rw[if_neg (by simp[hk]),ih,decide_eq_false (show ¬e.k=x from fun q=>h (q.symm.trans hk))]
   ·rw[if_pos (by simp[hk]),List.find?_cons,ih]
 unfold free;rw[this]
theorem Jb:∀(K:List Ky) (S:Ss) (c:Nat),K.Nodup→(keys S.I).Nodup→
 (K.foldl swp (S,c)).1.V=S.V++K.filter (free S.I)∧(K.foldl swp (S,c)).2=c+(K.filter (free S.I)).length∧(K.foldl swp (S,c)).1.I.length+(K.filter (free S.I)).length=S.I.length
 | [],S,c,_,_=>by simp
 | k::K,S,c,hk,hn=>by
  obtain⟨h1,h2⟩:=List.nodup_cons.1 hk;rw[List.foldl_cons];by_cases hf:free S.I k=true
  ·have e0:swp (S,c) k=(KA k S,c+1):=by unfold swp; rw[if_pos hf]
   rw[e0,List.filter_cons,if_pos hf];obtain⟨i,hb,_⟩:=gF hf;have hl:=uZ hn hb;obtain⟨a1,a2,a3⟩:=Jb K (KA k S) (c+1) h2 (((vR S.I k).map _).nodup hn);have e:K.filter (free (KA k S).I)=K.filter (free S.I):=List.filter_congr fun x hx=>Qw fun q=>h1 (q▸hx)
   have el:(KA k S).I.length=(vS S.I k).length:=rfl;rw[e] at a1 a2 a3;rw[el] at a3;refine⟨a1.trans ?_,a2.trans ?_,?_⟩
   ·show(S.V++[k])++_=_;rw[List.append_assoc]; rfl
   ·rw[List.length_cons]; omega
   ·rw[List.length_cons]; omega
  ·have e0:swp (S,c) k=(S,c):=by unfold swp; rw[if_neg hf]
   rw[e0,List.filter_cons,if_neg hf];exact Jb K S c h2 hn
/-- those that go, by their numbers -/
def Gr(e p:Nat→Int)(n:Nat)(now:Int):List Nat:=(DC e n now).filter fun j=>decide (p j=0)
theorem Rw.swp{kF:Nat→Ky}{e p:Nat→Int}{n:Nat}{S:Ss}(h:Rw kF e p n S.I)(now:Int):
 (VY now S).1.V=S.V++(Gr e p n now).map kF∧(VY now S).2=(Gr e p n now).length∧(VY now S).1.I.length+(Gr e p n now).length=n:=by
 obtain⟨h1,h2,h3⟩:=Jb (Go.Proofs.YtekgciopamkjlaaGreat.due now S.I) S 0 (yI h.fam.n) h.fam.n;have hf:(Go.Proofs.YtekgciopamkjlaaGreat.due now S.I).filter (Go.Proofs.YtekgciopamkjlaaGreat.free S.I)=(Gr e p n now).map kF:=by
  rw[h.due,List.filter_map];unfold Gr;congr 1;refine List.filter_congr fun j hj=>?_
  show Go.Proofs.YtekgciopamkjlaaGreat.free S.I (kF j)=_;exact h.free (Yp.1 hj).1
 rw[hf,List.length_map] at h2 h3;rw[hf] at h1;rw[h.len] at h3;exact⟨h1,by rw[Nat.zero_add] at h2; exact h2,h3⟩
/-! ### the names -/
def Uy(i:Nat):Bs:=[2,113,xM (97+(i:Int)),0]
def uS(i:Nat):Ky:=⟨Uy i,1⟩
theorem bG{i:Nat}(h:i<15):Av (Uy i):=by
 have:∀i,i<15→wm (Uy i)=true∧zM (Uy i)=Uy i:=by decide+kernel
 obtain⟨h1,h2⟩:=this i h;exact⟨h1,h2,by show 1≤4∧4≤16; decide,by unfold Uy; simp⟩
theorem BX{i j:Nat}(hi:i<15)(hj:j<15)(h:Uy i=Uy j):i=j:=by
 have:∀i,i<15→∀j,j<15→Uy i=Uy j→i=j:=by decide+kernel
 exact this i hi j hj h
theorem OJ{i:Nat}(h:i<15):fk (uS i)=uS i:=QA (bG h) 1
theorem gq{i:Nat}(h:i<15){d:Bs}(hd:d.length=4):qz (ZG (Uy i) d):=⟨_,d,bG h,hd,rfl⟩
theorem DR{i:Nat}(h:i<15){d:Bs}(hd:d.length=4):Zq (ZG (Uy i) d)=uS i:=(gq h hd).q.key
theorem JH{n j:Nat}(hn:n<15)(hj:j<n):uS j≠uS n:=fun h=>by
 have:=BX (by omega) hn (congrArg Ky.n h);omega
theorem Rw.Rt{N:Nat}{e p:Nat→Int}{n:Nat}{S:Ss}(h:Rw uS e p n S.I)(hn:n<15){d:Bs}(hd:d.length=4){r x:Int}(he:e n=x)(hp:p n=0)(hk:ji r 0 x=true)(hN:64*n+96≤N):
 VF N (ZG (Uy n) d) r 0 x S=(VP (ZG (Uy n) d) r 0 x S,0)∧Rw uS e p (n+1) (VP (ZG (Uy n) d) r 0 x S).I:=by
 have hb:wG S.I (Zq (ZG (Uy n) d))=none:=h.non fun j hj q=>JH hn hj (by rw[←DR hn hd]; exact q)
 exact⟨h.fam.Dq (gq hn hd) hb hk (by rw[h.len]; omega),h.add (gq hn hd) (DR hn hd) (fun j hj=>JH hn hj) he hp⟩
end Go.Proofs.YtekgciopamkjlaaGreat