/- StoreFirst, plainly: who goes first. -/
import Derived.Test.YtekgciopamkjlaaGreatFullP
namespace Go.Proofs.YtekgciopamkjlaaGreat
open Go.Xs
open Enc (enc)
/-- n of them are there, none pinned; those that u says were used -/
structure lZ(e:Nat→Int)(u:Nat→Bool)(c:Nat)(S:Ss):Prop where
 rw:Rw Zu e (fun _=>0) 31 S.I
 p:S.P=((List.range 31).filter fun j=> !u j).map Zu
 q:S.Q.length≤c
 pq:(S.P++S.Q).Perm (keys S.I)
 v:S.V=[]
theorem aC.fst{e:Nat→Int}{S:Ss}(h:aC e (fun _=>0) 31 S):lZ e (fun _=>false) 0 S:=
 ⟨h.rw,h.p,by rw[h.q]; exact Nat.le_refl 0,by rw[h.p,h.q,List.append_nil,h.rw.ks],h.v⟩
theorem lZ.touch{e:Nat→Int}{u:Nat→Bool}{c k:Nat}{S:Ss}(h:lZ e u c S)(hc:c<4)(hk:k<31):
 lZ e (fun j=>if j=k then true else u j) (c+1) ⟨S.I,Xr 4 (Zu k) S.P S.Q,Xq 4 (Zu k) S.P S.Q,S.V⟩:=by
 have hm:Zu k∈keys S.I:=h.rw.mem.2 ⟨k,hk,rfl⟩;have hm2:Zu k∈S.P∨Zu k∈S.Q:=List.mem_append.1 (h.pq.mem_iff.2 hm);have hnd:(S.P++S.Q).Nodup:=h.pq.nodup_iff.2 h.rw.fam.n;have hle:(S.Q.erase (Zu k)++[Zu k]).length≤c+1:=by
  rw[List.length_append,List.length_singleton];have:=(List.erase_sublist (a:=Zu k) (l:=S.Q)).length_le;have:=h.q;omega
 have hno:¬((4:Int)<((S.Q.erase (Zu k)++[Zu k]).length:Int)):=by omega
 have hA:Xr 4 (Zu k) S.P S.Q=S.P.erase (Zu k):=by unfold Xr; rw[if_pos hm2,if_neg hno]
 have hB:Xq 4 (Zu k) S.P S.Q=S.Q.erase (Zu k)++[Zu k]:=by unfold Xq; rw[if_pos hm2,if_neg hno]
 refine⟨h.rw,?_,?_,(Q0 hnd hm2).trans h.pq,h.v⟩
 ·show Xr 4 (Zu k) S.P S.Q=_;rw[hA,(List.nodup_append.1 hnd).1.erase_eq_filter,h.p,List.filter_map,List.filter_filter];congr 1;refine List.filter_congr fun j hj=>?_
  have hj:=List.mem_range.1 hj;show(!(Zu j==Zu k) && !u j)=_;by_cases hjk:j=k
  ·subst hjk;simp
  ·have:Zu j≠Zu k:=fun q=>hjk (fC hj hk (congrArg Ky.n q))
   rw[if_neg hjk];simp[this]
 ·show(Xq 4 (Zu k) S.P S.Q).length≤_;rw[hB]; exact hle
/-- the first that is over, or the first that was not used -/
theorem l6{f:Ky→Bool}{l:List Ky}{k:Ky}{l':List Ky}(h:l=k::l')(hf:f k=true):l.find? f=some k:=by rw[h,List.find?_cons,hf]
theorem lZ.M8{e:Nat→Int}{u:Nat→Bool}{c k:Nat}{S:Ss}{l:List Nat}(h:lZ e u c S){now:Int}(ho:DC e 31 now=[])(hu:((List.range 31).filter fun j=> !u j)=k::l):vZ now S=some (Zu k):=by
 have hk:k<31:=by
  have:k∈(List.range 31).filter fun j=> !u j:=by rw[hu]; simp
  exact List.mem_range.1 (List.mem_filter.1 this).1
 unfold vZ;rw[h.rw.due,ho,h.p,hu];exact l6 (by rfl) (by rw[h.rw.free hk]; rfl)
theorem lZ.put{e:Nat→Int}{u:Nat→Bool}{c k:Nat}{S:Ss}(h:lZ e u c S){d:Bs}(hd:d.length=4){r now x:Int}(hok:ji r now x=true)(hn:vZ now S=some (Zu k)):
 VF 2048 (ZG [2,122,122,0] d) r now x S=(VP (ZG [2,122,122,0] d) r now x (KA (Zu k) S),0):=by
 have hl:=h.rw.len;refine h.rw.fam.Dr (kQ hd) (h.rw.non fun j hj q=>bH hj ?_) hok (fun q=>by rw[q] at hl; simp at hl) (by omega) (by omega) hn;have:=(kQ hd).q.key;rw[this] at q;exact congrArg Ky.n q
structure Wl(e:Nat→Int)(w0 i:Nat)(r:Int × Nat):Prop where
 le:r.1≤1000
 all:∀x,x<i→r.1≤e x
 or:r=(1000,w0)∨∃x,x<i∧r=(e x,x)∧e x<1000∧∀y,y<x→e x<e y
end Go.Proofs.YtekgciopamkjlaaGreat