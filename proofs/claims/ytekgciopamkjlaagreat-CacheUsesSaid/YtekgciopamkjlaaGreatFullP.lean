/- StoreFull, plainly. -/
import Derived.Test.YtekgciopamkjlaaGreatC2
namespace Go.Proofs.YtekgciopamkjlaaGreat
open Go.Xs
open Enc (enc)
/-- the name of a number below 31 -/
def UJ(i:Nat):Bs:=[2,xM (97+(i:Int).tdiv 26),xM (97+(i:Int).tmod 26),0]
def Zu(i:Nat):Ky:=⟨UJ i,1⟩
theorem rD{i:Nat}(h:i<31):Av (UJ i):=by
 have:∀i,i<31→wm (UJ i)=true∧zM (UJ i)=UJ i:=by decide+kernel
 obtain⟨h1,h2⟩:=this i h;exact⟨h1,h2,by show 1≤4∧4≤16; decide,by unfold UJ; simp⟩
theorem fC{i j:Nat}(hi:i<31)(hj:j<31)(h:UJ i=UJ j):i=j:=by
 have:∀i,i<31→∀j,j<31→UJ i=UJ j→i=j:=by decide+kernel
 exact this i hi j hj h
theorem Ej:Av [2,122,122,0]:=⟨by decide+kernel,by decide+kernel,by decide,by decide⟩
theorem bH{i:Nat}(h:i<31):UJ i≠[2,122,122,0]:=by
 have:∀i,i<31→UJ i≠[2,122,122,0]:=by decide+kernel
 exact this i h
theorem gu{i:Nat}(h:i<31){d:Bs}(hd:d.length=4):qz (ZG (UJ i) d):=⟨_,d,rD h,hd,rfl⟩
theorem fZ{i:Nat}(h:i<31){d:Bs}(hd:d.length=4):Zq (ZG (UJ i) d)=Zu i:=(gu h hd).q.key
theorem Gt{i:Nat}(h:i<31):fk (Zu i)=Zu i:=QA (rD h) 1
theorem kQ{d:Bs}(hd:d.length=4):qz (ZG [2,122,122,0] d):=⟨_,d,Ej,hd,rfl⟩
theorem JK{n j:Nat}(hn:n<31)(hj:j<n):Zu j≠Zu n:=fun h=>by
 have:=fC (by omega) hn (congrArg Ky.n h);omega
/-- n of them are there, pinned as p says -/
structure aC(e p:Nat→Int)(n:Nat)(S:Ss):Prop where
 rw:Rw Zu e p n S.I
 p:S.P=(List.range n).map Zu
 q:S.Q=[]
 v:S.V=[]
theorem aC.nil(e p:Nat→Int):aC e p 0 Ui:=⟨Rw.nil,rfl,rfl,rfl⟩
theorem aC.put{e p:Nat→Int}{n:Nat}{S:Ss}(h:aC e p n S)(hn:n<31){d:Bs}(hd:d.length=4){r x:Int}(he:e n=x)(hp:p n=0)(hk:ji r 0 x=true):
 VF 2048 (ZG (UJ n) d) r 0 x S=(VP (ZG (UJ n) d) r 0 x S,0)∧aC e p (n+1) (VP (ZG (UJ n) d) r 0 x S):=by
 have hb:wG S.I (Zq (ZG (UJ n) d))=none:=h.rw.non fun j hj q=>JK hn hj (by rw[←fZ hn hd]; exact q)
 refine⟨h.rw.fam.Dq (gu hn hd) hb hk (by rw[h.rw.len]; omega),h.rw.add (gu hn hd) (fZ hn hd) (fun j hj=>JK hn hj) he hp,?_,h.q,h.v⟩;show S.P++[Zq (ZG (UJ n) d)]=_;rw[h.p,fZ hn hd,List.range_succ,List.map_append]; rfl
theorem aC.mono{e p e' p':Nat→Int}{n:Nat}{S:Ss}(h:aC e p n S)(he:∀j,j<n→e j=e' j)(hp:∀j,j<n→p j=p' j):aC e' p' n S:=⟨h.rw.mono he hp,h.p,h.q,h.v⟩
theorem aC.all{e p:Nat→Int}{n:Nat}{S:Ss}(h:aC e p n S)(now:Int):∀x∈due now S.I++(S.P++S.Q),∃j,j<n∧x=Zu j:=fun x hx=>by
 rcases List.mem_append.1 hx with hx | hx
 ·obtain⟨j,hj,rfl⟩:=h.rw.mem.1 (JZ hx);exact⟨j,hj,rfl⟩
 ·rw[h.p,h.q,List.append_nil] at hx;obtain⟨j,hj,rfl⟩:=List.mem_map.1 hx;exact⟨j,List.mem_range.1 hj,rfl⟩
theorem aC.ev{e p:Nat→Int}{j:Nat}{S:Ss}(h:aC e p 31 S)(hj:j<31){d:Bs}(hd:d.length=4){r now x:Int}(hk:ji r now x=true)(hn:vZ now S=some (Zu j)):
 VF 2048 (ZG [2,122,122,0] d) r now x S=(VP (ZG [2,122,122,0] d) r now x (KA (Zu j) S),0):=by
 have hl:=h.rw.len;refine h.rw.fam.Dr (kQ hd) (h.rw.non fun j hj q=>bH hj ?_) hk (fun q=>by rw[q] at hl; simp at hl) (by omega) (by omega) hn;have:=(kQ hd).q.key;rw[this] at q;exact congrArg Ky.n q
end Go.Proofs.YtekgciopamkjlaaGreat