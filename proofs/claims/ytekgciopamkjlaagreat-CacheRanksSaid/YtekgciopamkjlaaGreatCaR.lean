/- CacheRanks, plainly. -/
import Derived.Test.YtekgciopamkjlaaGreatCaQ
import Derived.Test.YtekgciopamkjlaaGreatCaN
namespace Go.Proofs.YtekgciopamkjlaaGreat
open Go.Xs
open Enc (enc)
abbrev Q5(z:Int):St:=vY [1,97,0] (Y3 z)
abbrev oJ(z:Int):St:=vY [1,65,0] (Y3 z)
theorem dW(z:Int):ZT (Q5 z)=0∧Y8 (Q5 z)∧wS (Q5 z)≤96∧Zk (Q5 z)=⟨[1,97,0],1⟩:=by
 obtain⟨h1,h2,h3,h4⟩:=Xr (n:=[1,97,0]) (d:=Y3 z) (by decide+kernel) rfl;exact⟨h1,h4,by rw[dS (by decide+kernel) rfl]; decide,DZ rfl⟩
theorem sO(z:Int):ZT (oJ z)=0∧Y8 (oJ z)∧wS (oJ z)≤96∧Zk (oJ z)=⟨[1,97,0],1⟩:=by
 obtain⟨h1,h2,h3,h4⟩:=Xr (n:=[1,65,0]) (d:=Y3 z) (by decide+kernel) rfl;exact⟨h1,h4,by rw[dS (by decide+kernel) rfl]; decide,by rw[Im]; unfold fk; rw[show zx [1,65,0]=[1,97,0] from by decide+kernel]⟩
theorem xX{tc left:Int}(h:0≤left∧left≤tc)(k:Int):WK tc tc k left=left:=by
 rw[nM ⟨h.1,by omega,by omega⟩];split<;>omega
theorem aJ{tc r left now:Int}{z:Int}(ht:left≤tc∧1≤left∧left≤100000)(hn:0≤now∧now≤100000)(hr:0≤r∧r≤9):VI 4096 tc tc (Q5 z) r left now jD=(one (Q5 z) 0 r now (now+left) [Zk (Q5 z)] [],0):=by
 obtain⟨hE,_,hw,_⟩:=dW z;rw[Q9 (s:=Q5 z) (S:=jD) (now:=now) (l:=left) rfl (xX ⟨by omega,by omega⟩ _) (by omega) (fun i hi=>absurd (show(none:Option It)=some i from hi) (by simp)),jQ ⟨hn.1,by omega⟩ ⟨by omega,by omega⟩];exact mY hE (by omega) ((Qo _ _ _).2 (by omega))
theorem fH{tc r left now p r0 c0 x0:Int}{s s':St}{P Q:List Ky}(hb:s'.typ=1∧s'.kind=0)(ht:left≤tc∧1≤left∧left≤100000)(hn:0≤now∧now≤100000)(he:Zk s'=Zk s)(hg:r0≤r∨x0≤now):
 VI 4096 tc tc s' r left now (one s p r0 c0 x0 P Q)=uL 4096 s' r now (now+left) (one s p r0 c0 x0 P Q):=by
 have hth:∀i,ZJ (one s p r0 c0 x0 P Q) ⟨s'.name,s'.typ⟩ now=some i→¬r<i.rank:=fun i hi=>by
  rw[U8 (show fk ⟨s'.name,s'.typ⟩=Zk s from he)] at hi;split at hi
  ·cases hi;show ¬r<r0;omega
  ·cases hi
 rw[Q9 (l:=left) (by rw[hb.1,hb.2]; rfl) (xX ⟨by omega,by omega⟩ _) (by omega) hth,jQ ⟨hn.1,by omega⟩ ⟨by omega,by omega⟩]
theorem fI{tc r left now p r0 c0 x0:Int}{s s':St}{P Q:List Ky}(hb:s'.typ=1∧s'.kind=0)(ht:left≤tc∧1≤left∧left≤100000)(he:Zk s'=Zk s)(hg:r<r0∧now<x0):
 VI 4096 tc tc s' r left now (one s p r0 c0 x0 P Q)=(one s p r0 c0 x0 P Q,5):=
 mQ (i:=bM s p r0 c0 x0) (by rw[hb.1,hb.2]; rfl) (by rw[xX ⟨by omega,by omega⟩]; omega) (by rw[U8 (show fk ⟨s'.name,s'.typ⟩=Zk s from he),if_pos hg.2]) hg.1
/-- small numbers' bytes, and back -/
theorem ru{n:Bs}{k:Nat}(h:k<64):U0 (Zf (vY n (Y3 (k:Int)))).rrs=[(k:Int)]:=by
 have h1:∀k:Nat,k<64→wT 1 (Y3 (k:Int))=Y3 (k:Int)∧Zn 1 (Y3 (k:Int))=true∧jC (Y3 (k:Int))=(k:Int):=by decide+kernel
 obtain⟨a,b,c⟩:=h1 k h;show U0 [⟨zx n,1,1,0,wT 1 (Y3 (k:Int))⟩]=_;rw[a];unfold U0;rw[List.filter_cons,if_pos (by simp[b]),List.filter_nil,List.map_cons,List.map_nil,c]
theorem QT(n:Bs)(z:Int):(Zf (vY n (Y3 z))).rrs.length≤1∧∀r∈(Zf (vY n (Y3 z))).rrs,r.d.length<2 ^ 40:=by
 have hp:prt 1 (Y3 z)=[]:=VJ rfl;have:wT 1 (Y3 z)=Y3 z:=by
  unfold wT;rw[hp];rfl
 refine⟨Nat.le_refl _,fun r hr=>?_⟩;rw[show(Zf (vY n (Y3 z))).rrs=[⟨zx n,1,1,0,wT 1 (Y3 z)⟩] from rfl,this] at hr;rw[List.mem_singleton.1 hr];show 4<_;decide
end Go.Proofs.YtekgciopamkjlaaGreat