/- CacheRanks, plainly. -/
import Derived.Test.YtekgciopamkjlaaGreatCaQ
import Derived.Test.YtekgciopamkjlaaGreatCaN
namespace Go.Proofs.YtekgciopamkjlaaGreat
open Go.Xs
open Enc (enc)
abbrev xR(z:Int):St:=Vi [1,97,0] (Yn z)
theorem Kc(z:Int):ZU (xR z)=0∧kM (xR z)∧wS (xR z)≤96∧Zg (xR z)=⟨[1,97,0],1⟩:=by
 obtain⟨h1,h2,h3,h4⟩:=Ka (n:=[1,97,0]) (d:=Yn z) (by decide+kernel) rfl;exact⟨h1,h4,by rw[tX (by decide+kernel) rfl]; decide,EC rfl⟩
theorem kF{tc left:Int}(h:0≤left∧left≤tc)(k:Int):vM tc tc k left=left:=by
 rw[oJ ⟨h.1,by omega,by omega⟩];split<;>omega
theorem bE{tc r left now:Int}{z:Int}(ht:left≤tc∧1≤left∧left≤100000)(hn:0≤now∧now≤100000)(hr:0≤r∧r≤9):uW 4096 tc tc (xR z) r left now jV=(one (xR z) 0 r now (now+left) [Zg (xR z)] [],0):=by
 obtain⟨hE,_,hw,_⟩:=Kc z;rw[Qy (s:=xR z) (S:=jV) (now:=now) (l:=left) rfl (kF ⟨by omega,by omega⟩ _) (by omega) (fun i hi=>absurd (show(none:Option It)=some i from hi) (by simp)),Jb ⟨hn.1,by omega⟩ ⟨by omega,by omega⟩];exact nS hE (by omega) ((Ku _ _ _).2 (by omega))
theorem jR{tc r left now p r0 c0 x0:Int}{s s':St}{P Q:List Ky}(hb:s'.typ=1∧s'.kind=0)(ht:left≤tc∧1≤left∧left≤100000)(hn:0≤now∧now≤100000)(he:Zg s'=Zg s)(hg:r0≤r∨x0≤now):
 uW 4096 tc tc s' r left now (one s p r0 c0 x0 P Q)=VN 4096 s' r now (now+left) (one s p r0 c0 x0 P Q):=by
 have hth:∀i,ZL (one s p r0 c0 x0 P Q) ⟨s'.name,s'.typ⟩ now=some i→¬r<i.rank:=fun i hi=>by
  rw[X5 (show fk ⟨s'.name,s'.typ⟩=Zg s from he)] at hi;split at hi
  ·cases hi;show ¬r<r0;omega
  ·cases hi
 rw[Qy (l:=left) (by rw[hb.1,hb.2]; rfl) (kF ⟨by omega,by omega⟩ _) (by omega) hth,Jb ⟨hn.1,by omega⟩ ⟨by omega,by omega⟩]
/-- small numbers' bytes, and back -/
theorem Hz{n:Bs}{k:Nat}(h:k<64):U5 (Zh (Vi n (Yn (k:Int)))).rrs=[(k:Int)]:=by
 have h1:∀k:Nat,k<64→wW 1 (Yn (k:Int))=Yn (k:Int)∧Zo 1 (Yn (k:Int))=true∧jU (Yn (k:Int))=(k:Int):=by decide+kernel
 obtain⟨a,b,c⟩:=h1 k h;show U5 [⟨zA n,1,1,0,wW 1 (Yn (k:Int))⟩]=_;rw[a];unfold U5;rw[List.filter_cons,if_pos (by simp[b]),List.filter_nil,List.map_cons,List.map_nil,c]
theorem pO(n:Bs)(z:Int):(Zh (Vi n (Yn z))).rrs.length≤1∧∀r∈(Zh (Vi n (Yn z))).rrs,r.d.length<2 ^ 40:=by
 have hp:prt 1 (Yn z)=[]:=VO rfl;have:wW 1 (Yn z)=Yn z:=by
  unfold wW;rw[hp];rfl
 refine⟨Nat.le_refl _,fun r hr=>?_⟩;rw[show(Zh (Vi n (Yn z))).rrs=[⟨zA n,1,1,0,wW 1 (Yn z)⟩] from rfl,this] at hr;rw[List.mem_singleton.1 hr];show 4<_;decide
end Go.Proofs.YtekgciopamkjlaaGreat