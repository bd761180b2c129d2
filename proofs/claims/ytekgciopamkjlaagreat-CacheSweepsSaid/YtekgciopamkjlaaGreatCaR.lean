/- CacheRanks, plainly. -/
import Derived.Test.YtekgciopamkjlaaGreatCaQ
import Derived.Test.YtekgciopamkjlaaGreatCaN
namespace Go.Proofs.YtekgciopamkjlaaGreat
open Go.Xs
open Enc (enc)
theorem lF{tc left:Int}(h:0≤left∧left≤tc)(k:Int):WJ tc tc k left=left:=by
 rw[gN ⟨h.1,by omega,by omega⟩];split<;>omega
/-- small numbers' bytes, and back -/
theorem P5{n:Bs}{k:Nat}(h:k<64):Uv (Zh (ZG n (Vw (k:Int)))).rrs=[(k:Int)]:=by
 have h1:∀k:Nat,k<64→W9 1 (Vw (k:Int))=Vw (k:Int)∧Zk 1 (Vw (k:Int))=true∧KI (Vw (k:Int))=(k:Int):=by decide+kernel
 obtain⟨a,b,c⟩:=h1 k h;show Uv [⟨zM n,1,1,0,W9 1 (Vw (k:Int))⟩]=_;rw[a];unfold Uv;rw[List.filter_cons,if_pos (by simp[b]),List.filter_nil,List.map_cons,List.map_nil,c]
theorem CZ(n:Bs)(z:Int):(Zh (ZG n (Vw z))).rrs.length≤1∧∀r∈(Zh (ZG n (Vw z))).rrs,r.d.length<2 ^ 40:=by
 have hp:prt 1 (Vw z)=[]:=WB rfl;have:W9 1 (Vw z)=Vw z:=by
  unfold W9;rw[hp];rfl
 refine⟨Nat.le_refl _,fun r hr=>?_⟩;rw[show(Zh (ZG n (Vw z))).rrs=[⟨zM n,1,1,0,W9 1 (Vw z)⟩] from rfl,this] at hr;rw[List.mem_singleton.1 hr];show 4<_;decide
end Go.Proofs.YtekgciopamkjlaaGreat