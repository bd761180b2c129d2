/- The types of chapter 6's laws' arguments: slices of ints, of bools. -/
import Derived.Test.YtekgciopamkjlaaGreatT1
import Derived.Test.YtekgciopamkjlaaGreatAlk
namespace Go.Proofs.YtekgciopamkjlaaGreat
open Go.Xs Go.ChangeShapes Go.WideShapes
theorem nG:Tryz.prog.underlying 23=some (.slice 3):=by kernel_rfl
theorem dP:Tryz.prog.underlying 78=some (.slice 4):=by kernel_rfl
theorem GH:Tryz.prog.cellsOf 4=1:=by kernel_rfl
variable {H:Type} {en:TypeId × Value→H} {W:World} {sp:Nat→Bool}
set_option maxRecDepth 100000 in
theorem open_ints'{v:Value}{d:DataW H}{ps:List MemPlace}{base:Nat}(hv:Value.okWide Tryz.prog W .any base 23 v)(h:DataW.Trod en Tryz.prog W 0 sp true 23 v d ps):∃L:List Int,Src (heapS W) v L∧L.length≤maxLen∧∀a∈L,InI a:=
 Qj (α:=Int) nG OU (show 0<1 by decide) OO (okWide_slice nG hv) h
theorem GA:∀(n:Nat) (cs:List Value) (x:DataW H × List MemPlace),DataW.trod en Tryz.prog W 0 sp true n 4 cs=some x→∃a:Bool,cs=Enc.enc a∧True:=by
 intro n cs x h;obtain⟨z,rfl,_⟩:=DataW.trod_bool tyBool h;exact⟨z,rfl,trivial⟩
def InB(_:Bool):Prop:=True
set_option maxRecDepth 100000 in
theorem open_bools{v:Value}{d:DataW H}{ps:List MemPlace}{base:Nat}(hv:Value.okWide Tryz.prog W .any base 78 v)(h:DataW.Trod en Tryz.prog W 0 sp true 78 v d ps):∃L:List Bool,Src (heapS W) v L∧L.length≤maxLen∧∀a∈L,InB a:=
 Qj (α:=Bool) dP GH (show 0<1 by decide) GA (okWide_slice dP hv) h
end Go.Proofs.YtekgciopamkjlaaGreat