/- The types of chapter 6's laws' arguments: slices of ints, of bools. -/
import Derived.Test.YtekgciopamkjlaaGreatT1
import Derived.Test.YtekgciopamkjlaaGreatAlk
namespace Go.Proofs.YtekgciopamkjlaaGreat
open Go.Xs Go.ChangeShapes Go.WideShapes
theorem eu:Tryz.prog.underlying 23=some (.slice 3):=by kernel_rfl
variable {H:Type} {en:TypeId × Value→H} {W:World} {sp:Nat→Bool}
set_option maxRecDepth 100000 in
theorem open_ints'{v:Value}{d:DataW H}{ps:List MemPlace}{base:Nat}(hv:Value.okWide Tryz.prog W .any base 23 v)(h:DataW.Trod en Tryz.prog W 0 sp true 23 v d ps):∃L:List Int,Src (heapS W) v L∧L.length≤maxLen∧∀a∈L,InI a:=
 gX (α:=Int) eu IC (show 0<1 by decide) Iu (okWide_slice eu hv) h
end Go.Proofs.YtekgciopamkjlaaGreat