/- The types of the laws' arguments: ints, bools, and slices of them. -/
import Derived.Test.YtekgciopamkjlaaGreatWide
import Derived.Test.YtekgciopamkjlaaGreatB3
namespace Go.Proofs.YtekgciopamkjlaaGreat
open Go.Xs Go.ChangeShapes Go.WideShapes
theorem tyInt:Tryz.prog.underlying 3=some (.int .i64):=by kernel_rfl
theorem tyBool:Tryz.prog.underlying 4=some .bool:=by kernel_rfl
theorem jB:((List.range Tryz.prog.types.size).all fun t=>match Tryz.prog.underlying t with | some (.slice e)=>Nat.blt 0 (Tryz.prog.cellsOf e) | _=>true)=true:=by kernel_rfl
theorem kids:Kids Tryz.prog (· <Tryz.prog.types.size):=kids_rows wideLaid wideMaps
theorem sized{t e:TypeId}(ht:t<Tryz.prog.types.size)(h:Tryz.prog.underlying t=some (.slice e)):0<Tryz.prog.cellsOf e:=by
 have:=List.all_eq_true.1 jB t (List.mem_range.2 ht);rw[h] at this;simpa[Nat.blt_eq] using this
theorem below{ts:List TypeId}(h:(ts.all fun t=>Nat.blt t Tryz.prog.types.size)=true):∀t∈ts,t<Tryz.prog.types.size:=by
 intro t ht;have h1:=List.all_eq_true.1 h t ht;simpa[Nat.blt_eq] using h1
variable {H:Type} {en:TypeId × Value→H} {W:World} {sp:Nat→Bool}
end Go.Proofs.YtekgciopamkjlaaGreat
