/- The types of the laws' arguments: ints, bools, and slices of them. -/
import Derived.Test.YtekgciopamkjlaaGreatWide
import Derived.Test.YtekgciopamkjlaaGreatB3
namespace Go.Proofs.YtekgciopamkjlaaGreat
open Go.Xs Go.ChangeShapes Go.WideShapes
theorem Eo:Tryz.prog.underlying 3=some (.int .i64):=by kernel_rfl
theorem tyBool:Tryz.prog.underlying 4=some .bool:=by kernel_rfl
theorem IC:Tryz.prog.cellsOf 3=1:=by kernel_rfl
theorem jF:((List.range Tryz.prog.types.size).all fun t=>match Tryz.prog.underlying t with | some (.slice e)=>Nat.blt 0 (Tryz.prog.cellsOf e) | _=>true)=true:=by kernel_rfl
theorem kids:Kids Tryz.prog (· <Tryz.prog.types.size):=kids_rows wideLaid wideMaps
theorem sized{t e:TypeId}(ht:t<Tryz.prog.types.size)(h:Tryz.prog.underlying t=some (.slice e)):0<Tryz.prog.cellsOf e:=by
 have:=List.all_eq_true.1 jF t (List.mem_range.2 ht);rw[h] at this;simpa[Nat.blt_eq] using this
theorem below{ts:List TypeId}(h:(ts.all fun t=>Nat.blt t Tryz.prog.types.size)=true):∀t∈ts,t<Tryz.prog.types.size:=by
 intro t ht;have h1:=List.all_eq_true.1 h t ht;simpa[Nat.blt_eq] using h1
def InI(a:Int):Prop:= -9223372036854775808≤a∧a≤9223372036854775807
theorem Ca{a:Int}(h:(Lit.int .i64 a).wf=true):InI a:=by
 simp only[Lit.wf,Bool.and_eq_true,decide_eq_true_eq] at h;have h1:IntKind.i64.min= -9223372036854775808:=by decide
 have h2:IntKind.i64.max=9223372036854775807:=by decide
 rw[h1,h2] at h;exact h
variable {H:Type} {en:TypeId × Value→H} {W:World} {sp:Nat→Bool}
theorem Iu:∀(n:Nat) (cs:List Value) (x:DataW H × List MemPlace),DataW.trod en Tryz.prog W 0 sp true n 3 cs=some x→∃a:Int,cs=Enc.enc a∧InI a:=by
 intro n cs x h;obtain⟨z,rfl,_,hw⟩:=DataW.trod_int Eo h;exact⟨z,rfl,Ca hw⟩
end Go.Proofs.YtekgciopamkjlaaGreat
