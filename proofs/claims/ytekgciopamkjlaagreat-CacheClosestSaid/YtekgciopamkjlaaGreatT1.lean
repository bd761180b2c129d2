/- The types of the laws' arguments: ints, bools, and slices of them. Arguments that hold others: the fields of a struct, a slice within it; bytes, strings. -/
import Derived.Test.YtekgciopamkjlaaGreatWide
import Derived.Test.YtekgciopamkjlaaGreatB3
namespace Go.Proofs.YtekgciopamkjlaaGreat
open Go.Xs Go.ChangeShapes Go.WideShapes
theorem tyInt:Tryz.prog.underlying 3=some (.int .i64):=by kernel_rfl
theorem tyBool:Tryz.prog.underlying 4=some .bool:=by kernel_rfl
theorem OU:Tryz.prog.cellsOf 3=1:=by kernel_rfl
theorem Q9:((List.range Tryz.prog.types.size).all fun t=>match Tryz.prog.underlying t with | some (.slice e)=>Nat.blt 0 (Tryz.prog.cellsOf e) | _=>true)=true:=by kernel_rfl
theorem kids:Kids Tryz.prog (· <Tryz.prog.types.size):=kids_rows wideLaid wideMaps
theorem sized{t e:TypeId}(ht:t<Tryz.prog.types.size)(h:Tryz.prog.underlying t=some (.slice e)):0<Tryz.prog.cellsOf e:=by
 have:=List.all_eq_true.1 Q9 t (List.mem_range.2 ht);rw[h] at this;simpa[Nat.blt_eq] using this
theorem below{ts:List TypeId}(h:(ts.all fun t=>Nat.blt t Tryz.prog.types.size)=true):∀t∈ts,t<Tryz.prog.types.size:=by
 intro t ht;have h1:=List.all_eq_true.1 h t ht;simpa[Nat.blt_eq] using h1
def InI(a:Int):Prop:= -9223372036854775808≤a∧a≤9223372036854775807
theorem Gp{a:Int}(h:(Lit.int .i64 a).wf=true):InI a:=by
 simp only[Lit.wf,Bool.and_eq_true,decide_eq_true_eq] at h;have h1:IntKind.i64.min= -9223372036854775808:=by decide
 have h2:IntKind.i64.max=9223372036854775807:=by decide
 rw[h1,h2] at h;exact h
variable {H:Type} {en:TypeId × Value→H} {W:World} {sp:Nat→Bool}
theorem OO:∀(n:Nat) (cs:List Value) (x:DataW H × List MemPlace),DataW.trod en Tryz.prog W 0 sp true n 3 cs=some x→∃a:Int,cs=Enc.enc a∧InI a:=by
 intro n cs x h;obtain⟨z,rfl,_,hw⟩:=DataW.trod_int tyInt h;exact⟨z,rfl,Gp hw⟩
end Go.Proofs.YtekgciopamkjlaaGreat
namespace Go.Proofs.YtekgciopamkjlaaGreat
open Go.Xs Go.ChangeShapes Go.WideShapes
variable {H:Type} {en:TypeId × Value→H} {W:World} {sp:Nat→Bool}
noncomputable def fieldsOf (t:TypeId):Array Field:=match Tryz.prog.underlying t with | some (.struct fs)=>fs | _=> #[]
/-- each field of a struct -/
theorem field{t:TypeId}{fs:Array Field}{l:List (TypeId × Nat)}(ht:Tryz.prog.underlying t=some (.struct fs))(hf:(fs.toList.map fun f=>(f.type,f.offset))=l)
 {n:Nat} {cs:List Value} {x:DataW H × List MemPlace} (h:DataW.trod en Tryz.prog W 0 sp true n t cs=some x):
 cs.length=Tryz.prog.cellsOf t∧∀(i u o:Nat),l[i]?=some (u,o)→∃m y,DataW.trod en Tryz.prog W 0 sp true m u ((cs.drop o).take (Tryz.prog.cellsOf u))=some y:=by
 obtain⟨xs,m,_,_,hl,hxl,hg⟩:=DataW.trod_struct ht h;refine⟨hl,fun i u o hi=>?_⟩;have hsz:i<fs.size:=by
  have:=(List.getElem?_eq_some_iff.1 hi).1;rw[←hf] at this;simpa using this
 have hfi:fs[i]?=some fs[i]:=Array.getElem?_eq_getElem _;have hgi:=hg i _ hfi;have hto:=congrArg (fun(l:List (TypeId × Nat))=>l[i]?) hf;simp only[List.getElem?_map,Array.getElem?_toList,hfi,Option.map_some,hi] at hto;have h1:=congrArg Prod.fst (Option.some.inj hto);have h2:=congrArg Prod.snd (Option.some.inj hto);simp only at h1 h2;rw[h1,h2,List.getElem?_eq_getElem (by omega)] at hgi;exact⟨m,_,hgi⟩
end Go.Proofs.YtekgciopamkjlaaGreat
