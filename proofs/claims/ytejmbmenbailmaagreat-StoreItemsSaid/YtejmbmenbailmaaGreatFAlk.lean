/- The compiled code of some of the program's functions, printed by a program, and that it is what the compiler of these texts makes of them. -/
import Derived.Test.YtejmbmenbailmaaGreatB1
import Derived.Test.YtejmbmenbailmaaGreatProg
import Derived.KernelRfl
namespace Go.Proofs.YtejmbmenbailmaaGreat
open Go.Xs
/-- freshet/freshetalike.Round -/
def Tryz.NM:zC:=cR [oM 4 (cI 0)] (cR [oM 5 0,oM 6 1,oB 7 .rem 5 6,oM 8 1,oB 9 .add 7 8,oM 10 1,oB 11 .rem 9 10,oM 4 11] .ret)
theorem Tryz.MF:Z7 Tryz.prog 22 12 #[.tmp 4] Tryz.NM:=Zk Tryz.func22 (by kernel_rfl)
/-- freshet/freshetalike.A -/
def Tryz.NK:zC:=cR [oS 4 (.alloc 46 [(.string ⟨#[]⟩),(.int .i64 0),(.slice none 0 0),(.int .i64 0),(.string ⟨#[]⟩)])] (cR [oM 5 0,oS 6 (.build [(.string ⟨#[]⟩),(.int .i64 0)] [(0,1,5),(1,1,(cI 1))]),oM 7 0,oM 8 1,oB 9 .shr 8 (.const (.int .u64 24)),oS 10 (.conv .u8 9),oM 11 1,oB 12 .shr 11 (.const (.int .u64 16)),oS 13 (.conv .u8 12),oM 14 1,oB 15 .shr 14 (.const (.int .u64 8)),oS 16 (.conv .u8 15),oM 17 1,oS 18 (.conv .u8 17),oS 19 (.bsl 5 4 1 [(.int .u8 0)] [(0,10),(1,13),(2,16),(3,18)]),oS 20 (.b2s 19),oS 21 (.build [(.string ⟨#[]⟩),(.int .i64 0),(.int .i64 0),(.int .i64 0),(.string ⟨#[]⟩)] [(0,1,7),(1,1,(cI 1)),(2,1,(cI 1)),(4,1,20)]),oS 22 (.bsl 88 1 5 [(.string ⟨#[]⟩),(.int .i64 0),(.int .i64 0),(.int .i64 0),(.string ⟨#[]⟩)] [(0,21)]),oS 23 (.build [(.string ⟨#[]⟩),(.int .i64 0),(.slice none 0 0),(.int .i64 0),(.string ⟨#[]⟩)] [(0,2,6),(2,1,22),(4,1,(.const (.string ⟨#[0]⟩)))]),oN (.store 5 4 23)] .ret)
theorem Tryz.Mx:Z7 Tryz.prog 30 24 #[.cell 4 46] Tryz.NK:=Zk Tryz.func30 (by kernel_rfl)
end Go.Proofs.YtejmbmenbailmaaGreat