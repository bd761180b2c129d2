/- The compiled code of some of the program's functions, printed by a program, and that it is what the compiler of these texts makes of them. -/
import Derived.Test.YtekgciopamkjlaaGreatB1
import Derived.Test.YtekgciopamkjlaaGreatProg
import Derived.KernelRfl
namespace Go.Proofs.YtekgciopamkjlaaGreat
open Go.Xs
/-- freshet/freshetalike.Round -/
def Tryz.x24:zA:=cR [oM 4 (cI 0)] (cR [oM 5 0,oM 6 1,oB 7 .rem 5 6,oM 8 1,oB 9 .add 7 8,oM 10 1,oB 11 .rem 9 10,oM 4 11] .ret)
theorem Tryz.Ns:Z6 Tryz.prog 24 12 #[.tmp 4] Tryz.x24:=Zn Tryz.func24 (by kernel_rfl)
/-- freshet/freshetalike.A -/
def Tryz.x32:zA:=cR [oS 4 (.alloc 46 [(.string ⟨#[]⟩),(.int .i64 0),(.slice none 0 0),(.int .i64 0),(.string ⟨#[]⟩)])] (cR [oM 5 0,oS 6 (.build [(.string ⟨#[]⟩),(.int .i64 0)] [(0,1,5),(1,1,(cI 1))]),oM 7 0,oM 8 1,oB 9 .shr 8 (.const (.int .u64 24)),oS 10 (.conv .u8 9),oM 11 1,oB 12 .shr 11 (.const (.int .u64 16)),oS 13 (.conv .u8 12),oM 14 1,oB 15 .shr 14 (.const (.int .u64 8)),oS 16 (.conv .u8 15),oM 17 1,oS 18 (.conv .u8 17),oS 19 (.bsl 5 4 1 [(.int .u8 0)] [(0,10),(1,13),(2,16),(3,18)]),oS 20 (.b2s 19),oS 21 (.build [(.string ⟨#[]⟩),(.int .i64 0),(.int .i64 0),(.int .i64 0),(.string ⟨#[]⟩)] [(0,1,7),(1,1,(cI 1)),(2,1,(cI 1)),(4,1,20)]),oS 22 (.bsl 89 1 5 [(.string ⟨#[]⟩),(.int .i64 0),(.int .i64 0),(.int .i64 0),(.string ⟨#[]⟩)] [(0,21)]),oS 23 (.build [(.string ⟨#[]⟩),(.int .i64 0),(.slice none 0 0),(.int .i64 0),(.string ⟨#[]⟩)] [(0,2,6),(2,1,22),(4,1,(.const (.string ⟨#[0]⟩)))]),oN (.store 5 4 23)] .ret)
theorem Tryz.Nn:Z6 Tryz.prog 32 24 #[.cell 4 46] Tryz.x32:=Zn Tryz.func32 (by kernel_rfl)
/-- freshet/freshetalike.Ints -/
def Tryz.Oj:zA:=cR [oM 4 (cB false)] (.seq (cR [oM 6 0,oS 7 (.len 6),oM 8 1,oS 9 (.len 8),oB 10 .neq 7 9] (.cond 10 (cR [oM 4 (cB false)] .ret) .skip)) (.seq (cR [oM 5 (cI 0)] (.block 0 (.loop (.seq (cR [oM 11 5,oM 12 0,oS 13 (.len 12),oB 14 .lss 11 13] (.cond 14 .skip (.exit 0))) (.seq (.block 1 (.seq (.draw (qM 17 0 (qM 18 5 (qI 19 17 18 1 (qL 20 19 (qM 21 1 (qM 22 5 (qI 23 21 22 1 (qL 24 23 (qB 25 .neq 20 24 .done)))))))))) (.cond 25 (cR [oM 4 (cB false)] .ret) .skip))) (.region [oM 15 5,oB 16 .add 15 (cI 1),oM 5 16])))))) (cR [oM 4 (cB true)] .ret)))
theorem Tryz.Nj:Z6 Tryz.prog 37 26 #[.tmp 4] Tryz.Oj:=Zn Tryz.func37 (by kernel_rfl)
end Go.Proofs.YtekgciopamkjlaaGreat