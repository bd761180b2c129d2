/- The compiled code of some of the program's functions, printed by a program, and that it is what the compiler of these texts makes of them. -/
import Derived.Test.YtekgciopamkjlaaGreatB1
import Derived.Test.YtekgciopamkjlaaGreatProg
import Derived.KernelRfl
namespace Go.Proofs.YtekgciopamkjlaaGreat
open Go.Xs
/-- freshet/freshetalike.Round -/
def Tryz.x24:zI:=cR [oM 4 (cI 0)] (cR [oM 5 0,oM 6 1,oB 7 .rem 5 6,oM 8 1,oB 9 .add 7 8,oM 10 1,oB 11 .rem 9 10,oM 4 11] .ret)
theorem Tryz.BM:Zi Tryz.prog 24 12 #[.tmp 4] Tryz.x24:=ZJ Tryz.func24 (by kernel_rfl)
/-- freshet/freshetalike.A -/
def Tryz.x32:zI:=cR [oS 4 (.alloc 46 [(.string ⟨#[]⟩),(.int .i64 0),(.slice none 0 0),(.int .i64 0),(.string ⟨#[]⟩)])] (cR [oM 5 0,oS 6 (.build [(.string ⟨#[]⟩),(.int .i64 0)] [(0,1,5),(1,1,(cI 1))]),oM 7 0,oM 8 1,oB 9 .shr 8 (.const (.int .u64 24)),oS 10 (.conv .u8 9),oM 11 1,oB 12 .shr 11 (.const (.int .u64 16)),oS 13 (.conv .u8 12),oM 14 1,oB 15 .shr 14 (.const (.int .u64 8)),oS 16 (.conv .u8 15),oM 17 1,oS 18 (.conv .u8 17),oS 19 (.bsl 5 4 1 [(.int .u8 0)] [(0,10),(1,13),(2,16),(3,18)]),oS 20 (.b2s 19),oS 21 (.build [(.string ⟨#[]⟩),(.int .i64 0),(.int .i64 0),(.int .i64 0),(.string ⟨#[]⟩)] [(0,1,7),(1,1,(cI 1)),(2,1,(cI 1)),(4,1,20)]),oS 22 (.bsl 89 1 5 [(.string ⟨#[]⟩),(.int .i64 0),(.int .i64 0),(.int .i64 0),(.string ⟨#[]⟩)] [(0,21)]),oS 23 (.build [(.string ⟨#[]⟩),(.int .i64 0),(.slice none 0 0),(.int .i64 0),(.string ⟨#[]⟩)] [(0,2,6),(2,1,22),(4,1,(.const (.string ⟨#[0]⟩)))]),oN (.store 5 4 23)] .ret)
theorem Tryz.BH:Zi Tryz.prog 32 24 #[.cell 4 46] Tryz.x32:=ZJ Tryz.func32 (by kernel_rfl)
/-- freshet/freshetalike.Records -/
def Tryz.Df:zI:=cR [oM 4 (cB false)] (cR [oM 7 0,oS 8 (.len 7),oM 5 8] (.seq (cR [oM 6 (cI 0)] (.block 0 (.loop (.seq (cR [oM 9 6,oM 10 0,oS 11 (.len 10),oB 12 .lss 9 11,oM 13 12,gM 14 5 13 true,gM 15 1 13 true,oG 16 (.bin .leq 14 15) 13 true,oS 17 (.pick 13 16 (cB false))] (.cond 17 .skip (.exit 0))) (.seq (.block 1 (.seq (cR [oM 20 0,oM 21 6,oI 22 20 21 5,oA 23 22 0,oL 24 23,oS 25 (.slen 24),oM 26 1,oB 27 .gtr 25 26,oM 28 27,gM 29 0 28 false,gM 30 6 28 false,oG 31 (.iadr 29 30 5) 28 false,oG 32 (.fadr 31 4) 28 false,oG 33 (.load1 32) 28 false,oG 34 (.slen 33) 28 false,gM 35 1 28 false,oG 36 (.bin .gtr 34 35) 28 false,oS 37 (.pick 28 (cB true) 36)] (.cond 37 (cR [oM 4 (cB false)] .ret) .skip)) (.draw (qM 38 5 (qM 39 0 (qM 40 6 (qI 41 39 40 5 (qA 42 41 0 (qL 43 42 (qS 44 (.slen 43) (qB 45 .add 38 44 (qM 46 0 (qM 47 6 (qI 48 46 47 5 (qA 49 48 4 (qL 50 49 (qS 51 (.slen 50) (qB 52 .add 45 51 (qM 5 52 .done))))))))))))))))))) (.region [oM 18 6,oB 19 .add 18 (cI 1),oM 6 19])))))) (cR [oM 53 5,oM 54 1,oB 55 .leq 53 54,oM 4 55] .ret)))
theorem Tryz.BF:Zi Tryz.prog 47 56 #[.tmp 4] Tryz.Df:=ZJ Tryz.func47 (by kernel_rfl)
end Go.Proofs.YtekgciopamkjlaaGreat