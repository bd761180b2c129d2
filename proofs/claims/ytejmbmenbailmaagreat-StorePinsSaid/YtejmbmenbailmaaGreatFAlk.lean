/- The compiled code of some of the program's functions, printed by a program, and that it is what the compiler of these texts makes of them. -/
import Derived.Test.YtejmbmenbailmaaGreatB1
import Derived.Test.YtejmbmenbailmaaGreatProg
import Derived.KernelRfl
namespace Go.Proofs.YtejmbmenbailmaaGreat
open Go.Xs
/-- freshet/freshetalike.A -/
def Tryz.I7 : zD := .seq (.region [oS 4 (.alloc 46 [(.string ⟨#[]⟩), (.int .i64 0), (.slice none 0 0), (.int .i64 0), (.string ⟨#[]⟩)])]) ( .seq (.region [oS 5 (.mov 0), oS 6 (.build [(.string ⟨#[]⟩), (.int .i64 0)] [(0, 1, 5), (1, 1, (cI 1))]), oS 7 (.mov 0), oS 8 (.mov 1), oS 9 (.bin .shr 8 (.const (.int .u64 24))), oS 10 (.conv .u8 9), oS 11 (.mov 1), oS 12 (.bin .shr 11 (.const (.int .u64 16))), oS 13 (.conv .u8 12), oS 14 (.mov 1), oS 15 (.bin .shr 14 (.const (.int .u64 8))), oS 16 (.conv .u8 15), oS 17 (.mov 1), oS 18 (.conv .u8 17), oS 19 (.bsl 5 4 1 [(.int .u8 0)] [(0, 10), (1, 13), (2, 16), (3, 18)]), oS 20 (.b2s 19), oS 21 (.build [(.string ⟨#[]⟩), (.int .i64 0), (.int .i64 0), (.int .i64 0), (.string ⟨#[]⟩)] [(0, 1, 7), (1, 1, (cI 1)), (2, 1, (cI 1)), (4, 1, 20)]), oS 22 (.bsl 88 1 5 [(.string ⟨#[]⟩), (.int .i64 0), (.int .i64 0), (.int .i64 0), (.string ⟨#[]⟩)] [(0, 21)]), oS 23 (.build [(.string ⟨#[]⟩), (.int .i64 0), (.slice none 0 0), (.int .i64 0), (.string ⟨#[]⟩)] [(0, 2, 6), (2, 1, 22), (4, 1, (.const (.string ⟨#[0]⟩)))]), oN (.store 5 4 23)]) ( .ret))
theorem Tryz.Gf : Za Tryz.prog 30 24 #[.cell 4 46] Tryz.I7 := ⟨Tryz.f30, Tryz.func30, by kernel_rfl, by kernel_rfl, by kernel_rfl, by kernel_rfl⟩
end Go.Proofs.YtejmbmenbailmaaGreat