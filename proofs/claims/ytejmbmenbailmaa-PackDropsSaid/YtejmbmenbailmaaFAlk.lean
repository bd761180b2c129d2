/- The compiled code of some of the program's functions, printed by a program, and that it is what the compiler of these texts makes of them. -/
import Derived.Test.YtejmbmenbailmaaB1
import Derived.Test.YtejmbmenbailmaaProg
import Derived.KernelRfl
namespace Go.Proofs.Ytejmbmenbailmaa
open Go.Xs
/-- freshet/freshetalike.A -/
def Try.x16 : XCode := .seq (.region [oS 4 (.alloc 32 [(.string ⟨#[]⟩), (.int .i64 0), (.slice none 0 0), (.int .i64 0), (.string ⟨#[]⟩)])]) ( .seq (.region [oS 5 (.mov 0), oS 6 (.build [(.string ⟨#[]⟩), (.int .i64 0)] [(0, 1, 5), (1, 1, (cI 1))]), oS 7 (.mov 0), oS 8 (.mov 1), oS 9 (.bin .shr 8 (.const (.int .u64 24))), oS 10 (.conv .u8 9), oS 11 (.mov 1), oS 12 (.bin .shr 11 (.const (.int .u64 16))), oS 13 (.conv .u8 12), oS 14 (.mov 1), oS 15 (.bin .shr 14 (.const (.int .u64 8))), oS 16 (.conv .u8 15), oS 17 (.mov 1), oS 18 (.conv .u8 17), oS 19 (.bsl 5 4 1 [(.int .u8 0)] [(0, 10), (1, 13), (2, 16), (3, 18)]), oS 20 (.b2s 19), oS 21 (.build [(.string ⟨#[]⟩), (.int .i64 0), (.int .i64 0), (.int .i64 0), (.string ⟨#[]⟩)] [(0, 1, 7), (1, 1, (cI 1)), (2, 1, (cI 1)), (4, 1, 20)]), oS 22 (.bsl 34 1 5 [(.string ⟨#[]⟩), (.int .i64 0), (.int .i64 0), (.int .i64 0), (.string ⟨#[]⟩)] [(0, 21)]), oS 23 (.build [(.string ⟨#[]⟩), (.int .i64 0), (.slice none 0 0), (.int .i64 0), (.string ⟨#[]⟩)] [(0, 2, 6), (2, 1, 22), (4, 1, (.const (.string ⟨#[0]⟩)))]), oN (.store 5 4 23)]) ( .ret))
theorem Try.fx16 : FnX Try.prog 16 24 #[.cell 4 32] Try.x16 := ⟨Try.f16, Try.func16, by kernel_rfl, by kernel_rfl, by kernel_rfl, by kernel_rfl⟩
/-- freshet/freshetalike.Round -/
def Try.x17 : XCode := .seq (.region [oS 4 (.mov (cI 0))]) ( .seq (.region [oS 5 (.mov 0), oS 6 (.mov 1), oS 7 (.bin .rem 5 6), oS 8 (.mov 1), oS 9 (.bin .add 7 8), oS 10 (.mov 1), oS 11 (.bin .rem 9 10), oS 4 (.mov 11)]) ( .ret))
theorem Try.fx17 : FnX Try.prog 17 12 #[.tmp 4] Try.x17 := ⟨Try.f17, Try.func17, by kernel_rfl, by kernel_rfl, by kernel_rfl, by kernel_rfl⟩
/-- freshet/freshetalike.Name -/
def Try.x18 : XCode := .seq (.region [oS 2 (.mov (.const (.string ⟨#[]⟩)))]) ( .seq (.region [oS 4 (.mov 0), oS 5 (.call (.func 17) [4, (cI 20)]), oS 6 (.bin .add (cI 97) 5), oS 7 (.conv .u8 6), oS 8 (.bsl 5 1 1 [(.int .u8 0)] [(0, 7)]), oS 9 (.b2s 8), oS 3 (.mov 9)]) ( .seq (.seq (.region [oS 10 (.mov 0), oS 11 (.call (.func 17) [10, (cI 3)]), oS 12 (.bin .eql 11 (cI 0))]) ( .cond 12 ( .seq (.region [oS 13 (.mov 3), oS 14 (.bin .add (.const (.string ⟨#[1]⟩)) 13), oS 15 (.bin .add 14 (.const (.string ⟨#[0]⟩))), oS 2 (.mov 15)]) ( .ret)) ( .skip))) ( .seq (.region [oS 16 (.mov 3), oS 17 (.bin .add (.const (.string ⟨#[1]⟩)) 16), oS 18 (.bin .add 17 (.const (.string ⟨#[1, 122, 0]⟩))), oS 2 (.mov 18)]) ( .ret))))
theorem Try.fx18 : FnX Try.prog 18 19 #[.tmp 2] Try.x18 := ⟨Try.f18, Try.func18, by kernel_rfl, by kernel_rfl, by kernel_rfl, by kernel_rfl⟩
end Go.Proofs.Ytejmbmenbailmaa
