/- The compiled code of some of the program's functions, printed by a program, and that it is what the compiler of these texts makes of them. -/
import Derived.Test.YtekgciopamkjlaaGreatB1
import Derived.Test.YtekgciopamkjlaaGreatProg
import Derived.KernelRfl
namespace Go.Proofs.YtekgciopamkjlaaGreat
open Go.Xs
/-- slices.Sort[[]int,int] -/
def Tryz.Ao:zA:=cR [oM 3 0,oS 4 (.len 3),oM 2 4] (.region [oM 5 0,oM 6 2,oM 7 2,oS 8 (.conv .u64 7),oC 9 157 [8],oC 10 156 [5,(cI 0),6,9]])
theorem Tryz.tF:Z6 Tryz.prog 136 11 #[] Tryz.Ao:=Zn Tryz.func136 (by kernel_rfl)
/-- slices.Compact[[]int,int] -/
def Tryz.Am:zA:=cR [oM 2 (.const (.slice none 0 0))] (.seq (cR [oM 6 0,oS 7 (.len 6),oB 8 .lss 7 (cI 2)] (.cond 8 (cR [oM 9 0,oM 2 9] .ret) .skip)) (.seq (cR [oM 3 (cI 1)] (.block 0 (.loop (.seq (cR [oM 10 3,oM 11 0,oS 12 (.len 11),oB 13 .lss 10 12] (.cond 13 .skip (.exit 0))) (.seq (.block 1 (.seq (.draw (qM 16 0 (qM 17 3 (qI 18 16 17 1 (qL 19 18 (qM 20 0 (qM 21 3 (qB 22 .sub 21 (cI 1) (qI 23 20 22 1 (qL 24 23 (qB 25 .eql 19 24 .done))))))))))) (.cond 25 (cR [oM 26 0,oM 27 3,oS 28 (.slc 1 26 (some 27) none none),oM 4 28] (.seq (cR [oM 5 (cI 1)] (.block 2 (.loop (.seq (cR [oM 29 5,oM 30 4,oS 31 (.len 30),oB 32 .lss 29 31] (.cond 32 .skip (.exit 2))) (.seq (.block 3 (.seq (.draw (qM 35 4 (qM 36 5 (qI 37 35 36 1 (qL 38 37 (qM 39 4 (qM 40 5 (qB 41 .sub 40 (cI 1) (qI 42 39 41 1 (qL 43 42 (qB 44 .neq 38 43 .done))))))))))) (.cond 44 (cR [oM 45 0,oM 46 3,oM 47 4,oM 48 5,oI 49 47 48 1,oL 50 49,oI 51 45 46 1,oN (.store 1 51 50)] (.region [oM 52 3,oB 53 .add 52 (cI 1),oM 3 53])) .skip))) (.region [oM 33 5,oB 34 .add 33 (cI 1),oM 5 34])))))) (cR [oM 54 0,oM 55 3,oS 56 (.slc 1 54 (some 55) none none),oN (.clr [(.int .i64 0)] 56)] (cR [oM 57 0,oM 58 3,oS 59 (.slc 1 57 none (some 58) none),oM 2 59] .ret)))) .skip))) (.region [oM 14 3,oB 15 .add 14 (cI 1),oM 3 15])))))) (cR [oM 60 0,oM 2 60] .ret)))
theorem Tryz.tC:Z6 Tryz.prog 137 61 #[.tmp 2] Tryz.Am:=Zn Tryz.func137 (by kernel_rfl)
end Go.Proofs.YtekgciopamkjlaaGreat