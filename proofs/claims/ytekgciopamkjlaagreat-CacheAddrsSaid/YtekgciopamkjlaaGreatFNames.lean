/- The compiled code of some of the program's functions, printed by a program, and that it is what the compiler of these texts makes of them. -/
import Derived.Test.YtekgciopamkjlaaGreatB1
import Derived.Test.YtekgciopamkjlaaGreatProg
import Derived.KernelRfl
namespace Go.Proofs.YtekgciopamkjlaaGreat
open Go.Xs
/-- freshet/name.Fold -/
def Tryz.Ob:zA:=cR [oM 2 (.const (.string ⟨#[]⟩))] (.seq (cR [oM 3 0,oC 4 89 [3],oS 5 (.un .not 4)] (.cond 5 (cR [oM 6 0,oM 2 6] .ret) .skip)) (cR [oM 7 0,oC 8 99 [7],oM 2 8] .ret))
theorem Tryz.N9:Z6 Tryz.prog 55 9 #[.tmp 2] Tryz.Ob:=Zn Tryz.func55 (by kernel_rfl)
/-- freshet/name.Valid -/
def Tryz.NP:zA:=cR [oM 2 (cB false)] (cR [oM 6 0,oC 7 139 [6],oM 5 7,oX 8 5 0,oX 9 5 1,oM 3 8,oM 4 9] (cR [oM 10 4,oM 11 10,gM 12 3 11 true,gM 13 0 11 true,oG 14 (.slen 13) 11 true,oG 15 (.bin .eql 12 14) 11 true,oS 16 (.pick 11 15 (cB false)),oM 2 16] .ret))
theorem Tryz.MG:Z6 Tryz.prog 89 17 #[.tmp 2] Tryz.NP:=Zn Tryz.func89 (by kernel_rfl)
/-- freshet/name.Same -/
def Tryz.NK:zA:=cR [oM 4 (cB false)] (cR [oM 5 0,oC 6 89 [5],oM 7 6,gM 8 1 7 true,oG 9 (.call (.func 89) [8]) 7 true,oS 10 (.pick 7 9 (cB false)),oM 11 10,gM 12 0 11 true,oG 13 (.call (.func 99) [12]) 11 true,gM 14 1 11 true,oG 15 (.call (.func 99) [14]) 11 true,oG 16 (.bin .eql 13 15) 11 true,oS 17 (.pick 11 16 (cB false)),oM 4 17] .ret)
theorem Tryz.MC:Z6 Tryz.prog 94 18 #[.tmp 4] Tryz.NK:=Zn Tryz.func94 (by kernel_rfl)
/-- freshet/name.fold -/
def Tryz.x99:zA:=cR [oM 2 (.const (.string ⟨#[]⟩))] (cR [oM 6 0,oS 7 (.s2b 5 6),oM 3 7] (.seq (cR [oM 8 3,oS 9 (.len 8),oM 10 (cI 0)] (.block 0 (.loop (cR [oB 11 .lss 10 9] (.seq (.cond 11 .skip (.exit 0)) (.seq (.block 1 (cR [oM 12 10,oI 13 8 10 1,oL 14 13,oM 4 12,oM 5 14] (cR [oM 15 5,oB 16 .geq 15 (.const (.int .u8 65)),oM 17 16,gM 18 5 17 true,oG 19 (.bin .leq 18 (.const (.int .u8 90))) 17 true,oS 20 (.pick 17 19 (cB false))] (.cond 20 (.region [oM 21 3,oM 22 4,oM 23 5,oB 24 .add 23 (.const (.int .u8 97)),oB 25 .sub 24 (.const (.int .u8 65)),oI 26 21 22 1,oN (.store 1 26 25)]) .skip)))) (.region [oB 27 .add 10 (cI 1),oM 10 27]))))))) (cR [oM 28 3,oS 29 (.b2s 28),oM 2 29] .ret)))
theorem Tryz.Mv:Z6 Tryz.prog 99 30 #[.tmp 2] Tryz.x99:=Zn Tryz.func99 (by kernel_rfl)
/-- freshet/name.Lead -/
def Tryz.DC:zA:=cR [oM 2 (cI 0),oM 3 (cB false)] (.seq (cR [oM 4 (cI 0)] (.block 0 (.loop (.seq (cR [oM 6 4,oM 7 0,oS 8 (.slen 7),oB 9 .lss 6 8,oM 10 9,gM 11 4 10 true,oG 12 (.bin .lss 11 (cI 255)) 10 true,oS 13 (.pick 10 12 (cB false))] (.cond 13 .skip (.exit 0))) (.block 1 (cR [oM 14 0,oM 15 4,oS 16 (.sidx 14 15),oS 17 (.conv .i64 16),oM 5 17] (cR [oM 18 4,oB 19 .add 18 (cI 1),oM 4 19] (.seq (cR [oM 20 5,oB 21 .eql 20 (cI 0)] (.cond 21 (cR [oM 22 4,oM 2 22,oM 3 (cB true)] .ret) .skip)) (cR [oM 23 4,oM 24 5,oB 25 .add 23 24,oM 4 25] (cR [oM 26 5,oB 27 .gtr 26 (cI 63)] (.cond 27 (.exit 0) .skip))))))))))) (cR [oM 2 (cI 0),oM 3 (cB false)] .ret))
theorem Tryz.H9:Z6 Tryz.prog 139 28 #[.tmp 2,.tmp 3] Tryz.DC:=Zn Tryz.func139 (by kernel_rfl)
end Go.Proofs.YtekgciopamkjlaaGreat