/- The compiled code of some of the program's functions, printed by a program, and that it is what the compiler of these texts makes of them. -/
import Derived.Test.YtkdbajfaaifkaaaB1
import Derived.Test.YtkdbajfaaifkaaaProg
import Derived.KernelRfl
namespace Go.Proofs.Ytkdbajfaaifkaaa
open Go.Xs
/-- freshet/intern.New -/
def Try.x35 : XCode :=
 .seq (.region [⟨some 2, .mov (.const (.pointer none)), none⟩]) (
 .seq (.region [⟨some 3, .mov (.tmp 0), none⟩,
    ⟨some 4, .raw (.makeMap 98 none) 98, none⟩,
    ⟨some 5, .raw (.makeMap 99 none) 99, none⟩,
    ⟨some 6, .build [(.pointer none), (.map none), (.map none)] [(0, 1, (.tmp 3)), (1, 1, (.tmp 4)), (2, 1, (.tmp 5))], none⟩,
    ⟨some 7, .box 101 (.tmp 6), none⟩,
    ⟨some 2, .mov (.tmp 7), none⟩]) (
 .ret))
theorem Try.fx35 : FnX Try.prog 35 8 #[.tmp 2] Try.x35 :=
  ⟨Try.f35, Try.func35, by kernel_rfl, by kernel_rfl, by kernel_rfl, by kernel_rfl⟩
/-- (*freshet/intern.Table).Add -/
def Try.x36 : XCode :=
 .seq (.region [⟨some 4, .mov (.const (.int .i64 0)), none⟩,
    ⟨some 5, .mov (.const (.int .i64 0)), none⟩]) (
 .seq (.block 0 (
   .seq (.region [⟨some 11, .mov (.tmp 1), none⟩,
      ⟨some 12, .call (.func 65) [(.tmp 11)], none⟩,
      ⟨some 13, .un .not (.tmp 12), none⟩,
      ⟨some 10, .mov (.tmp 13), none⟩]) (
   .cond (.tmp 10) (
    .seq (.region [⟨some 4, .mov (.const (.int .i64 0)), none⟩,
       ⟨some 5, .mov (.const (.int .i64 2)), none⟩]) (
    .ret)) (
    .seq (.region [⟨some 15, .mov (.tmp 0), none⟩,
       ⟨some 16, .call (.func 66) [(.tmp 15)], none⟩,
       ⟨some 14, .mov (.tmp 16), none⟩]) (
    .cond (.tmp 14) (
     .seq (.region [⟨some 4, .mov (.const (.int .i64 0)), none⟩,
        ⟨some 5, .mov (.const (.int .i64 4)), none⟩]) (
     .ret)) (
     .skip)))))) (
 .seq (.region [⟨some 17, .mov (.tmp 1), none⟩,
    ⟨some 18, .call (.func 67) [(.tmp 17)], none⟩,
    ⟨some 1, .mov (.tmp 18), none⟩]) (
 .seq (.region [⟨some 20, .mov (.tmp 0), none⟩,
    ⟨some 21, .nilc (.tmp 20), none⟩,
    ⟨some 22, .fadr (.tmp 21) 1, none⟩,
    ⟨some 23, .load1 (.tmp 22), none⟩,
    ⟨some 24, .mov (.tmp 1), none⟩,
    ⟨some 25, .raw (.lookup 98 (.tmp 23) (.tmp 24) true) 59, none⟩,
    ⟨some 19, .mov (.tmp 25), none⟩,
    ⟨some 26, .ext (.tmp 19) 0, none⟩,
    ⟨some 27, .ext (.tmp 19) 1, none⟩,
    ⟨some 6, .mov (.tmp 26), none⟩,
    ⟨some 7, .mov (.tmp 27), none⟩]) (
 .seq (.seq (.region [⟨some 28, .mov (.tmp 7), none⟩,
     ⟨some 29, .un .not (.tmp 28), none⟩]) (
  .cond (.tmp 29) (
   .seq (.region [⟨some 31, .mov (.tmp 0), none⟩,
      ⟨some 32, .nilc (.tmp 31), none⟩,
      ⟨some 33, .fadr (.tmp 32) 0, none⟩,
      ⟨some 34, .load1 (.tmp 33), none⟩,
      ⟨some 35, .mov (.tmp 1), none⟩,
      ⟨some 36, .slen (.tmp 35), none⟩,
      ⟨some 37, .bin .add (.const (.int .i64 8)) (.tmp 36), none⟩,
      ⟨some 38, .call (.func 16) [(.tmp 34), (.tmp 37)], none⟩,
      ⟨some 30, .mov (.tmp 38), none⟩,
      ⟨some 39, .ext (.tmp 30) 0, none⟩,
      ⟨some 40, .ext (.tmp 30) 1, none⟩,
      ⟨some 8, .mov (.tmp 39), none⟩,
      ⟨some 9, .mov (.tmp 40), none⟩]) (
   .seq (.seq (.region [⟨some 41, .mov (.tmp 9), none⟩,
       ⟨some 42, .bin .neq (.tmp 41) (.const (.int .i64 0)), none⟩]) (
    .cond (.tmp 42) (
     .seq (.region [⟨some 43, .mov (.tmp 9), none⟩,
        ⟨some 4, .mov (.const (.int .i64 0)), none⟩,
        ⟨some 5, .mov (.tmp 43), none⟩]) (
     .ret)) (
     .skip))) (
   .seq (.draw (
     .q ⟨some 44, .mov (.tmp 0), none⟩ (
     .q ⟨some 45, .nilc (.tmp 44), none⟩ (
     .q ⟨some 46, .fadr (.tmp 45) 1, none⟩ (
     .q ⟨some 47, .load1 (.tmp 46), none⟩ (
     .q ⟨some 48, .mov (.tmp 1), none⟩ (
     .q ⟨some 49, .mov (.tmp 0), none⟩ (
     .q ⟨some 50, .nilc (.tmp 49), none⟩ (
     .q ⟨some 51, .fadr (.tmp 50) 2, none⟩ (
     .q ⟨some 52, .load1 (.tmp 51), none⟩ (
     .q ⟨some 53, .mov (.tmp 8), none⟩ (
     .q ⟨some 54, .mov (.tmp 8), none⟩ (
     .q ⟨some 55, .mov (.tmp 8), none⟩ (
     .q ⟨some 6, .mov (.tmp 54), none⟩ (
     .alt ⟨some 56, .raw (.mapEntry 98 (.tmp 47) (.tmp 48)) 0, none⟩ false (
      .q ⟨some 57, .ext (.tmp 56) 1, none⟩ (
      .alt ⟨none, .raw (.entryStore 98 (.tmp 47) (.tmp 57) (.tmp 55)) 0, none⟩ false (
       .alt ⟨some 58, .raw (.mapEntry 99 (.tmp 52) (.tmp 53)) 0, none⟩ false (
        .q ⟨some 59, .ext (.tmp 58) 1, none⟩ (
        .alt ⟨none, .raw (.entryStore 99 (.tmp 52) (.tmp 59) (.const (.bool true))) 0, none⟩ false (
         .done) (.noalt))) (.noalt)) (.noalt))) (.noalt)))))))))))))))) (
   .region [⟨some 60, .mov (.tmp 0), none⟩,
     ⟨some 61, .nilc (.tmp 60), none⟩,
     ⟨some 62, .fadr (.tmp 61) 0, none⟩,
     ⟨some 63, .load1 (.tmp 62), none⟩,
     ⟨some 64, .mov (.tmp 6), none⟩,
     ⟨some 65, .mov (.tmp 1), none⟩,
     ⟨some 66, .s2b 5 (.tmp 65), none⟩,
     ⟨some 67, .call (.func 17) [(.tmp 63), (.tmp 64), (.const (.int .i64 8)), (.tmp 66)], none⟩])))) (
   .skip))) (
 .seq (.region [⟨some 68, .mov (.tmp 0), none⟩,
    ⟨some 69, .mov (.tmp 6), none⟩,
    ⟨some 70, .mov (.tmp 0), none⟩,
    ⟨some 71, .mov (.tmp 6), none⟩,
    ⟨some 72, .call (.func 47) [(.tmp 70), (.tmp 71)], none⟩,
    ⟨some 73, .bin .add (.tmp 72) (.const (.int .i64 1)), none⟩,
    ⟨some 74, .call (.func 68) [(.tmp 68), (.tmp 69), (.tmp 73)], none⟩]) (
 .seq (.region [⟨some 75, .mov (.tmp 6), none⟩,
    ⟨some 4, .mov (.tmp 75), none⟩,
    ⟨some 5, .mov (.const (.int .i64 0)), none⟩]) (
 .ret)))))))
theorem Try.fx36 : FnX Try.prog 36 76 #[.tmp 4, .tmp 5] Try.x36 :=
  ⟨Try.f36, Try.func36, by kernel_rfl, by kernel_rfl, by kernel_rfl, by kernel_rfl⟩
/-- (*freshet/freshetref6.Table).Add -/
def Try.x37 : XCode :=
 .seq (.region [⟨some 4, .mov (.const (.int .i64 0)), none⟩,
    ⟨some 5, .mov (.const (.int .i64 0)), none⟩]) (
 .seq (.seq (.region [⟨some 10, .mov (.tmp 1), none⟩,
     ⟨some 11, .call (.func 45) [(.tmp 10)], none⟩,
     ⟨some 12, .un .not (.tmp 11), none⟩]) (
  .cond (.tmp 12) (
   .seq (.region [⟨some 4, .mov (.const (.int .i64 0)), none⟩,
      ⟨some 5, .mov (.const (.int .i64 2)), none⟩]) (
   .ret)) (
   .skip))) (
 .seq (.region [⟨some 13, .mov (.tmp 1), none⟩,
    ⟨some 14, .call (.func 46) [(.tmp 13)], none⟩,
    ⟨some 6, .mov (.tmp 14), none⟩]) (
 .seq (.region [⟨some 15, .mov (.tmp 0), none⟩,
    ⟨some 16, .mov (.tmp 6), none⟩,
    ⟨some 17, .call (.func 69) [(.tmp 15), (.tmp 16)], none⟩,
    ⟨some 7, .mov (.tmp 17), none⟩]) (
 .seq (.seq (.region [⟨some 18, .mov (.tmp 7), none⟩,
     ⟨some 19, .bin .geq (.tmp 18) (.const (.int .i64 0)), none⟩]) (
  .cond (.tmp 19) (
   .seq (.region [⟨some 20, .mov (.tmp 0), none⟩,
      ⟨some 21, .bsl 103 0 3 [(.int .i64 0), (.string ⟨#[]⟩), (.int .i64 0)] [], none⟩,
      ⟨some 22, .mov (.tmp 0), none⟩,
      ⟨some 23, .nilc (.tmp 22), none⟩,
      ⟨some 24, .fadr (.tmp 23) 1, none⟩,
      ⟨some 25, .load1 (.tmp 24), none⟩,
      ⟨some 26, .app 103 3 32 [(.int .i64 0), (.string ⟨#[]⟩), (.int .i64 0)] (.tmp 21) (.tmp 25), none⟩,
      ⟨some 27, .nilc (.tmp 20), none⟩,
      ⟨some 28, .fadr (.tmp 27) 1, none⟩,
      ⟨none, .store 1 (.tmp 28) (.tmp 26), none⟩]) (
   .seq (.region [⟨some 29, .mov (.tmp 0), none⟩,
      ⟨some 30, .nilc (.tmp 29), none⟩,
      ⟨some 31, .fadr (.tmp 30) 1, none⟩,
      ⟨some 32, .load1 (.tmp 31), none⟩,
      ⟨some 33, .mov (.tmp 7), none⟩,
      ⟨some 34, .iadr (.tmp 32) (.tmp 33) 3, none⟩,
      ⟨some 35, .fadr (.tmp 34) 2, none⟩,
      ⟨some 36, .load1 (.tmp 35), none⟩,
      ⟨some 37, .bin .add (.tmp 36) (.const (.int .i64 1)), none⟩,
      ⟨some 38, .iadr (.tmp 32) (.tmp 33) 3, none⟩,
      ⟨some 39, .fadr (.tmp 38) 2, none⟩,
      ⟨none, .store 1 (.tmp 39) (.tmp 37), none⟩]) (
   .seq (.region [⟨some 40, .mov (.tmp 0), none⟩,
      ⟨some 41, .nilc (.tmp 40), none⟩,
      ⟨some 42, .fadr (.tmp 41) 1, none⟩,
      ⟨some 43, .load1 (.tmp 42), none⟩,
      ⟨some 44, .mov (.tmp 7), none⟩,
      ⟨some 45, .iadr (.tmp 43) (.tmp 44) 3, none⟩,
      ⟨some 46, .fadr (.tmp 45) 0, none⟩,
      ⟨some 47, .load1 (.tmp 46), none⟩,
      ⟨some 4, .mov (.tmp 47), none⟩,
      ⟨some 5, .mov (.const (.int .i64 0)), none⟩]) (
   .ret)))) (
   .skip))) (
 .seq (.region [⟨some 49, .mov (.tmp 0), none⟩,
    ⟨some 50, .nilc (.tmp 49), none⟩,
    ⟨some 51, .fadr (.tmp 50) 0, none⟩,
    ⟨some 52, .load1 (.tmp 51), none⟩,
    ⟨some 53, .mov (.tmp 6), none⟩,
    ⟨some 54, .slen (.tmp 53), none⟩,
    ⟨some 55, .bin .add (.tmp 54) (.const (.int .i64 8)), none⟩,
    ⟨some 56, .call (.func 21) [(.tmp 52), (.tmp 55)], none⟩,
    ⟨some 48, .mov (.tmp 56), none⟩,
    ⟨some 57, .ext (.tmp 48) 0, none⟩,
    ⟨some 58, .ext (.tmp 48) 1, none⟩,
    ⟨some 8, .mov (.tmp 57), none⟩,
    ⟨some 9, .mov (.tmp 58), none⟩]) (
 .seq (.seq (.region [⟨some 59, .mov (.tmp 9), none⟩,
     ⟨some 60, .bin .neq (.tmp 59) (.const (.int .i64 0)), none⟩]) (
  .cond (.tmp 60) (
   .seq (.region [⟨some 61, .mov (.tmp 9), none⟩,
      ⟨some 4, .mov (.const (.int .i64 0)), none⟩,
      ⟨some 5, .mov (.tmp 61), none⟩]) (
   .ret)) (
   .skip))) (
 .seq (.region [⟨some 62, .mov (.tmp 0), none⟩,
    ⟨some 63, .bsl 103 0 3 [(.int .i64 0), (.string ⟨#[]⟩), (.int .i64 0)] [], none⟩,
    ⟨some 64, .mov (.tmp 0), none⟩,
    ⟨some 65, .nilc (.tmp 64), none⟩,
    ⟨some 66, .fadr (.tmp 65) 1, none⟩,
    ⟨some 67, .load1 (.tmp 66), none⟩,
    ⟨some 68, .app 103 3 32 [(.int .i64 0), (.string ⟨#[]⟩), (.int .i64 0)] (.tmp 63) (.tmp 67), none⟩,
    ⟨some 69, .mov (.tmp 8), none⟩,
    ⟨some 70, .mov (.tmp 6), none⟩,
    ⟨some 71, .build [(.int .i64 0), (.string ⟨#[]⟩), (.int .i64 0)] [(0, 1, (.tmp 69)), (1, 1, (.tmp 70)), (2, 1, (.const (.int .i64 1)))], none⟩,
    ⟨some 72, .bsl 103 1 3 [(.int .i64 0), (.string ⟨#[]⟩), (.int .i64 0)] [(0, (.tmp 71))], none⟩,
    ⟨some 73, .app 103 3 32 [(.int .i64 0), (.string ⟨#[]⟩), (.int .i64 0)] (.tmp 68) (.tmp 72), none⟩,
    ⟨some 74, .nilc (.tmp 62), none⟩,
    ⟨some 75, .fadr (.tmp 74) 1, none⟩,
    ⟨none, .store 1 (.tmp 75) (.tmp 73), none⟩]) (
 .seq (.region [⟨some 76, .mov (.tmp 8), none⟩,
    ⟨some 4, .mov (.tmp 76), none⟩,
    ⟨some 5, .mov (.const (.int .i64 0)), none⟩]) (
 .ret)))))))))
theorem Try.fx37 : FnX Try.prog 37 77 #[.tmp 4, .tmp 5] Try.x37 :=
  ⟨Try.f37, Try.func37, by kernel_rfl, by kernel_rfl, by kernel_rfl, by kernel_rfl⟩
/-- (*freshet/intern.Table).Drop -/
def Try.x38 : XCode :=
 .seq (.region [⟨some 4, .mov (.const (.int .i64 0)), none⟩]) (
 .seq (.region [⟨some 9, .mov (.tmp 0), none⟩,
    ⟨some 10, .mov (.tmp 1), none⟩,
    ⟨some 11, .call (.func 64) [(.tmp 9), (.tmp 10)], none⟩,
    ⟨some 8, .mov (.tmp 11), none⟩,
    ⟨some 12, .ext (.tmp 8) 0, none⟩,
    ⟨some 13, .ext (.tmp 8) 1, none⟩,
    ⟨some 5, .mov (.tmp 12), none⟩,
    ⟨some 6, .mov (.tmp 13), none⟩]) (
 .seq (.seq (.region [⟨some 14, .mov (.tmp 6), none⟩,
     ⟨some 15, .un .not (.tmp 14), none⟩]) (
  .cond (.tmp 15) (
   .seq (.region [⟨some 4, .mov (.const (.int .i64 5)), none⟩]) (
   .ret)) (
   .skip))) (
 .seq (.region [⟨some 16, .mov (.tmp 0), none⟩,
    ⟨some 17, .mov (.tmp 1), none⟩,
    ⟨some 18, .call (.func 47) [(.tmp 16), (.tmp 17)], none⟩,
    ⟨some 19, .bin .sub (.tmp 18) (.const (.int .i64 1)), none⟩,
    ⟨some 7, .mov (.tmp 19), none⟩]) (
 .seq (.region [⟨some 20, .mov (.tmp 0), none⟩,
    ⟨some 21, .mov (.tmp 1), none⟩,
    ⟨some 22, .mov (.tmp 7), none⟩,
    ⟨some 23, .call (.func 68) [(.tmp 20), (.tmp 21), (.tmp 22)], none⟩]) (
 .seq (.seq (.region [⟨some 24, .mov (.tmp 7), none⟩,
     ⟨some 25, .bin .eql (.tmp 24) (.const (.int .i64 0)), none⟩]) (
  .cond (.tmp 25) (
   .seq (.region [⟨some 26, .mov (.tmp 0), none⟩,
      ⟨some 27, .nilc (.tmp 26), none⟩,
      ⟨some 28, .fadr (.tmp 27) 1, none⟩,
      ⟨some 29, .load1 (.tmp 28), none⟩,
      ⟨some 30, .mov (.tmp 5), none⟩,
      ⟨none, .raw (.call ⟨.builtin .delete, #[(.tmp 29), (.tmp 30)], #[98, 9]⟩) 0, none⟩]) (
   .seq (.region [⟨some 31, .mov (.tmp 0), none⟩,
      ⟨some 32, .nilc (.tmp 31), none⟩,
      ⟨some 33, .fadr (.tmp 32) 2, none⟩,
      ⟨some 34, .load1 (.tmp 33), none⟩,
      ⟨some 35, .mov (.tmp 1), none⟩,
      ⟨none, .raw (.call ⟨.builtin .delete, #[(.tmp 34), (.tmp 35)], #[99, 3]⟩) 0, none⟩]) (
   .region [⟨some 36, .mov (.tmp 0), none⟩,
     ⟨some 37, .nilc (.tmp 36), none⟩,
     ⟨some 38, .fadr (.tmp 37) 0, none⟩,
     ⟨some 39, .load1 (.tmp 38), none⟩,
     ⟨some 40, .mov (.tmp 1), none⟩,
     ⟨some 41, .call (.func 22) [(.tmp 39), (.tmp 40)], none⟩]))) (
   .skip))) (
 .seq (.region [⟨some 4, .mov (.const (.int .i64 0)), none⟩]) (
 .ret)))))))
theorem Try.fx38 : FnX Try.prog 38 42 #[.tmp 4] Try.x38 :=
  ⟨Try.f38, Try.func38, by kernel_rfl, by kernel_rfl, by kernel_rfl, by kernel_rfl⟩
/-- (*freshet/freshetref6.Table).Drop -/
def Try.x39 : XCode :=
 .seq (.region [⟨some 4, .mov (.const (.int .i64 0)), none⟩]) (
 .seq (.region [⟨some 6, .mov (.tmp 0), none⟩,
    ⟨some 7, .mov (.tmp 1), none⟩,
    ⟨some 8, .call (.func 70) [(.tmp 6), (.tmp 7)], none⟩,
    ⟨some 5, .mov (.tmp 8), none⟩]) (
 .seq (.seq (.region [⟨some 9, .mov (.tmp 5), none⟩,
     ⟨some 10, .bin .lss (.tmp 9) (.const (.int .i64 0)), none⟩]) (
  .cond (.tmp 10) (
   .seq (.region [⟨some 4, .mov (.const (.int .i64 5)), none⟩]) (
   .ret)) (
   .skip))) (
 .seq (.region [⟨some 11, .mov (.tmp 0), none⟩,
    ⟨some 12, .bsl 103 0 3 [(.int .i64 0), (.string ⟨#[]⟩), (.int .i64 0)] [], none⟩,
    ⟨some 13, .mov (.tmp 0), none⟩,
    ⟨some 14, .nilc (.tmp 13), none⟩,
    ⟨some 15, .fadr (.tmp 14) 1, none⟩,
    ⟨some 16, .load1 (.tmp 15), none⟩,
    ⟨some 17, .app 103 3 32 [(.int .i64 0), (.string ⟨#[]⟩), (.int .i64 0)] (.tmp 12) (.tmp 16), none⟩,
    ⟨some 18, .nilc (.tmp 11), none⟩,
    ⟨some 19, .fadr (.tmp 18) 1, none⟩,
    ⟨none, .store 1 (.tmp 19) (.tmp 17), none⟩]) (
 .seq (.region [⟨some 20, .mov (.tmp 0), none⟩,
    ⟨some 21, .nilc (.tmp 20), none⟩,
    ⟨some 22, .fadr (.tmp 21) 1, none⟩,
    ⟨some 23, .load1 (.tmp 22), none⟩,
    ⟨some 24, .mov (.tmp 5), none⟩,
    ⟨some 25, .iadr (.tmp 23) (.tmp 24) 3, none⟩,
    ⟨some 26, .fadr (.tmp 25) 2, none⟩,
    ⟨some 27, .load1 (.tmp 26), none⟩,
    ⟨some 28, .bin .sub (.tmp 27) (.const (.int .i64 1)), none⟩,
    ⟨some 29, .iadr (.tmp 23) (.tmp 24) 3, none⟩,
    ⟨some 30, .fadr (.tmp 29) 2, none⟩,
    ⟨none, .store 1 (.tmp 30) (.tmp 28), none⟩]) (
 .seq (.seq (.region [⟨some 31, .mov (.tmp 0), none⟩,
     ⟨some 32, .nilc (.tmp 31), none⟩,
     ⟨some 33, .fadr (.tmp 32) 1, none⟩,
     ⟨some 34, .load1 (.tmp 33), none⟩,
     ⟨some 35, .mov (.tmp 5), none⟩,
     ⟨some 36, .iadr (.tmp 34) (.tmp 35) 3, none⟩,
     ⟨some 37, .fadr (.tmp 36) 2, none⟩,
     ⟨some 38, .load1 (.tmp 37), none⟩,
     ⟨some 39, .bin .eql (.tmp 38) (.const (.int .i64 0)), none⟩]) (
  .cond (.tmp 39) (
   .seq (.region [⟨some 40, .mov (.tmp 0), none⟩,
      ⟨some 41, .nilc (.tmp 40), none⟩,
      ⟨some 42, .fadr (.tmp 41) 0, none⟩,
      ⟨some 43, .load1 (.tmp 42), none⟩,
      ⟨some 44, .mov (.tmp 1), none⟩,
      ⟨some 45, .call (.func 23) [(.tmp 43), (.tmp 44)], none⟩]) (
   .draw (
    .q ⟨some 46, .mov (.tmp 0), none⟩ (
    .q ⟨some 47, .mov (.tmp 0), none⟩ (
    .q ⟨some 48, .nilc (.tmp 47), none⟩ (
    .q ⟨some 49, .fadr (.tmp 48) 1, none⟩ (
    .q ⟨some 50, .load1 (.tmp 49), none⟩ (
    .q ⟨some 51, .mov (.tmp 5), none⟩ (
    .q ⟨some 52, .slc 3 (.tmp 50) none (some (.tmp 51)) none, none⟩ (
    .q ⟨some 53, .mov (.tmp 0), none⟩ (
    .q ⟨some 54, .nilc (.tmp 53), none⟩ (
    .q ⟨some 55, .fadr (.tmp 54) 1, none⟩ (
    .q ⟨some 56, .load1 (.tmp 55), none⟩ (
    .q ⟨some 57, .mov (.tmp 5), none⟩ (
    .q ⟨some 58, .bin .add (.tmp 57) (.const (.int .i64 1)), none⟩ (
    .q ⟨some 59, .slc 3 (.tmp 56) (some (.tmp 58)) none none, none⟩ (
    .alt ⟨some 60, .app 103 3 32 [(.int .i64 0), (.string ⟨#[]⟩), (.int .i64 0)] (.tmp 52) (.tmp 59), none⟩ false (
     .q ⟨some 61, .nilc (.tmp 46), none⟩ (
     .q ⟨some 62, .fadr (.tmp 61) 1, none⟩ (
     .alt ⟨none, .store 1 (.tmp 62) (.tmp 60), none⟩ false (
      .done) (.noalt)))) (.noalt)))))))))))))))))) (
   .skip))) (
 .seq (.region [⟨some 4, .mov (.const (.int .i64 0)), none⟩]) (
 .ret)))))))
theorem Try.fx39 : FnX Try.prog 39 63 #[.tmp 4] Try.x39 :=
  ⟨Try.f39, Try.func39, by kernel_rfl, by kernel_rfl, by kernel_rfl, by kernel_rfl⟩
/-- (*freshet/intern.Table).Find -/
def Try.x41 : XCode :=
 .seq (.region [⟨some 4, .mov (.const (.int .i64 0)), none⟩,
    ⟨some 5, .mov (.const (.bool false)), none⟩]) (
 .seq (.seq (.region [⟨some 8, .mov (.tmp 0), none⟩,
     ⟨some 9, .call (.func 66) [(.tmp 8)], none⟩]) (
  .cond (.tmp 9) (
   .seq (.region [⟨some 4, .mov (.const (.int .i64 0)), none⟩,
      ⟨some 5, .mov (.const (.bool false)), none⟩]) (
   .ret)) (
   .skip))) (
 .seq (.draw (
   .q ⟨some 11, .mov (.tmp 0), none⟩ (
   .q ⟨some 12, .nilc (.tmp 11), none⟩ (
   .q ⟨some 13, .fadr (.tmp 12) 1, none⟩ (
   .q ⟨some 14, .load1 (.tmp 13), none⟩ (
   .q ⟨some 15, .mov (.tmp 1), none⟩ (
   .alt ⟨some 16, .call (.func 67) [(.tmp 15)], none⟩ true (
    .alt ⟨some 17, .raw (.lookup 98 (.tmp 14) (.tmp 16) true) 59, none⟩ false (
     .q ⟨some 10, .mov (.tmp 17), none⟩ (
     .q ⟨some 18, .ext (.tmp 10) 0, none⟩ (
     .q ⟨some 19, .ext (.tmp 10) 1, none⟩ (
     .q ⟨some 6, .mov (.tmp 18), none⟩ (
     .q ⟨some 7, .mov (.tmp 19), none⟩ (
     .done)))))) (.noalt)) (.noalt)))))))) (
 .seq (.region [⟨some 20, .mov (.tmp 6), none⟩,
    ⟨some 21, .mov (.tmp 7), none⟩,
    ⟨some 4, .mov (.tmp 20), none⟩,
    ⟨some 5, .mov (.tmp 21), none⟩]) (
 .ret))))
theorem Try.fx41 : FnX Try.prog 41 22 #[.tmp 4, .tmp 5] Try.x41 :=
  ⟨Try.f41, Try.func41, by kernel_rfl, by kernel_rfl, by kernel_rfl, by kernel_rfl⟩
/-- (*freshet/freshetref6.Table).Find -/
def Try.x42 : XCode :=
 .seq (.region [⟨some 4, .mov (.const (.int .i64 0)), none⟩,
    ⟨some 5, .mov (.const (.bool false)), none⟩]) (
 .seq (.region [⟨some 7, .mov (.tmp 0), none⟩,
    ⟨some 8, .mov (.tmp 1), none⟩,
    ⟨some 9, .call (.func 46) [(.tmp 8)], none⟩,
    ⟨some 10, .call (.func 69) [(.tmp 7), (.tmp 9)], none⟩,
    ⟨some 6, .mov (.tmp 10), none⟩]) (
 .seq (.seq (.region [⟨some 11, .mov (.tmp 6), none⟩,
     ⟨some 12, .bin .lss (.tmp 11) (.const (.int .i64 0)), none⟩,
     ⟨some 13, .mov (.tmp 12), none⟩,
     ⟨some 14, .mov (.tmp 1), some (13, false)⟩,
     ⟨some 15, .call (.func 45) [(.tmp 14)], some (13, false)⟩,
     ⟨some 16, .un .not (.tmp 15), some (13, false)⟩,
     ⟨some 17, .pick (.tmp 13) (.const (.bool true)) (.tmp 16), none⟩]) (
  .cond (.tmp 17) (
   .seq (.region [⟨some 4, .mov (.const (.int .i64 0)), none⟩,
      ⟨some 5, .mov (.const (.bool false)), none⟩]) (
   .ret)) (
   .skip))) (
 .seq (.region [⟨some 18, .mov (.tmp 0), none⟩,
    ⟨some 19, .nilc (.tmp 18), none⟩,
    ⟨some 20, .fadr (.tmp 19) 1, none⟩,
    ⟨some 21, .load1 (.tmp 20), none⟩,
    ⟨some 22, .mov (.tmp 6), none⟩,
    ⟨some 23, .iadr (.tmp 21) (.tmp 22) 3, none⟩,
    ⟨some 24, .fadr (.tmp 23) 0, none⟩,
    ⟨some 25, .load1 (.tmp 24), none⟩,
    ⟨some 4, .mov (.tmp 25), none⟩,
    ⟨some 5, .mov (.const (.bool true)), none⟩]) (
 .ret))))
theorem Try.fx42 : FnX Try.prog 42 26 #[.tmp 4, .tmp 5] Try.x42 :=
  ⟨Try.f42, Try.func42, by kernel_rfl, by kernel_rfl, by kernel_rfl, by kernel_rfl⟩
/-- (*freshet/intern.Table).Cost -/
def Try.x43 : XCode :=
 .seq (.region [⟨some 4, .mov (.const (.int .i64 0)), none⟩]) (
 .seq (.seq (.region [⟨some 8, .mov (.tmp 0), none⟩,
     ⟨some 9, .mov (.tmp 1), none⟩,
     ⟨some 10, .call (.func 41) [(.tmp 8), (.tmp 9)], none⟩,
     ⟨some 7, .mov (.tmp 10), none⟩,
     ⟨some 11, .ext (.tmp 7) 0, none⟩,
     ⟨some 12, .ext (.tmp 7) 1, none⟩,
     ⟨some 5, .mov (.tmp 11), none⟩,
     ⟨some 6, .mov (.tmp 12), none⟩]) (
  .seq (.region [⟨some 13, .mov (.tmp 6), none⟩,
     ⟨some 14, .mov (.tmp 13), none⟩,
     ⟨some 15, .mov (.tmp 1), some (14, false)⟩,
     ⟨some 16, .call (.func 65) [(.tmp 15)], some (14, false)⟩,
     ⟨some 17, .un .not (.tmp 16), some (14, false)⟩,
     ⟨some 18, .pick (.tmp 14) (.const (.bool true)) (.tmp 17), none⟩]) (
  .cond (.tmp 18) (
   .seq (.region [⟨some 4, .mov (.const (.int .i64 0)), none⟩]) (
   .ret)) (
   .skip)))) (
 .seq (.region [⟨some 19, .mov (.tmp 1), none⟩,
    ⟨some 20, .slen (.tmp 19), none⟩,
    ⟨some 21, .bin .add (.const (.int .i64 8)) (.tmp 20), none⟩,
    ⟨some 22, .call (.func 13) [(.tmp 21)], none⟩,
    ⟨some 4, .mov (.tmp 22), none⟩]) (
 .ret)))
theorem Try.fx43 : FnX Try.prog 43 23 #[.tmp 4] Try.x43 :=
  ⟨Try.f43, Try.func43, by kernel_rfl, by kernel_rfl, by kernel_rfl, by kernel_rfl⟩
/-- (*freshet/freshetref6.Table).CostName -/
def Try.x44 : XCode :=
 .seq (.region [⟨some 4, .mov (.const (.int .i64 0)), none⟩]) (
 .seq (.region [⟨some 8, .mov (.tmp 0), none⟩,
    ⟨some 9, .mov (.tmp 1), none⟩,
    ⟨some 10, .call (.func 42) [(.tmp 8), (.tmp 9)], none⟩,
    ⟨some 7, .mov (.tmp 10), none⟩,
    ⟨some 11, .ext (.tmp 7) 0, none⟩,
    ⟨some 12, .ext (.tmp 7) 1, none⟩,
    ⟨some 5, .mov (.tmp 11), none⟩,
    ⟨some 6, .mov (.tmp 12), none⟩]) (
 .seq (.seq (.region [⟨some 13, .mov (.tmp 6), none⟩,
     ⟨some 14, .mov (.tmp 13), none⟩,
     ⟨some 15, .mov (.tmp 1), some (14, false)⟩,
     ⟨some 16, .call (.func 45) [(.tmp 15)], some (14, false)⟩,
     ⟨some 17, .un .not (.tmp 16), some (14, false)⟩,
     ⟨some 18, .pick (.tmp 14) (.const (.bool true)) (.tmp 17), none⟩]) (
  .cond (.tmp 18) (
   .seq (.region [⟨some 4, .mov (.const (.int .i64 0)), none⟩]) (
   .ret)) (
   .skip))) (
 .seq (.region [⟨some 19, .mov (.tmp 1), none⟩,
    ⟨some 20, .slen (.tmp 19), none⟩,
    ⟨some 21, .bin .add (.tmp 20) (.const (.int .i64 8)), none⟩,
    ⟨some 22, .call (.func 55) [(.tmp 21)], none⟩,
    ⟨some 4, .mov (.tmp 22), none⟩]) (
 .ret))))
theorem Try.fx44 : FnX Try.prog 44 23 #[.tmp 4] Try.x44 :=
  ⟨Try.f44, Try.func44, by kernel_rfl, by kernel_rfl, by kernel_rfl, by kernel_rfl⟩
/-- (*freshet/intern.Table).Uses -/
def Try.x47 : XCode :=
 .seq (.region [⟨some 4, .mov (.const (.int .i64 0)), none⟩]) (
 .seq (.seq (.region [⟨some 10, .mov (.tmp 0), none⟩,
     ⟨some 11, .call (.func 66) [(.tmp 10)], none⟩,
     ⟨some 12, .mov (.tmp 11), none⟩,
     ⟨some 13, .mov (.tmp 0), some (12, false)⟩,
     ⟨some 14, .nilc (.tmp 13), some (12, false)⟩,
     ⟨some 15, .fadr (.tmp 14) 2, some (12, false)⟩,
     ⟨some 16, .load1 (.tmp 15), some (12, false)⟩,
     ⟨some 17, .mov (.tmp 1), some (12, false)⟩,
     ⟨some 18, .raw (.lookup 99 (.tmp 16) (.tmp 17) false) 4, some (12, false)⟩,
     ⟨some 19, .un .not (.tmp 18), some (12, false)⟩,
     ⟨some 20, .pick (.tmp 12) (.const (.bool true)) (.tmp 19), none⟩]) (
  .cond (.tmp 20) (
   .seq (.region [⟨some 4, .mov (.const (.int .i64 0)), none⟩]) (
   .ret)) (
   .skip))) (
 .seq (.region [⟨some 22, .mov (.tmp 0), none⟩,
    ⟨some 23, .nilc (.tmp 22), none⟩,
    ⟨some 24, .fadr (.tmp 23) 0, none⟩,
    ⟨some 25, .load1 (.tmp 24), none⟩,
    ⟨some 26, .mov (.tmp 1), none⟩,
    ⟨some 27, .call (.func 18) [(.tmp 25), (.tmp 26), (.const (.int .i64 0)), (.const (.int .i64 8))], none⟩,
    ⟨some 21, .mov (.tmp 27), none⟩,
    ⟨some 28, .ext (.tmp 21) 0, none⟩,
    ⟨some 29, .ext (.tmp 21) 1, none⟩,
    ⟨some 5, .mov (.tmp 28), none⟩,
    ⟨some 6, .mov (.tmp 29), none⟩]) (
 .seq (.region [⟨some 7, .mov (.const (.int .i64 0)), none⟩]) (
 .seq (.seq (.region [⟨some 30, .mov (.tmp 5), none⟩,
     ⟨some 31, .len (.tmp 30), none⟩,
     ⟨some 32, .mov (.const (.int .i64 0)), none⟩]) (
  .block 0 (
   .loop (
    .seq (.region [⟨some 33, .bin .lss (.tmp 32) (.tmp 31), none⟩]) (
    .seq (.cond (.tmp 33) (
      .skip) (
      .exit 0)) (
    .seq (.block 1 (
      .seq (.region [⟨some 34, .mov (.tmp 32), none⟩,
         ⟨some 35, .iadr (.tmp 30) (.tmp 32) 1, none⟩,
         ⟨some 36, .load1 (.tmp 35), none⟩,
         ⟨some 8, .mov (.tmp 34), none⟩,
         ⟨some 9, .mov (.tmp 36), none⟩]) (
      .region [⟨some 37, .mov (.tmp 7), none⟩,
        ⟨some 38, .mov (.tmp 9), none⟩,
        ⟨some 39, .conv .i64 (.tmp 38), none⟩,
        ⟨some 40, .mov (.tmp 8), none⟩,
        ⟨some 41, .bin .mul (.const (.int .i64 8)) (.tmp 40), none⟩,
        ⟨some 42, .bin .shl (.tmp 39) (.tmp 41), none⟩,
        ⟨some 43, .bin .or (.tmp 37) (.tmp 42), none⟩,
        ⟨some 7, .mov (.tmp 43), none⟩]))) (
    .region [⟨some 44, .bin .add (.tmp 32) (.const (.int .i64 1)), none⟩,
      ⟨some 32, .mov (.tmp 44), none⟩]))))))) (
 .seq (.region [⟨some 45, .mov (.tmp 7), none⟩,
    ⟨some 4, .mov (.tmp 45), none⟩]) (
 .ret))))))
theorem Try.fx47 : FnX Try.prog 47 46 #[.tmp 4] Try.x47 :=
  ⟨Try.f47, Try.func47, by kernel_rfl, by kernel_rfl, by kernel_rfl, by kernel_rfl⟩
/-- (*freshet/intern.Table).Count -/
def Try.x48 : XCode :=
 .seq (.region [⟨some 2, .mov (.const (.int .i64 0)), none⟩]) (
 .seq (.seq (.region [⟨some 3, .mov (.tmp 0), none⟩,
     ⟨some 4, .call (.func 66) [(.tmp 3)], none⟩]) (
  .cond (.tmp 4) (
   .seq (.region [⟨some 2, .mov (.const (.int .i64 0)), none⟩]) (
   .ret)) (
   .skip))) (
 .seq (.region [⟨some 5, .mov (.tmp 0), none⟩,
    ⟨some 6, .nilc (.tmp 5), none⟩,
    ⟨some 7, .fadr (.tmp 6) 1, none⟩,
    ⟨some 8, .load1 (.tmp 7), none⟩,
    ⟨some 9, .raw (.call ⟨.builtin .len, #[(.tmp 8)], #[98]⟩) 3, none⟩,
    ⟨some 2, .mov (.tmp 9), none⟩]) (
 .ret)))
theorem Try.fx48 : FnX Try.prog 48 10 #[.tmp 2] Try.x48 :=
  ⟨Try.f48, Try.func48, by kernel_rfl, by kernel_rfl, by kernel_rfl, by kernel_rfl⟩
/-- freshet/freshetalike.Short -/
def Try.x49 : XCode :=
 .seq (.region [⟨some 4, .mov (.const (.bool false)), none⟩]) (
 .seq (.region [⟨some 7, .mov (.tmp 0), none⟩,
    ⟨some 8, .len (.tmp 7), none⟩,
    ⟨some 5, .mov (.tmp 8), none⟩]) (
 .seq (.seq (.region [⟨some 6, .mov (.const (.int .i64 0)), none⟩]) (
  .block 0 (
   .loop (
    .seq (.seq (.region [⟨some 9, .mov (.tmp 6), none⟩,
        ⟨some 10, .mov (.tmp 0), none⟩,
        ⟨some 11, .len (.tmp 10), none⟩,
        ⟨some 12, .bin .lss (.tmp 9) (.tmp 11), none⟩,
        ⟨some 13, .mov (.tmp 12), none⟩,
        ⟨some 14, .mov (.tmp 5), some (13, true)⟩,
        ⟨some 15, .mov (.tmp 1), some (13, true)⟩,
        ⟨some 16, .bin .leq (.tmp 14) (.tmp 15), some (13, true)⟩,
        ⟨some 17, .pick (.tmp 13) (.tmp 16) (.const (.bool false)), none⟩]) (
     .cond (.tmp 17) (
      .skip) (
      .exit 0))) (
    .seq (.block 1 (
      .seq (.seq (.region [⟨some 20, .mov (.tmp 0), none⟩,
          ⟨some 21, .mov (.tmp 6), none⟩,
          ⟨some 22, .iadr (.tmp 20) (.tmp 21) 1, none⟩,
          ⟨some 23, .load1 (.tmp 22), none⟩,
          ⟨some 24, .slen (.tmp 23), none⟩,
          ⟨some 25, .mov (.tmp 1), none⟩,
          ⟨some 26, .bin .gtr (.tmp 24) (.tmp 25), none⟩]) (
       .cond (.tmp 26) (
        .seq (.region [⟨some 4, .mov (.const (.bool false)), none⟩]) (
        .ret)) (
        .skip))) (
      .region [⟨some 27, .mov (.tmp 5), none⟩,
        ⟨some 28, .mov (.tmp 0), none⟩,
        ⟨some 29, .mov (.tmp 6), none⟩,
        ⟨some 30, .iadr (.tmp 28) (.tmp 29) 1, none⟩,
        ⟨some 31, .load1 (.tmp 30), none⟩,
        ⟨some 32, .slen (.tmp 31), none⟩,
        ⟨some 33, .bin .add (.tmp 27) (.tmp 32), none⟩,
        ⟨some 5, .mov (.tmp 33), none⟩]))) (
    .region [⟨some 18, .mov (.tmp 6), none⟩,
      ⟨some 19, .bin .add (.tmp 18) (.const (.int .i64 1)), none⟩,
      ⟨some 6, .mov (.tmp 19), none⟩])))))) (
 .seq (.region [⟨some 34, .mov (.tmp 5), none⟩,
    ⟨some 35, .mov (.tmp 1), none⟩,
    ⟨some 36, .bin .leq (.tmp 34) (.tmp 35), none⟩,
    ⟨some 4, .mov (.tmp 36), none⟩]) (
 .ret))))
theorem Try.fx49 : FnX Try.prog 49 37 #[.tmp 4] Try.x49 :=
  ⟨Try.f49, Try.func49, by kernel_rfl, by kernel_rfl, by kernel_rfl, by kernel_rfl⟩
/-- (*freshet/intern.Table).Name -/
def Try.x64 : XCode :=
 .seq (.region [⟨some 4, .mov (.const (.string ⟨#[]⟩)), none⟩,
    ⟨some 5, .mov (.const (.bool false)), none⟩]) (
 .seq (.seq (.region [⟨some 10, .mov (.tmp 0), none⟩,
     ⟨some 11, .call (.func 66) [(.tmp 10)], none⟩,
     ⟨some 12, .mov (.tmp 11), none⟩,
     ⟨some 13, .mov (.tmp 0), some (12, false)⟩,
     ⟨some 14, .nilc (.tmp 13), some (12, false)⟩,
     ⟨some 15, .fadr (.tmp 14) 2, some (12, false)⟩,
     ⟨some 16, .load1 (.tmp 15), some (12, false)⟩,
     ⟨some 17, .mov (.tmp 1), some (12, false)⟩,
     ⟨some 18, .raw (.lookup 99 (.tmp 16) (.tmp 17) false) 4, some (12, false)⟩,
     ⟨some 19, .un .not (.tmp 18), some (12, false)⟩,
     ⟨some 20, .pick (.tmp 12) (.const (.bool true)) (.tmp 19), none⟩]) (
  .cond (.tmp 20) (
   .seq (.region [⟨some 4, .mov (.const (.string ⟨#[]⟩)), none⟩,
      ⟨some 5, .mov (.const (.bool false)), none⟩]) (
   .ret)) (
   .skip))) (
 .seq (.region [⟨some 22, .mov (.tmp 0), none⟩,
    ⟨some 23, .nilc (.tmp 22), none⟩,
    ⟨some 24, .fadr (.tmp 23) 0, none⟩,
    ⟨some 25, .load1 (.tmp 24), none⟩,
    ⟨some 26, .mov (.tmp 1), none⟩,
    ⟨some 27, .call (.func 32) [(.tmp 25), (.tmp 26)], none⟩,
    ⟨some 21, .mov (.tmp 27), none⟩,
    ⟨some 28, .ext (.tmp 21) 0, none⟩,
    ⟨some 29, .ext (.tmp 21) 1, none⟩,
    ⟨some 6, .mov (.tmp 28), none⟩,
    ⟨some 7, .mov (.tmp 29), none⟩]) (
 .seq (.region [⟨some 31, .mov (.tmp 0), none⟩,
    ⟨some 32, .nilc (.tmp 31), none⟩,
    ⟨some 33, .fadr (.tmp 32) 0, none⟩,
    ⟨some 34, .load1 (.tmp 33), none⟩,
    ⟨some 35, .mov (.tmp 1), none⟩,
    ⟨some 36, .mov (.tmp 6), none⟩,
    ⟨some 37, .bin .sub (.tmp 36) (.const (.int .i64 8)), none⟩,
    ⟨some 38, .call (.func 18) [(.tmp 34), (.tmp 35), (.const (.int .i64 8)), (.tmp 37)], none⟩,
    ⟨some 30, .mov (.tmp 38), none⟩,
    ⟨some 39, .ext (.tmp 30) 0, none⟩,
    ⟨some 40, .ext (.tmp 30) 1, none⟩,
    ⟨some 8, .mov (.tmp 39), none⟩,
    ⟨some 9, .mov (.tmp 40), none⟩]) (
 .seq (.region [⟨some 41, .mov (.tmp 8), none⟩,
    ⟨some 42, .b2s (.tmp 41), none⟩,
    ⟨some 43, .mov (.tmp 9), none⟩,
    ⟨some 44, .bin .eql (.tmp 43) (.const (.int .i64 0)), none⟩,
    ⟨some 4, .mov (.tmp 42), none⟩,
    ⟨some 5, .mov (.tmp 44), none⟩]) (
 .ret)))))
theorem Try.fx64 : FnX Try.prog 64 45 #[.tmp 4, .tmp 5] Try.x64 :=
  ⟨Try.f64, Try.func64, by kernel_rfl, by kernel_rfl, by kernel_rfl, by kernel_rfl⟩
/-- (*freshet/intern.Table).none -/
def Try.x66 : XCode :=
 .seq (.region [⟨some 2, .mov (.const (.bool false)), none⟩]) (
 .seq (.region [⟨some 3, .mov (.tmp 0), none⟩,
    ⟨some 4, .eqn 0 false (.tmp 3) (.const (.pointer none)), none⟩,
    ⟨some 5, .mov (.tmp 4), none⟩,
    ⟨some 6, .mov (.tmp 0), some (5, false)⟩,
    ⟨some 7, .nilc (.tmp 6), some (5, false)⟩,
    ⟨some 8, .fadr (.tmp 7) 0, some (5, false)⟩,
    ⟨some 9, .load1 (.tmp 8), some (5, false)⟩,
    ⟨some 10, .eqn 0 false (.tmp 9) (.const (.pointer none)), some (5, false)⟩,
    ⟨some 11, .pick (.tmp 5) (.const (.bool true)) (.tmp 10), none⟩,
    ⟨some 2, .mov (.tmp 11), none⟩]) (
 .ret))
theorem Try.fx66 : FnX Try.prog 66 12 #[.tmp 2] Try.x66 :=
  ⟨Try.f66, Try.func66, by kernel_rfl, by kernel_rfl, by kernel_rfl, by kernel_rfl⟩
/-- (*freshet/intern.Table).uses -/
def Try.x68 : XCode :=
 .seq (.region [⟨some 6, .alloc 111 [(.int .u8 0), (.int .u8 0), (.int .u8 0), (.int .u8 0), (.int .u8 0), (.int .u8 0), (.int .u8 0), (.int .u8 0)], none⟩]) (
 .seq (.seq (.region [⟨some 8, .mov (.const (.int .i64 0)), none⟩]) (
  .block 0 (
   .loop (
    .seq (.region [⟨some 9, .bin .lss (.tmp 8) (.const (.int .i64 8)), none⟩]) (
    .seq (.cond (.tmp 9) (
      .skip) (
      .exit 0)) (
    .seq (.block 1 (
      .seq (.region [⟨some 10, .mov (.tmp 8), none⟩,
         ⟨some 7, .mov (.tmp 10), none⟩]) (
      .region [⟨some 11, .mov (.tmp 7), none⟩,
        ⟨some 12, .mov (.tmp 2), none⟩,
        ⟨some 13, .mov (.tmp 7), none⟩,
        ⟨some 14, .bin .mul (.const (.int .i64 8)) (.tmp 13), none⟩,
        ⟨some 15, .bin .shr (.tmp 12) (.tmp 14), none⟩,
        ⟨some 16, .conv .u8 (.tmp 15), none⟩,
        ⟨some 17, .aadr (.tmp 6) (.tmp 11) 8 1, none⟩,
        ⟨none, .store 1 (.tmp 17) (.tmp 16), none⟩]))) (
    .region [⟨some 18, .bin .add (.tmp 8) (.const (.int .i64 1)), none⟩,
      ⟨some 8, .mov (.tmp 18), none⟩]))))))) (
 .draw (
  .q ⟨some 19, .mov (.tmp 0), none⟩ (
  .q ⟨some 20, .nilc (.tmp 19), none⟩ (
  .q ⟨some 21, .fadr (.tmp 20) 0, none⟩ (
  .q ⟨some 22, .load1 (.tmp 21), none⟩ (
  .q ⟨some 23, .mov (.tmp 1), none⟩ (
  .q ⟨some 24, .aslc 8 1 (.tmp 6) none none none, none⟩ (
  .alt ⟨some 25, .call (.func 17) [(.tmp 22), (.tmp 23), (.const (.int .i64 0)), (.tmp 24)], none⟩ false (
   .done) (.noalt))))))))))
theorem Try.fx68 : FnX Try.prog 68 26 #[] Try.x68 :=
  ⟨Try.f68, Try.func68, by kernel_rfl, by kernel_rfl, by kernel_rfl, by kernel_rfl⟩
/-- (*freshet/freshetref6.Table).find -/
def Try.x69 : XCode :=
 .seq (.region [⟨some 4, .mov (.const (.int .i64 0)), none⟩]) (
 .seq (.seq (.region [⟨some 5, .mov (.const (.int .i64 0)), none⟩]) (
  .block 0 (
   .loop (
    .seq (.seq (.region [⟨some 6, .mov (.tmp 5), none⟩,
        ⟨some 7, .mov (.tmp 0), none⟩,
        ⟨some 8, .nilc (.tmp 7), none⟩,
        ⟨some 9, .fadr (.tmp 8) 1, none⟩,
        ⟨some 10, .load1 (.tmp 9), none⟩,
        ⟨some 11, .len (.tmp 10), none⟩,
        ⟨some 12, .bin .lss (.tmp 6) (.tmp 11), none⟩]) (
     .cond (.tmp 12) (
      .skip) (
      .exit 0))) (
    .seq (.block 1 (
      .seq (.region [⟨some 15, .mov (.tmp 0), none⟩,
         ⟨some 16, .nilc (.tmp 15), none⟩,
         ⟨some 17, .fadr (.tmp 16) 1, none⟩,
         ⟨some 18, .load1 (.tmp 17), none⟩,
         ⟨some 19, .mov (.tmp 5), none⟩,
         ⟨some 20, .iadr (.tmp 18) (.tmp 19) 3, none⟩,
         ⟨some 21, .fadr (.tmp 20) 1, none⟩,
         ⟨some 22, .load1 (.tmp 21), none⟩,
         ⟨some 23, .mov (.tmp 1), none⟩,
         ⟨some 24, .bin .eql (.tmp 22) (.tmp 23), none⟩]) (
      .cond (.tmp 24) (
       .seq (.region [⟨some 25, .mov (.tmp 5), none⟩,
          ⟨some 4, .mov (.tmp 25), none⟩]) (
       .ret)) (
       .skip)))) (
    .region [⟨some 13, .mov (.tmp 5), none⟩,
      ⟨some 14, .bin .add (.tmp 13) (.const (.int .i64 1)), none⟩,
      ⟨some 5, .mov (.tmp 14), none⟩])))))) (
 .seq (.region [⟨some 4, .mov (.const (.int .i64 (-1))), none⟩]) (
 .ret)))
theorem Try.fx69 : FnX Try.prog 69 26 #[.tmp 4] Try.x69 :=
  ⟨Try.f69, Try.func69, by kernel_rfl, by kernel_rfl, by kernel_rfl, by kernel_rfl⟩
/-- (*freshet/freshetref6.Table).At -/
def Try.x70 : XCode :=
 .seq (.region [⟨some 4, .mov (.const (.int .i64 0)), none⟩]) (
 .seq (.seq (.region [⟨some 5, .mov (.const (.int .i64 0)), none⟩]) (
  .block 0 (
   .loop (
    .seq (.seq (.region [⟨some 6, .mov (.tmp 5), none⟩,
        ⟨some 7, .mov (.tmp 0), none⟩,
        ⟨some 8, .nilc (.tmp 7), none⟩,
        ⟨some 9, .fadr (.tmp 8) 1, none⟩,
        ⟨some 10, .load1 (.tmp 9), none⟩,
        ⟨some 11, .len (.tmp 10), none⟩,
        ⟨some 12, .bin .lss (.tmp 6) (.tmp 11), none⟩]) (
     .cond (.tmp 12) (
      .skip) (
      .exit 0))) (
    .seq (.block 1 (
      .seq (.region [⟨some 15, .mov (.tmp 0), none⟩,
         ⟨some 16, .nilc (.tmp 15), none⟩,
         ⟨some 17, .fadr (.tmp 16) 1, none⟩,
         ⟨some 18, .load1 (.tmp 17), none⟩,
         ⟨some 19, .mov (.tmp 5), none⟩,
         ⟨some 20, .iadr (.tmp 18) (.tmp 19) 3, none⟩,
         ⟨some 21, .fadr (.tmp 20) 0, none⟩,
         ⟨some 22, .load1 (.tmp 21), none⟩,
         ⟨some 23, .mov (.tmp 1), none⟩,
         ⟨some 24, .bin .eql (.tmp 22) (.tmp 23), none⟩]) (
      .cond (.tmp 24) (
       .seq (.region [⟨some 25, .mov (.tmp 5), none⟩,
          ⟨some 4, .mov (.tmp 25), none⟩]) (
       .ret)) (
       .skip)))) (
    .region [⟨some 13, .mov (.tmp 5), none⟩,
      ⟨some 14, .bin .add (.tmp 13) (.const (.int .i64 1)), none⟩,
      ⟨some 5, .mov (.tmp 14), none⟩])))))) (
 .seq (.region [⟨some 4, .mov (.const (.int .i64 (-1))), none⟩]) (
 .ret)))
theorem Try.fx70 : FnX Try.prog 70 26 #[.tmp 4] Try.x70 :=
  ⟨Try.f70, Try.func70, by kernel_rfl, by kernel_rfl, by kernel_rfl, by kernel_rfl⟩
end Go.Proofs.Ytkdbajfaaifkaaa
