/- The compiled code of some of the program's functions, printed by a program, and that it is what the compiler of these texts makes of them. -/
import Derived.Test.YtkdbajfaaifkaaaB1
import Derived.Test.YtkdbajfaaifkaaaProg
import Derived.KernelRfl
namespace Go.Proofs.Ytkdbajfaaifkaaa
open Go.Xs
/-- freshet/arena.Cost -/
def Try.x13 : XCode :=
 .seq (.region [⟨some 2, .mov (.const (.int .i64 0)), none⟩]) (
 .seq (.seq (.region [⟨some 4, .mov (.tmp 0), none⟩,
     ⟨some 5, .bin .lss (.tmp 4) (.const (.int .i64 0)), none⟩,
     ⟨some 6, .mov (.tmp 5), none⟩,
     ⟨some 7, .mov (.tmp 0), some (6, false)⟩,
     ⟨some 8, .bin .gtr (.tmp 7) (.const (.int .i64 4096)), some (6, false)⟩,
     ⟨some 9, .pick (.tmp 6) (.const (.bool true)) (.tmp 8), none⟩]) (
  .cond (.tmp 9) (
   .seq (.region [⟨some 2, .mov (.const (.int .i64 0)), none⟩]) (
   .ret)) (
   .skip))) (
 .seq (.region [⟨some 3, .mov (.const (.int .i64 16)), none⟩]) (
 .seq (.block 0 (
   .loop (
    .seq (.seq (.region [⟨some 10, .mov (.tmp 3), none⟩,
        ⟨some 11, .mov (.tmp 0), none⟩,
        ⟨some 12, .bin .add (.tmp 11) (.const (.int .i64 8)), none⟩,
        ⟨some 13, .bin .lss (.tmp 10) (.tmp 12), none⟩]) (
     .cond (.tmp 13) (
      .skip) (
      .exit 0))) (
    .block 1 (
     .region [⟨some 14, .mov (.tmp 3), none⟩,
       ⟨some 15, .bin .mul (.tmp 14) (.const (.int .i64 2)), none⟩,
       ⟨some 3, .mov (.tmp 15), none⟩]))))) (
 .seq (.region [⟨some 16, .mov (.tmp 3), none⟩,
    ⟨some 2, .mov (.tmp 16), none⟩]) (
 .ret)))))
theorem Try.fx13 : FnX Try.prog 13 17 #[.tmp 2] Try.x13 :=
  ⟨Try.f13, Try.func13, by kernel_rfl, by kernel_rfl, by kernel_rfl, by kernel_rfl⟩
/-- freshet/arena.New -/
def Try.x15 : XCode :=
 .seq (.region [⟨some 2, .mov (.const (.pointer none)), none⟩,
    ⟨some 3, .mov (.const (.int .i64 0)), none⟩]) (
 .seq (.seq (.region [⟨some 4, .mov (.tmp 0), none⟩,
     ⟨some 5, .bin .lss (.tmp 4) (.const (.int .i64 1024)), none⟩,
     ⟨some 6, .mov (.tmp 5), none⟩,
     ⟨some 7, .mov (.tmp 0), some (6, false)⟩,
     ⟨some 8, .bin .gtr (.tmp 7) (.const (.int .i64 1048576)), some (6, false)⟩,
     ⟨some 9, .pick (.tmp 6) (.const (.bool true)) (.tmp 8), none⟩]) (
  .cond (.tmp 9) (
   .seq (.region [⟨some 2, .mov (.const (.pointer none)), none⟩,
      ⟨some 3, .mov (.const (.int .i64 1)), none⟩]) (
   .ret)) (
   .skip))) (
 .seq (.region [⟨some 10, .mov (.tmp 0), none⟩,
    ⟨some 11, .mksl 5 1 1 [(.int .u8 0)] (.tmp 10) (.tmp 10), none⟩,
    ⟨some 12, .build [(.slice none 0 0), (.slice none 0 0), (.int .i64 0), (.int .i64 0)] [(0, 1, (.tmp 11))], none⟩,
    ⟨some 13, .box 87 (.tmp 12), none⟩,
    ⟨some 2, .mov (.tmp 13), none⟩,
    ⟨some 3, .mov (.const (.int .i64 0)), none⟩]) (
 .ret)))
theorem Try.fx15 : FnX Try.prog 15 14 #[.tmp 2, .tmp 3] Try.x15 :=
  ⟨Try.f15, Try.func15, by kernel_rfl, by kernel_rfl, by kernel_rfl, by kernel_rfl⟩
/-- (*freshet/arena.Arena).Alloc -/
def Try.x16 : XCode :=
 .seq (.region [⟨some 4, .mov (.const (.int .i64 0)), none⟩,
    ⟨some 5, .mov (.const (.int .i64 0)), none⟩]) (
 .seq (.region [⟨some 8, .mov (.tmp 1), none⟩,
    ⟨some 9, .call (.func 13) [(.tmp 8)], none⟩,
    ⟨some 6, .mov (.tmp 9), none⟩]) (
 .seq (.block 0 (
   .seq (.region [⟨some 11, .mov (.tmp 6), none⟩,
      ⟨some 12, .bin .eql (.tmp 11) (.const (.int .i64 0)), none⟩,
      ⟨some 10, .mov (.tmp 12), none⟩]) (
   .cond (.tmp 10) (
    .seq (.region [⟨some 4, .mov (.const (.int .i64 0)), none⟩,
       ⟨some 5, .mov (.const (.int .i64 3)), none⟩]) (
    .ret)) (
    .seq (.region [⟨some 14, .mov (.tmp 6), none⟩,
       ⟨some 15, .mov (.tmp 0), none⟩,
       ⟨some 16, .call (.func 30) [(.tmp 15)], none⟩,
       ⟨some 17, .bin .gtr (.tmp 14) (.tmp 16), none⟩,
       ⟨some 13, .mov (.tmp 17), none⟩]) (
    .cond (.tmp 13) (
     .seq (.region [⟨some 4, .mov (.const (.int .i64 0)), none⟩,
        ⟨some 5, .mov (.const (.int .i64 4)), none⟩]) (
     .ret)) (
     .seq (.draw (
       .q ⟨some 19, .mov (.tmp 0), none⟩ (
       .q ⟨some 20, .nilc (.tmp 19), none⟩ (
       .q ⟨some 21, .fadr (.tmp 20) 3, none⟩ (
       .q ⟨some 22, .load1 (.tmp 21), none⟩ (
       .q ⟨some 23, .mov (.tmp 6), none⟩ (
       .q ⟨some 24, .bin .add (.tmp 22) (.tmp 23), none⟩ (
       .q ⟨some 25, .mov (.tmp 0), none⟩ (
       .q ⟨some 26, .nilc (.tmp 25), none⟩ (
       .q ⟨some 27, .fadr (.tmp 26) 0, none⟩ (
       .q ⟨some 28, .load1 (.tmp 27), none⟩ (
       .q ⟨some 29, .len (.tmp 28), none⟩ (
       .q ⟨some 30, .bin .gtr (.tmp 24) (.tmp 29), none⟩ (
       .q ⟨some 18, .mov (.tmp 30), none⟩ (
       .done))))))))))))))) (
     .cond (.tmp 18) (
      .region [⟨some 31, .mov (.tmp 0), none⟩,
        ⟨some 32, .call (.func 26) [(.tmp 31)], none⟩]) (
      .skip)))))))) (
 .seq (.region [⟨some 33, .mov (.tmp 0), none⟩,
    ⟨some 34, .call (.func 50) [(.tmp 33)], none⟩,
    ⟨some 7, .mov (.tmp 34), none⟩]) (
 .seq (.seq (.region [⟨some 35, .mov (.tmp 7), none⟩,
     ⟨some 36, .mov (.tmp 0), none⟩,
     ⟨some 37, .nilc (.tmp 36), none⟩,
     ⟨some 38, .fadr (.tmp 37) 1, none⟩,
     ⟨some 39, .load1 (.tmp 38), none⟩,
     ⟨some 40, .len (.tmp 39), none⟩,
     ⟨some 41, .bin .gtr (.tmp 35) (.tmp 40), none⟩]) (
  .cond (.tmp 41) (
   .region [⟨some 42, .mov (.tmp 0), none⟩,
     ⟨some 43, .mov (.tmp 0), none⟩,
     ⟨some 44, .nilc (.tmp 43), none⟩,
     ⟨some 45, .fadr (.tmp 44) 1, none⟩,
     ⟨some 46, .load1 (.tmp 45), none⟩,
     ⟨some 47, .build [(.int .i64 0), (.int .i64 0)] [], none⟩,
     ⟨some 48, .bsl 89 1 2 [(.int .i64 0), (.int .i64 0)] [(0, (.tmp 47))], none⟩,
     ⟨some 49, .app 89 2 16 [(.int .i64 0), (.int .i64 0)] (.tmp 46) (.tmp 48), none⟩,
     ⟨some 50, .nilc (.tmp 42), none⟩,
     ⟨some 51, .fadr (.tmp 50) 1, none⟩,
     ⟨none, .store 1 (.tmp 51) (.tmp 49), none⟩]) (
   .skip))) (
 .seq (.region [⟨some 52, .mov (.tmp 0), none⟩,
    ⟨some 53, .mov (.tmp 7), none⟩,
    ⟨some 54, .mov (.tmp 1), none⟩,
    ⟨some 55, .call (.func 51) [(.tmp 52), (.tmp 53), (.tmp 54)], none⟩]) (
 .seq (.region [⟨some 56, .mov (.tmp 0), none⟩,
    ⟨some 57, .mov (.tmp 7), none⟩,
    ⟨some 58, .call (.func 52) [(.tmp 56), (.tmp 57)], none⟩,
    ⟨none, .clr [(.int .u8 0)] (.tmp 58), none⟩]) (
 .seq (.region [⟨some 59, .mov (.tmp 7), none⟩,
    ⟨some 4, .mov (.tmp 59), none⟩,
    ⟨some 5, .mov (.const (.int .i64 0)), none⟩]) (
 .ret))))))))
theorem Try.fx16 : FnX Try.prog 16 60 #[.tmp 4, .tmp 5] Try.x16 :=
  ⟨Try.f16, Try.func16, by kernel_rfl, by kernel_rfl, by kernel_rfl, by kernel_rfl⟩
/-- (*freshet/arena.Arena).Write -/
def Try.x17 : XCode :=
 .seq (.region [⟨some 8, .mov (.const (.int .i64 0)), none⟩]) (
 .seq (.region [⟨some 12, .mov (.tmp 0), none⟩,
    ⟨some 13, .mov (.tmp 1), none⟩,
    ⟨some 14, .mov (.tmp 2), none⟩,
    ⟨some 15, .mov (.tmp 3), none⟩,
    ⟨some 16, .len (.tmp 15), none⟩,
    ⟨some 17, .call (.func 53) [(.tmp 12), (.tmp 13), (.tmp 14), (.tmp 16)], none⟩,
    ⟨some 11, .mov (.tmp 17), none⟩,
    ⟨some 18, .ext (.tmp 11) 0, none⟩,
    ⟨some 19, .ext (.tmp 11) 1, none⟩,
    ⟨some 9, .mov (.tmp 18), none⟩,
    ⟨some 10, .mov (.tmp 19), none⟩]) (
 .seq (.region [⟨some 20, .mov (.tmp 9), none⟩,
    ⟨some 21, .mov (.tmp 3), none⟩,
    ⟨some 22, .copy 1 (.tmp 20) (.tmp 21), none⟩]) (
 .seq (.region [⟨some 23, .mov (.tmp 10), none⟩,
    ⟨some 8, .mov (.tmp 23), none⟩]) (
 .ret))))
theorem Try.fx17 : FnX Try.prog 17 24 #[.tmp 8] Try.x17 :=
  ⟨Try.f17, Try.func17, by kernel_rfl, by kernel_rfl, by kernel_rfl, by kernel_rfl⟩
/-- (*freshet/arena.Arena).Read -/
def Try.x18 : XCode :=
 .seq (.region [⟨some 8, .mov (.const (.slice none 0 0)), none⟩,
    ⟨some 9, .mov (.const (.int .i64 0)), none⟩]) (
 .seq (.region [⟨some 13, .mov (.tmp 0), none⟩,
    ⟨some 14, .mov (.tmp 1), none⟩,
    ⟨some 15, .mov (.tmp 2), none⟩,
    ⟨some 16, .mov (.tmp 3), none⟩,
    ⟨some 17, .call (.func 53) [(.tmp 13), (.tmp 14), (.tmp 15), (.tmp 16)], none⟩,
    ⟨some 12, .mov (.tmp 17), none⟩,
    ⟨some 18, .ext (.tmp 12) 0, none⟩,
    ⟨some 19, .ext (.tmp 12) 1, none⟩,
    ⟨some 10, .mov (.tmp 18), none⟩,
    ⟨some 11, .mov (.tmp 19), none⟩]) (
 .seq (.region [⟨some 20, .mov (.tmp 10), none⟩,
    ⟨some 21, .call (.func 54) [(.tmp 20)], none⟩,
    ⟨some 22, .mov (.tmp 11), none⟩,
    ⟨some 8, .mov (.tmp 21), none⟩,
    ⟨some 9, .mov (.tmp 22), none⟩]) (
 .ret)))
theorem Try.fx18 : FnX Try.prog 18 23 #[.tmp 8, .tmp 9] Try.x18 :=
  ⟨Try.f18, Try.func18, by kernel_rfl, by kernel_rfl, by kernel_rfl, by kernel_rfl⟩
/-- (*freshet/arena.Arena).Free -/
def Try.x22 : XCode :=
 .seq (.region [⟨some 4, .mov (.const (.int .i64 0)), none⟩]) (
 .seq (.seq (.region [⟨some 5, .mov (.tmp 0), none⟩,
     ⟨some 6, .mov (.tmp 1), none⟩,
     ⟨some 7, .call (.func 56) [(.tmp 5), (.tmp 6)], none⟩,
     ⟨some 8, .un .not (.tmp 7), none⟩]) (
  .cond (.tmp 8) (
   .seq (.region [⟨some 4, .mov (.const (.int .i64 5)), none⟩]) (
   .ret)) (
   .skip))) (
 .seq (.draw (
   .q ⟨some 9, .mov (.tmp 0), none⟩ (
   .q ⟨some 10, .nilc (.tmp 9), none⟩ (
   .q ⟨some 11, .fadr (.tmp 10) 2, none⟩ (
   .q ⟨some 12, .load1 (.tmp 11), none⟩ (
   .q ⟨some 13, .mov (.tmp 0), none⟩ (
   .q ⟨some 14, .nilc (.tmp 13), none⟩ (
   .q ⟨some 15, .fadr (.tmp 14) 1, none⟩ (
   .q ⟨some 16, .load1 (.tmp 15), none⟩ (
   .q ⟨some 17, .mov (.tmp 1), none⟩ (
   .q ⟨some 18, .bin .sub (.tmp 17) (.const (.int .i64 1)), none⟩ (
   .q ⟨some 19, .iadr (.tmp 16) (.tmp 18) 2, none⟩ (
   .q ⟨some 20, .fadr (.tmp 19) 1, none⟩ (
   .q ⟨some 21, .load1 (.tmp 20), none⟩ (
   .alt ⟨some 22, .call (.func 13) [(.tmp 21)], none⟩ true (
    .q ⟨some 23, .bin .sub (.tmp 12) (.tmp 22), none⟩ (
    .q ⟨some 24, .nilc (.tmp 9), none⟩ (
    .q ⟨some 25, .fadr (.tmp 24) 2, none⟩ (
    .alt ⟨none, .store 1 (.tmp 25) (.tmp 23), none⟩ false (
     .done) (.noalt))))) (.noalt)))))))))))))))) (
 .seq (.region [⟨some 26, .mov (.tmp 0), none⟩,
    ⟨some 27, .nilc (.tmp 26), none⟩,
    ⟨some 28, .fadr (.tmp 27) 1, none⟩,
    ⟨some 29, .load1 (.tmp 28), none⟩,
    ⟨some 30, .mov (.tmp 1), none⟩,
    ⟨some 31, .bin .sub (.tmp 30) (.const (.int .i64 1)), none⟩,
    ⟨some 32, .build [(.int .i64 0), (.int .i64 0)] [], none⟩,
    ⟨some 33, .iadr (.tmp 29) (.tmp 31) 2, none⟩,
    ⟨none, .store 2 (.tmp 33) (.tmp 32), none⟩]) (
 .seq (.region [⟨some 4, .mov (.const (.int .i64 0)), none⟩]) (
 .ret)))))
theorem Try.fx22 : FnX Try.prog 22 34 #[.tmp 4] Try.x22 :=
  ⟨Try.f22, Try.func22, by kernel_rfl, by kernel_rfl, by kernel_rfl, by kernel_rfl⟩
/-- (*freshet/arena.Arena).Compact -/
def Try.x26 : XCode :=
 .seq (.region [⟨some 1, .box 25 (.tmp 0), none⟩,
    ⟨some 2, .mov (.const (.int .i64 0)), none⟩]) (
 .seq (.seq (.region [⟨some 8, .load1 (.tmp 1), none⟩,
     ⟨some 9, .eqn 0 false (.tmp 8) (.const (.pointer none)), none⟩]) (
  .cond (.tmp 9) (
   .seq (.region [⟨some 2, .mov (.const (.int .i64 0)), none⟩]) (
   .ret)) (
   .skip))) (
 .seq (.region [⟨some 3, .alloc 55 [(.slice none 0 0)], none⟩]) (
 .seq (.seq (.region [⟨some 10, .load1 (.tmp 1), none⟩,
     ⟨some 11, .call (.func 58) [(.tmp 10)], none⟩]) (
  .block 0 (
   .range (.tmp 11) [12, 13] (
    .region [⟨some 4, .mov (.tmp 12), none⟩]) (
    .block 1 (
     .region [⟨some 14, .load1 (.tmp 3), none⟩,
       ⟨some 15, .mov (.tmp 4), none⟩,
       ⟨some 16, .bsl 3 1 1 [(.int .i64 0)] [(0, (.tmp 15))], none⟩,
       ⟨some 17, .app 3 1 8 [(.int .i64 0)] (.tmp 14) (.tmp 16), none⟩,
       ⟨none, .store 1 (.tmp 3) (.tmp 17), none⟩]))))) (
 .seq (.region [⟨some 18, .load1 (.tmp 3), none⟩,
    ⟨some 19, .mkf (.func 60) [] [(.tmp 1)], none⟩,
    ⟨some 20, .call (.func 59) [(.tmp 18), (.tmp 19)], none⟩]) (
 .seq (.draw (
   .q ⟨some 21, .load1 (.tmp 1), none⟩ (
   .q ⟨some 22, .load1 (.tmp 1), none⟩ (
   .q ⟨some 23, .nilc (.tmp 21), none⟩ (
   .q ⟨some 24, .fadr (.tmp 23) 3, none⟩ (
   .alt ⟨none, .store 1 (.tmp 24) (.const (.int .i64 0)), none⟩ true (
    .q ⟨some 25, .nilc (.tmp 22), none⟩ (
    .q ⟨some 26, .fadr (.tmp 25) 2, none⟩ (
    .alt ⟨none, .store 1 (.tmp 26) (.const (.int .i64 0)), none⟩ false (
     .done) (.noalt)))) (.noalt))))))) (
 .seq (.seq (.region [⟨some 27, .load1 (.tmp 3), none⟩,
     ⟨some 28, .len (.tmp 27), none⟩,
     ⟨some 29, .mov (.const (.int .i64 0)), none⟩]) (
  .block 2 (
   .loop (
    .seq (.region [⟨some 30, .bin .lss (.tmp 29) (.tmp 28), none⟩]) (
    .seq (.cond (.tmp 30) (
      .skip) (
      .exit 2)) (
    .seq (.block 3 (
      .seq (.region [⟨some 31, .iadr (.tmp 27) (.tmp 29) 1, none⟩,
         ⟨some 32, .load1 (.tmp 31), none⟩,
         ⟨some 6, .mov (.tmp 32), none⟩]) (
      .seq (.region [⟨some 33, .load1 (.tmp 1), none⟩,
         ⟨some 34, .mov (.tmp 6), none⟩,
         ⟨some 35, .call (.func 52) [(.tmp 33), (.tmp 34)], none⟩,
         ⟨some 36, .call (.func 54) [(.tmp 35)], none⟩,
         ⟨some 7, .mov (.tmp 36), none⟩]) (
      .seq (.region [⟨some 37, .load1 (.tmp 1), none⟩,
         ⟨some 38, .mov (.tmp 6), none⟩,
         ⟨some 39, .mov (.tmp 7), none⟩,
         ⟨some 40, .len (.tmp 39), none⟩,
         ⟨some 41, .call (.func 51) [(.tmp 37), (.tmp 38), (.tmp 40)], none⟩]) (
      .region [⟨some 42, .load1 (.tmp 1), none⟩,
        ⟨some 43, .mov (.tmp 6), none⟩,
        ⟨some 44, .call (.func 52) [(.tmp 42), (.tmp 43)], none⟩,
        ⟨some 45, .mov (.tmp 7), none⟩,
        ⟨some 46, .copy 1 (.tmp 44) (.tmp 45), none⟩]))))) (
    .region [⟨some 47, .bin .add (.tmp 29) (.const (.int .i64 1)), none⟩,
      ⟨some 29, .mov (.tmp 47), none⟩]))))))) (
 .seq (.region [⟨some 48, .load1 (.tmp 1), none⟩,
    ⟨some 49, .call (.func 30) [(.tmp 48)], none⟩,
    ⟨some 2, .mov (.tmp 49), none⟩]) (
 .ret))))))))
theorem Try.fx26 : FnX Try.prog 26 50 #[.tmp 2] Try.x26 :=
  ⟨Try.f26, Try.func26, by kernel_rfl, by kernel_rfl, by kernel_rfl, by kernel_rfl⟩
/-- (*freshet/arena.Arena).Left -/
def Try.x30 : XCode :=
 .seq (.region [⟨some 2, .mov (.const (.int .i64 0)), none⟩]) (
 .seq (.region [⟨some 3, .mov (.tmp 0), none⟩,
    ⟨some 4, .call (.func 63) [(.tmp 3)], none⟩,
    ⟨some 5, .mov (.tmp 0), none⟩,
    ⟨some 6, .call (.func 31) [(.tmp 5)], none⟩,
    ⟨some 7, .bin .sub (.tmp 4) (.tmp 6), none⟩,
    ⟨some 2, .mov (.tmp 7), none⟩]) (
 .ret))
theorem Try.fx30 : FnX Try.prog 30 8 #[.tmp 2] Try.x30 :=
  ⟨Try.f30, Try.func30, by kernel_rfl, by kernel_rfl, by kernel_rfl, by kernel_rfl⟩
/-- (*freshet/arena.Arena).Used -/
def Try.x31 : XCode :=
 .seq (.region [⟨some 2, .mov (.const (.int .i64 0)), none⟩]) (
 .seq (.seq (.region [⟨some 3, .mov (.tmp 0), none⟩,
     ⟨some 4, .eqn 0 false (.tmp 3) (.const (.pointer none)), none⟩]) (
  .cond (.tmp 4) (
   .seq (.region [⟨some 2, .mov (.const (.int .i64 0)), none⟩]) (
   .ret)) (
   .skip))) (
 .seq (.region [⟨some 5, .mov (.tmp 0), none⟩,
    ⟨some 6, .nilc (.tmp 5), none⟩,
    ⟨some 7, .fadr (.tmp 6) 2, none⟩,
    ⟨some 8, .load1 (.tmp 7), none⟩,
    ⟨some 2, .mov (.tmp 8), none⟩]) (
 .ret)))
theorem Try.fx31 : FnX Try.prog 31 9 #[.tmp 2] Try.x31 :=
  ⟨Try.f31, Try.func31, by kernel_rfl, by kernel_rfl, by kernel_rfl, by kernel_rfl⟩
/-- (*freshet/arena.Arena).Size -/
def Try.x32 : XCode :=
 .seq (.region [⟨some 4, .mov (.const (.int .i64 0)), none⟩,
    ⟨some 5, .mov (.const (.bool false)), none⟩]) (
 .seq (.seq (.region [⟨some 6, .mov (.tmp 0), none⟩,
     ⟨some 7, .mov (.tmp 1), none⟩,
     ⟨some 8, .call (.func 56) [(.tmp 6), (.tmp 7)], none⟩,
     ⟨some 9, .un .not (.tmp 8), none⟩]) (
  .cond (.tmp 9) (
   .seq (.region [⟨some 4, .mov (.const (.int .i64 0)), none⟩,
      ⟨some 5, .mov (.const (.bool false)), none⟩]) (
   .ret)) (
   .skip))) (
 .seq (.region [⟨some 10, .mov (.tmp 0), none⟩,
    ⟨some 11, .nilc (.tmp 10), none⟩,
    ⟨some 12, .fadr (.tmp 11) 1, none⟩,
    ⟨some 13, .load1 (.tmp 12), none⟩,
    ⟨some 14, .mov (.tmp 1), none⟩,
    ⟨some 15, .bin .sub (.tmp 14) (.const (.int .i64 1)), none⟩,
    ⟨some 16, .iadr (.tmp 13) (.tmp 15) 2, none⟩,
    ⟨some 17, .fadr (.tmp 16) 1, none⟩,
    ⟨some 18, .load1 (.tmp 17), none⟩,
    ⟨some 4, .mov (.tmp 18), none⟩,
    ⟨some 5, .mov (.const (.bool true)), none⟩]) (
 .ret)))
theorem Try.fx32 : FnX Try.prog 32 19 #[.tmp 4, .tmp 5] Try.x32 :=
  ⟨Try.f32, Try.func32, by kernel_rfl, by kernel_rfl, by kernel_rfl, by kernel_rfl⟩
/-- (*freshet/arena.Arena).handle -/
def Try.x50 : XCode :=
 .seq (.region [⟨some 2, .mov (.const (.int .i64 0)), none⟩]) (
 .seq (.region [⟨some 3, .mov (.const (.int .i64 1)), none⟩]) (
 .seq (.block 0 (
   .loop (
    .seq (.seq (.region [⟨some 4, .mov (.tmp 0), none⟩,
        ⟨some 5, .mov (.tmp 3), none⟩,
        ⟨some 6, .call (.func 56) [(.tmp 4), (.tmp 5)], none⟩]) (
     .cond (.tmp 6) (
      .skip) (
      .exit 0))) (
    .block 1 (
     .region [⟨some 7, .mov (.tmp 3), none⟩,
       ⟨some 8, .bin .add (.tmp 7) (.const (.int .i64 1)), none⟩,
       ⟨some 3, .mov (.tmp 8), none⟩]))))) (
 .seq (.region [⟨some 9, .mov (.tmp 3), none⟩,
    ⟨some 2, .mov (.tmp 9), none⟩]) (
 .ret))))
theorem Try.fx50 : FnX Try.prog 50 10 #[.tmp 2] Try.x50 :=
  ⟨Try.f50, Try.func50, by kernel_rfl, by kernel_rfl, by kernel_rfl, by kernel_rfl⟩
/-- (*freshet/arena.Arena).put -/
def Try.x51 : XCode :=
 .seq (.draw (
   .q ⟨some 7, .mov (.tmp 0), none⟩ (
   .q ⟨some 8, .nilc (.tmp 7), none⟩ (
   .q ⟨some 9, .fadr (.tmp 8) 1, none⟩ (
   .q ⟨some 10, .load1 (.tmp 9), none⟩ (
   .q ⟨some 11, .mov (.tmp 1), none⟩ (
   .q ⟨some 12, .bin .sub (.tmp 11) (.const (.int .i64 1)), none⟩ (
   .q ⟨some 13, .mov (.tmp 0), none⟩ (
   .q ⟨some 14, .nilc (.tmp 13), none⟩ (
   .q ⟨some 15, .fadr (.tmp 14) 3, none⟩ (
   .q ⟨some 16, .load1 (.tmp 15), none⟩ (
   .q ⟨some 17, .bin .add (.tmp 16) (.const (.int .i64 8)), none⟩ (
   .q ⟨some 18, .mov (.tmp 2), none⟩ (
   .q ⟨some 19, .build [(.int .i64 0), (.int .i64 0)] [(0, 1, (.tmp 17)), (1, 1, (.tmp 18))], none⟩ (
   .q ⟨some 20, .iadr (.tmp 10) (.tmp 12) 2, none⟩ (
   .alt ⟨none, .store 2 (.tmp 20) (.tmp 19), none⟩ false (
    .done) (.noalt))))))))))))))))) (
 .seq (.seq (.region [⟨some 21, .mov (.const (.int .i64 0)), none⟩]) (
  .block 0 (
   .loop (
    .seq (.region [⟨some 22, .bin .lss (.tmp 21) (.const (.int .i64 4)), none⟩]) (
    .seq (.cond (.tmp 22) (
      .skip) (
      .exit 0)) (
    .seq (.block 1 (
      .seq (.region [⟨some 23, .mov (.tmp 21), none⟩,
         ⟨some 6, .mov (.tmp 23), none⟩]) (
      .draw (
       .q ⟨some 24, .mov (.tmp 0), none⟩ (
       .q ⟨some 25, .nilc (.tmp 24), none⟩ (
       .q ⟨some 26, .fadr (.tmp 25) 0, none⟩ (
       .q ⟨some 27, .load1 (.tmp 26), none⟩ (
       .q ⟨some 28, .mov (.tmp 0), none⟩ (
       .q ⟨some 29, .nilc (.tmp 28), none⟩ (
       .q ⟨some 30, .fadr (.tmp 29) 3, none⟩ (
       .q ⟨some 31, .load1 (.tmp 30), none⟩ (
       .q ⟨some 32, .mov (.tmp 6), none⟩ (
       .q ⟨some 33, .bin .add (.tmp 31) (.tmp 32), none⟩ (
       .q ⟨some 34, .mov (.tmp 0), none⟩ (
       .q ⟨some 35, .nilc (.tmp 34), none⟩ (
       .q ⟨some 36, .fadr (.tmp 35) 0, none⟩ (
       .q ⟨some 37, .load1 (.tmp 36), none⟩ (
       .q ⟨some 38, .mov (.tmp 0), none⟩ (
       .q ⟨some 39, .nilc (.tmp 38), none⟩ (
       .q ⟨some 40, .fadr (.tmp 39) 3, none⟩ (
       .q ⟨some 41, .load1 (.tmp 40), none⟩ (
       .q ⟨some 42, .bin .add (.tmp 41) (.const (.int .i64 4)), none⟩ (
       .q ⟨some 43, .mov (.tmp 6), none⟩ (
       .q ⟨some 44, .bin .add (.tmp 42) (.tmp 43), none⟩ (
       .q ⟨some 45, .mov (.tmp 1), none⟩ (
       .q ⟨some 46, .mov (.tmp 6), none⟩ (
       .q ⟨some 47, .bin .mul (.const (.int .i64 8)) (.tmp 46), none⟩ (
       .q ⟨some 48, .bin .shr (.tmp 45) (.tmp 47), none⟩ (
       .q ⟨some 49, .conv .u8 (.tmp 48), none⟩ (
       .q ⟨some 50, .mov (.tmp 2), none⟩ (
       .q ⟨some 51, .mov (.tmp 6), none⟩ (
       .q ⟨some 52, .bin .mul (.const (.int .i64 8)) (.tmp 51), none⟩ (
       .q ⟨some 53, .bin .shr (.tmp 50) (.tmp 52), none⟩ (
       .q ⟨some 54, .conv .u8 (.tmp 53), none⟩ (
       .q ⟨some 55, .iadr (.tmp 27) (.tmp 33) 1, none⟩ (
       .alt ⟨none, .store 1 (.tmp 55) (.tmp 49), none⟩ false (
        .q ⟨some 56, .iadr (.tmp 37) (.tmp 44) 1, none⟩ (
        .alt ⟨none, .store 1 (.tmp 56) (.tmp 54), none⟩ false (
         .done) (.noalt))) (.noalt))))))))))))))))))))))))))))))))))))) (
    .region [⟨some 57, .bin .add (.tmp 21) (.const (.int .i64 1)), none⟩,
      ⟨some 21, .mov (.tmp 57), none⟩]))))))) (
 .seq (.draw (
   .q ⟨some 58, .mov (.tmp 0), none⟩ (
   .q ⟨some 59, .nilc (.tmp 58), none⟩ (
   .q ⟨some 60, .fadr (.tmp 59) 3, none⟩ (
   .q ⟨some 61, .load1 (.tmp 60), none⟩ (
   .q ⟨some 62, .mov (.tmp 2), none⟩ (
   .alt ⟨some 63, .call (.func 13) [(.tmp 62)], none⟩ true (
    .q ⟨some 64, .bin .add (.tmp 61) (.tmp 63), none⟩ (
    .q ⟨some 65, .nilc (.tmp 58), none⟩ (
    .q ⟨some 66, .fadr (.tmp 65) 3, none⟩ (
    .alt ⟨none, .store 1 (.tmp 66) (.tmp 64), none⟩ false (
     .done) (.noalt))))) (.noalt)))))))) (
 .draw (
  .q ⟨some 67, .mov (.tmp 0), none⟩ (
  .q ⟨some 68, .nilc (.tmp 67), none⟩ (
  .q ⟨some 69, .fadr (.tmp 68) 2, none⟩ (
  .q ⟨some 70, .load1 (.tmp 69), none⟩ (
  .q ⟨some 71, .mov (.tmp 2), none⟩ (
  .alt ⟨some 72, .call (.func 13) [(.tmp 71)], none⟩ true (
   .q ⟨some 73, .bin .add (.tmp 70) (.tmp 72), none⟩ (
   .q ⟨some 74, .nilc (.tmp 67), none⟩ (
   .q ⟨some 75, .fadr (.tmp 74) 2, none⟩ (
   .alt ⟨none, .store 1 (.tmp 75) (.tmp 73), none⟩ false (
    .done) (.noalt))))) (.noalt))))))))))
theorem Try.fx51 : FnX Try.prog 51 76 #[] Try.x51 :=
  ⟨Try.f51, Try.func51, by kernel_rfl, by kernel_rfl, by kernel_rfl, by kernel_rfl⟩
/-- (*freshet/arena.Arena).data -/
def Try.x52 : XCode :=
 .seq (.region [⟨some 4, .mov (.const (.slice none 0 0)), none⟩]) (
 .seq (.region [⟨some 6, .mov (.tmp 0), none⟩,
    ⟨some 7, .nilc (.tmp 6), none⟩,
    ⟨some 8, .fadr (.tmp 7) 1, none⟩,
    ⟨some 9, .load1 (.tmp 8), none⟩,
    ⟨some 10, .mov (.tmp 1), none⟩,
    ⟨some 11, .bin .sub (.tmp 10) (.const (.int .i64 1)), none⟩,
    ⟨some 12, .iadr (.tmp 9) (.tmp 11) 2, none⟩,
    ⟨some 13, .loadN 2 (.tmp 12), none⟩,
    ⟨some 5, .alloc 89 [(.int .i64 0), (.int .i64 0)], none⟩,
    ⟨none, .store 2 (.tmp 5) (.tmp 13), none⟩]) (
 .seq (.draw (
   .q ⟨some 14, .mov (.tmp 0), none⟩ (
   .q ⟨some 15, .nilc (.tmp 14), none⟩ (
   .q ⟨some 16, .fadr (.tmp 15) 0, none⟩ (
   .q ⟨some 17, .load1 (.tmp 16), none⟩ (
   .q ⟨some 18, .fadr (.tmp 5) 0, none⟩ (
   .q ⟨some 19, .load1 (.tmp 18), none⟩ (
   .q ⟨some 20, .fadr (.tmp 5) 0, none⟩ (
   .q ⟨some 21, .load1 (.tmp 20), none⟩ (
   .q ⟨some 22, .fadr (.tmp 5) 1, none⟩ (
   .q ⟨some 23, .load1 (.tmp 22), none⟩ (
   .q ⟨some 24, .bin .add (.tmp 21) (.tmp 23), none⟩ (
   .q ⟨some 25, .fadr (.tmp 5) 0, none⟩ (
   .q ⟨some 26, .load1 (.tmp 25), none⟩ (
   .q ⟨some 27, .fadr (.tmp 5) 1, none⟩ (
   .q ⟨some 28, .load1 (.tmp 27), none⟩ (
   .q ⟨some 29, .bin .add (.tmp 26) (.tmp 28), none⟩ (
   .q ⟨some 30, .slc 1 (.tmp 17) (some (.tmp 19)) (some (.tmp 24)) (some (.tmp 29)), none⟩ (
   .q ⟨some 4, .mov (.tmp 30), none⟩ (
   .done)))))))))))))))))))) (
 .ret)))
theorem Try.fx52 : FnX Try.prog 52 31 #[.tmp 4] Try.x52 :=
  ⟨Try.f52, Try.func52, by kernel_rfl, by kernel_rfl, by kernel_rfl, by kernel_rfl⟩
/-- (*freshet/arena.Arena).part -/
def Try.x53 : XCode :=
 .seq (.region [⟨some 8, .mov (.const (.slice none 0 0)), none⟩,
    ⟨some 9, .mov (.const (.int .i64 0)), none⟩]) (
 .seq (.seq (.region [⟨some 11, .mov (.tmp 0), none⟩,
     ⟨some 12, .mov (.tmp 1), none⟩,
     ⟨some 13, .call (.func 56) [(.tmp 11), (.tmp 12)], none⟩,
     ⟨some 14, .un .not (.tmp 13), none⟩]) (
  .cond (.tmp 14) (
   .seq (.region [⟨some 8, .mov (.const (.slice none 0 0)), none⟩,
      ⟨some 9, .mov (.const (.int .i64 5)), none⟩]) (
   .ret)) (
   .skip))) (
 .seq (.region [⟨some 15, .mov (.tmp 0), none⟩,
    ⟨some 16, .mov (.tmp 1), none⟩,
    ⟨some 17, .call (.func 52) [(.tmp 15), (.tmp 16)], none⟩,
    ⟨some 10, .mov (.tmp 17), none⟩]) (
 .seq (.seq (.region [⟨some 18, .mov (.tmp 2), none⟩,
     ⟨some 19, .bin .lss (.tmp 18) (.const (.int .i64 0)), none⟩,
     ⟨some 20, .mov (.tmp 19), none⟩,
     ⟨some 21, .mov (.tmp 3), some (20, false)⟩,
     ⟨some 22, .bin .lss (.tmp 21) (.const (.int .i64 0)), some (20, false)⟩,
     ⟨some 23, .pick (.tmp 20) (.const (.bool true)) (.tmp 22), none⟩,
     ⟨some 24, .mov (.tmp 23), none⟩,
     ⟨some 25, .mov (.tmp 3), some (24, false)⟩,
     ⟨some 26, .mov (.tmp 10), some (24, false)⟩,
     ⟨some 27, .len (.tmp 26), some (24, false)⟩,
     ⟨some 28, .bin .gtr (.tmp 25) (.tmp 27), some (24, false)⟩,
     ⟨some 29, .pick (.tmp 24) (.const (.bool true)) (.tmp 28), none⟩,
     ⟨some 30, .mov (.tmp 29), none⟩,
     ⟨some 31, .mov (.tmp 2), some (30, false)⟩,
     ⟨some 32, .mov (.tmp 10), some (30, false)⟩,
     ⟨some 33, .len (.tmp 32), some (30, false)⟩,
     ⟨some 34, .mov (.tmp 3), some (30, false)⟩,
     ⟨some 35, .bin .sub (.tmp 33) (.tmp 34), some (30, false)⟩,
     ⟨some 36, .bin .gtr (.tmp 31) (.tmp 35), some (30, false)⟩,
     ⟨some 37, .pick (.tmp 30) (.const (.bool true)) (.tmp 36), none⟩]) (
  .cond (.tmp 37) (
   .seq (.region [⟨some 8, .mov (.const (.slice none 0 0)), none⟩,
      ⟨some 9, .mov (.const (.int .i64 1)), none⟩]) (
   .ret)) (
   .skip))) (
 .seq (.region [⟨some 38, .mov (.tmp 10), none⟩,
    ⟨some 39, .mov (.tmp 2), none⟩,
    ⟨some 40, .mov (.tmp 2), none⟩,
    ⟨some 41, .mov (.tmp 3), none⟩,
    ⟨some 42, .bin .add (.tmp 40) (.tmp 41), none⟩,
    ⟨some 43, .slc 1 (.tmp 38) (some (.tmp 39)) (some (.tmp 42)) none, none⟩,
    ⟨some 8, .mov (.tmp 43), none⟩,
    ⟨some 9, .mov (.const (.int .i64 0)), none⟩]) (
 .ret)))))
theorem Try.fx53 : FnX Try.prog 53 44 #[.tmp 8, .tmp 9] Try.x53 :=
  ⟨Try.f53, Try.func53, by kernel_rfl, by kernel_rfl, by kernel_rfl, by kernel_rfl⟩
/-- (*freshet/arena.Arena).there -/
def Try.x56 : XCode :=
 .seq (.region [⟨some 4, .mov (.const (.bool false)), none⟩]) (
 .seq (.region [⟨some 5, .mov (.tmp 0), none⟩,
    ⟨some 6, .eqn 0 true (.tmp 5) (.const (.pointer none)), none⟩,
    ⟨some 7, .mov (.tmp 6), none⟩,
    ⟨some 8, .mov (.tmp 1), some (7, true)⟩,
    ⟨some 9, .bin .geq (.tmp 8) (.const (.int .i64 1)), some (7, true)⟩,
    ⟨some 10, .pick (.tmp 7) (.tmp 9) (.const (.bool false)), none⟩,
    ⟨some 11, .mov (.tmp 10), none⟩,
    ⟨some 12, .mov (.tmp 1), some (11, true)⟩,
    ⟨some 13, .mov (.tmp 0), some (11, true)⟩,
    ⟨some 14, .nilc (.tmp 13), some (11, true)⟩,
    ⟨some 15, .fadr (.tmp 14) 1, some (11, true)⟩,
    ⟨some 16, .load1 (.tmp 15), some (11, true)⟩,
    ⟨some 17, .len (.tmp 16), some (11, true)⟩,
    ⟨some 18, .bin .leq (.tmp 12) (.tmp 17), some (11, true)⟩,
    ⟨some 19, .pick (.tmp 11) (.tmp 18) (.const (.bool false)), none⟩,
    ⟨some 20, .mov (.tmp 19), none⟩,
    ⟨some 21, .mov (.tmp 0), some (20, true)⟩,
    ⟨some 22, .nilc (.tmp 21), some (20, true)⟩,
    ⟨some 23, .fadr (.tmp 22) 1, some (20, true)⟩,
    ⟨some 24, .load1 (.tmp 23), some (20, true)⟩,
    ⟨some 25, .mov (.tmp 1), some (20, true)⟩,
    ⟨some 26, .bin .sub (.tmp 25) (.const (.int .i64 1)), some (20, true)⟩,
    ⟨some 27, .iadr (.tmp 24) (.tmp 26) 2, some (20, true)⟩,
    ⟨some 28, .fadr (.tmp 27) 0, some (20, true)⟩,
    ⟨some 29, .load1 (.tmp 28), some (20, true)⟩,
    ⟨some 30, .bin .gtr (.tmp 29) (.const (.int .i64 0)), some (20, true)⟩,
    ⟨some 31, .pick (.tmp 20) (.tmp 30) (.const (.bool false)), none⟩,
    ⟨some 4, .mov (.tmp 31), none⟩]) (
 .ret))
theorem Try.fx56 : FnX Try.prog 56 32 #[.tmp 4] Try.x56 :=
  ⟨Try.f56, Try.func56, by kernel_rfl, by kernel_rfl, by kernel_rfl, by kernel_rfl⟩
/-- (*freshet/arena.Arena).Handles -/
def Try.x58 : XCode :=
 .seq (.region [⟨some 1, .box 25 (.tmp 0), none⟩,
    ⟨some 2, .mov (.const .nilFunc), none⟩]) (
 .seq (.region [⟨some 3, .mkf (.func 72) [] [(.tmp 1)], none⟩,
    ⟨some 2, .mov (.tmp 3), none⟩]) (
 .ret))
theorem Try.fx58 : FnX Try.prog 58 4 #[.tmp 2] Try.x58 :=
  ⟨Try.f58, Try.func58, by kernel_rfl, by kernel_rfl, by kernel_rfl, by kernel_rfl⟩
/-- (*freshet/arena.Arena).Compact$1 -/
def Try.x60 : XCode :=
 .seq (.region [⟨some 5, .mov (.const (.int .i64 0)), none⟩]) (
 .seq (.draw (
   .q ⟨some 6, .load1 (.tmp 2), none⟩ (
   .q ⟨some 7, .nilc (.tmp 6), none⟩ (
   .q ⟨some 8, .fadr (.tmp 7) 1, none⟩ (
   .q ⟨some 9, .load1 (.tmp 8), none⟩ (
   .q ⟨some 10, .mov (.tmp 0), none⟩ (
   .q ⟨some 11, .bin .sub (.tmp 10) (.const (.int .i64 1)), none⟩ (
   .q ⟨some 12, .iadr (.tmp 9) (.tmp 11) 2, none⟩ (
   .q ⟨some 13, .fadr (.tmp 12) 0, none⟩ (
   .q ⟨some 14, .load1 (.tmp 13), none⟩ (
   .q ⟨some 15, .load1 (.tmp 2), none⟩ (
   .q ⟨some 16, .nilc (.tmp 15), none⟩ (
   .q ⟨some 17, .fadr (.tmp 16) 1, none⟩ (
   .q ⟨some 18, .load1 (.tmp 17), none⟩ (
   .q ⟨some 19, .mov (.tmp 1), none⟩ (
   .q ⟨some 20, .bin .sub (.tmp 19) (.const (.int .i64 1)), none⟩ (
   .q ⟨some 21, .iadr (.tmp 18) (.tmp 20) 2, none⟩ (
   .q ⟨some 22, .fadr (.tmp 21) 0, none⟩ (
   .q ⟨some 23, .load1 (.tmp 22), none⟩ (
   .alt ⟨some 24, .call (.func 61) [(.tmp 14), (.tmp 23)], none⟩ false (
    .q ⟨some 5, .mov (.tmp 24), none⟩ (
    .done)) (.noalt))))))))))))))))))))) (
 .ret))
theorem Try.fx60 : FnX Try.prog 60 25 #[.tmp 5] Try.x60 :=
  ⟨Try.f60, Try.func60, by kernel_rfl, by kernel_rfl, by kernel_rfl, by kernel_rfl⟩
/-- (*freshet/arena.Arena).Budget -/
def Try.x63 : XCode :=
 .seq (.region [⟨some 2, .mov (.const (.int .i64 0)), none⟩]) (
 .seq (.seq (.region [⟨some 3, .mov (.tmp 0), none⟩,
     ⟨some 4, .eqn 0 false (.tmp 3) (.const (.pointer none)), none⟩]) (
  .cond (.tmp 4) (
   .seq (.region [⟨some 2, .mov (.const (.int .i64 0)), none⟩]) (
   .ret)) (
   .skip))) (
 .seq (.region [⟨some 5, .mov (.tmp 0), none⟩,
    ⟨some 6, .nilc (.tmp 5), none⟩,
    ⟨some 7, .fadr (.tmp 6) 0, none⟩,
    ⟨some 8, .load1 (.tmp 7), none⟩,
    ⟨some 9, .len (.tmp 8), none⟩,
    ⟨some 2, .mov (.tmp 9), none⟩]) (
 .ret)))
theorem Try.fx63 : FnX Try.prog 63 10 #[.tmp 2] Try.x63 :=
  ⟨Try.f63, Try.func63, by kernel_rfl, by kernel_rfl, by kernel_rfl, by kernel_rfl⟩
/-- (*freshet/arena.Arena).Handles$1 -/
def Try.x72 : XCode :=
 .seq (.seq (.region [⟨some 5, .load1 (.tmp 1), none⟩,
     ⟨some 6, .eqn 0 false (.tmp 5) (.const (.pointer none)), none⟩]) (
  .cond (.tmp 6) (
   .ret) (
   .skip))) (
 .seq (.region [⟨some 7, .load1 (.tmp 1), none⟩,
    ⟨some 8, .nilc (.tmp 7), none⟩,
    ⟨some 9, .fadr (.tmp 8) 1, none⟩,
    ⟨some 10, .load1 (.tmp 9), none⟩,
    ⟨some 11, .call (.func 73) [(.tmp 10)], none⟩,
    ⟨some 12, .len (.tmp 11), none⟩,
    ⟨some 13, .mov (.const (.int .i64 0)), none⟩]) (
 .block 0 (
  .loop (
   .seq (.region [⟨some 14, .bin .lss (.tmp 13) (.tmp 12), none⟩]) (
   .seq (.cond (.tmp 14) (
     .skip) (
     .exit 0)) (
   .seq (.block 1 (
     .seq (.region [⟨some 15, .mov (.tmp 13), none⟩,
        ⟨some 16, .iadr (.tmp 11) (.tmp 13) 2, none⟩,
        ⟨some 17, .loadN 2 (.tmp 16), none⟩,
        ⟨some 4, .alloc 89 [(.int .i64 0), (.int .i64 0)], none⟩,
        ⟨some 3, .mov (.tmp 15), none⟩,
        ⟨none, .store 2 (.tmp 4) (.tmp 17), none⟩]) (
     .seq (.region [⟨some 18, .fadr (.tmp 4) 0, none⟩,
        ⟨some 19, .load1 (.tmp 18), none⟩,
        ⟨some 20, .bin .gtr (.tmp 19) (.const (.int .i64 0)), none⟩,
        ⟨some 21, .mov (.tmp 20), none⟩,
        ⟨some 22, .mov (.tmp 0), some (21, true)⟩,
        ⟨some 23, .mov (.tmp 3), some (21, true)⟩,
        ⟨some 24, .bin .add (.tmp 23) (.const (.int .i64 1)), some (21, true)⟩,
        ⟨some 25, .fadr (.tmp 4) 1, some (21, true)⟩,
        ⟨some 26, .load1 (.tmp 25), some (21, true)⟩,
        ⟨some 27, .call (.tmp 22) [(.tmp 24), (.tmp 26)], some (21, true)⟩,
        ⟨some 28, .un .not (.tmp 27), some (21, true)⟩,
        ⟨some 29, .pick (.tmp 21) (.tmp 28) (.const (.bool false)), none⟩]) (
     .cond (.tmp 29) (
      .ret) (
      .skip))))) (
   .region [⟨some 30, .bin .add (.tmp 13) (.const (.int .i64 1)), none⟩,
     ⟨some 13, .mov (.tmp 30), none⟩])))))))
theorem Try.fx72 : FnX Try.prog 72 31 #[] Try.x72 :=
  ⟨Try.f72, Try.func72, by kernel_rfl, by kernel_rfl, by kernel_rfl, by kernel_rfl⟩
end Go.Proofs.Ytkdbajfaaifkaaa
