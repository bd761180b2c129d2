/- The compiled code of some of the program's functions, printed by a program, and that it is what the compiler of these texts makes of them. -/
import Derived.Test.YtkdbajfaaifkaaaB1
import Derived.Test.YtkdbajfaaifkaaaProg
import Derived.KernelRfl
namespace Go.Proofs.Ytkdbajfaaifkaaa
open Go.Xs
/-- freshet/freshetref6.MayArena -/
def Try.x20 : XCode :=
 .seq (.region [⟨some 2, .mov (.const (.bool false)), none⟩]) (
 .seq (.region [⟨some 3, .mov (.tmp 0), none⟩,
    ⟨some 4, .bin .geq (.tmp 3) (.const (.int .i64 1024)), none⟩,
    ⟨some 5, .mov (.tmp 4), none⟩,
    ⟨some 6, .mov (.tmp 0), some (5, true)⟩,
    ⟨some 7, .bin .leq (.tmp 6) (.const (.int .i64 1048576)), some (5, true)⟩,
    ⟨some 8, .pick (.tmp 5) (.tmp 7) (.const (.bool false)), none⟩,
    ⟨some 2, .mov (.tmp 8), none⟩]) (
 .ret))
theorem Try.fx20 : FnX Try.prog 20 9 #[.tmp 2] Try.x20 :=
  ⟨Try.f20, Try.func20, by kernel_rfl, by kernel_rfl, by kernel_rfl, by kernel_rfl⟩
/-- (*freshet/freshetref6.Arena).Alloc -/
def Try.x21 : XCode :=
 .seq (.region [⟨some 4, .mov (.const (.int .i64 0)), none⟩,
    ⟨some 5, .mov (.const (.int .i64 0)), none⟩]) (
 .seq (.region [⟨some 9, .mov (.tmp 1), none⟩,
    ⟨some 10, .call (.func 55) [(.tmp 9)], none⟩,
    ⟨some 6, .mov (.tmp 10), none⟩]) (
 .seq (.block 0 (
   .seq (.region [⟨some 12, .mov (.tmp 6), none⟩,
      ⟨some 13, .bin .eql (.tmp 12) (.const (.int .i64 0)), none⟩,
      ⟨some 11, .mov (.tmp 13), none⟩]) (
   .cond (.tmp 11) (
    .seq (.region [⟨some 4, .mov (.const (.int .i64 0)), none⟩,
       ⟨some 5, .mov (.const (.int .i64 3)), none⟩]) (
    .ret)) (
    .seq (.region [⟨some 15, .mov (.tmp 6), none⟩,
       ⟨some 16, .mov (.tmp 0), none⟩,
       ⟨some 17, .call (.func 27) [(.tmp 16)], none⟩,
       ⟨some 18, .bin .gtr (.tmp 15) (.tmp 17), none⟩,
       ⟨some 14, .mov (.tmp 18), none⟩]) (
    .cond (.tmp 14) (
     .seq (.region [⟨some 4, .mov (.const (.int .i64 0)), none⟩,
        ⟨some 5, .mov (.const (.int .i64 4)), none⟩]) (
     .ret)) (
     .skip)))))) (
 .seq (.region [⟨some 7, .mov (.const (.int .i64 0)), none⟩]) (
 .seq (.block 1 (
   .loop (
    .seq (.seq (.region [⟨some 19, .mov (.tmp 7), none⟩,
        ⟨some 20, .mov (.tmp 0), none⟩,
        ⟨some 21, .nilc (.tmp 20), none⟩,
        ⟨some 22, .fadr (.tmp 21) 1, none⟩,
        ⟨some 23, .load1 (.tmp 22), none⟩,
        ⟨some 24, .len (.tmp 23), none⟩,
        ⟨some 25, .bin .lss (.tmp 19) (.tmp 24), none⟩,
        ⟨some 26, .mov (.tmp 25), none⟩,
        ⟨some 27, .mov (.tmp 0), some (26, true)⟩,
        ⟨some 28, .nilc (.tmp 27), some (26, true)⟩,
        ⟨some 29, .fadr (.tmp 28) 1, some (26, true)⟩,
        ⟨some 30, .load1 (.tmp 29), some (26, true)⟩,
        ⟨some 31, .mov (.tmp 7), some (26, true)⟩,
        ⟨some 32, .iadr (.tmp 30) (.tmp 31) 2, some (26, true)⟩,
        ⟨some 33, .fadr (.tmp 32) 0, some (26, true)⟩,
        ⟨some 34, .load1 (.tmp 33), some (26, true)⟩,
        ⟨some 35, .mov (.tmp 7), some (26, true)⟩,
        ⟨some 36, .bin .add (.tmp 35) (.const (.int .i64 1)), some (26, true)⟩,
        ⟨some 37, .bin .eql (.tmp 34) (.tmp 36), some (26, true)⟩,
        ⟨some 38, .pick (.tmp 26) (.tmp 37) (.const (.bool false)), none⟩]) (
     .cond (.tmp 38) (
      .skip) (
      .exit 1))) (
    .block 2 (
     .region [⟨some 39, .mov (.tmp 7), none⟩,
       ⟨some 40, .bin .add (.tmp 39) (.const (.int .i64 1)), none⟩,
       ⟨some 7, .mov (.tmp 40), none⟩]))))) (
 .seq (.region [⟨some 41, .mov (.tmp 7), none⟩,
    ⟨some 42, .bin .add (.tmp 41) (.const (.int .i64 1)), none⟩,
    ⟨some 43, .mov (.tmp 1), none⟩,
    ⟨some 44, .mksl 5 1 1 [(.int .u8 0)] (.tmp 43) (.tmp 43), none⟩,
    ⟨some 45, .build [(.int .i64 0), (.slice none 0 0)] [(0, 1, (.tmp 42)), (1, 1, (.tmp 44))], none⟩,
    ⟨some 8, .alloc 53 [(.int .i64 0), (.slice none 0 0)], none⟩,
    ⟨none, .store 2 (.tmp 8) (.tmp 45), none⟩]) (
 .seq (.draw (
   .q ⟨some 46, .mov (.tmp 0), none⟩ (
   .q ⟨some 48, .mov (.tmp 0), none⟩ (
   .q ⟨some 49, .nilc (.tmp 48), none⟩ (
   .q ⟨some 50, .fadr (.tmp 49) 1, none⟩ (
   .q ⟨some 51, .load1 (.tmp 50), none⟩ (
   .q ⟨some 52, .mov (.tmp 7), none⟩ (
   .q ⟨some 53, .slc 2 (.tmp 51) none (some (.tmp 52)) none, none⟩ (
   .q ⟨some 55, .loadN 2 (.tmp 8), none⟩ (
   .q ⟨some 58, .mov (.tmp 0), none⟩ (
   .q ⟨some 59, .nilc (.tmp 58), none⟩ (
   .q ⟨some 60, .fadr (.tmp 59) 1, none⟩ (
   .q ⟨some 61, .load1 (.tmp 60), none⟩ (
   .q ⟨some 62, .mov (.tmp 7), none⟩ (
   .q ⟨some 63, .slc 2 (.tmp 61) (some (.tmp 62)) none none, none⟩ (
   .alt ⟨some 47, .bsl 53 0 2 [(.int .i64 0), (.slice none 0 0)] [], none⟩ true (
    .alt ⟨some 54, .app 53 2 32 [(.int .i64 0), (.slice none 0 0)] (.tmp 47) (.tmp 53), none⟩ true (
     .alt ⟨some 56, .bsl 53 1 2 [(.int .i64 0), (.slice none 0 0)] [(0, (.tmp 55))], none⟩ true (
      .alt ⟨some 57, .app 53 2 32 [(.int .i64 0), (.slice none 0 0)] (.tmp 54) (.tmp 56), none⟩ true (
       .alt ⟨some 64, .app 53 2 32 [(.int .i64 0), (.slice none 0 0)] (.tmp 57) (.tmp 63), none⟩ false (
        .q ⟨some 65, .nilc (.tmp 46), none⟩ (
        .q ⟨some 66, .fadr (.tmp 65) 1, none⟩ (
        .alt ⟨none, .store 1 (.tmp 66) (.tmp 64), none⟩ false (
         .done) (.noalt)))) (.noalt)) (.noalt)) (.noalt)) (.alt ⟨some 56, .bsl 53 1 2 [(.int .i64 0), (.slice none 0 0)] [(0, (.tmp 55))], none⟩ true (
     .alt ⟨some 54, .app 53 2 32 [(.int .i64 0), (.slice none 0 0)] (.tmp 47) (.tmp 53), none⟩ true (
      .alt ⟨some 57, .app 53 2 32 [(.int .i64 0), (.slice none 0 0)] (.tmp 54) (.tmp 56), none⟩ true (
       .alt ⟨some 64, .app 53 2 32 [(.int .i64 0), (.slice none 0 0)] (.tmp 57) (.tmp 63), none⟩ false (
        .q ⟨some 65, .nilc (.tmp 46), none⟩ (
        .q ⟨some 66, .fadr (.tmp 65) 1, none⟩ (
        .alt ⟨none, .store 1 (.tmp 66) (.tmp 64), none⟩ false (
         .done) (.noalt)))) (.noalt)) (.noalt)) (.noalt)) (.noalt))) (.alt ⟨some 56, .bsl 53 1 2 [(.int .i64 0), (.slice none 0 0)] [(0, (.tmp 55))], none⟩ true (
    .alt ⟨some 47, .bsl 53 0 2 [(.int .i64 0), (.slice none 0 0)] [], none⟩ true (
     .alt ⟨some 54, .app 53 2 32 [(.int .i64 0), (.slice none 0 0)] (.tmp 47) (.tmp 53), none⟩ true (
      .alt ⟨some 57, .app 53 2 32 [(.int .i64 0), (.slice none 0 0)] (.tmp 54) (.tmp 56), none⟩ true (
       .alt ⟨some 64, .app 53 2 32 [(.int .i64 0), (.slice none 0 0)] (.tmp 57) (.tmp 63), none⟩ false (
        .q ⟨some 65, .nilc (.tmp 46), none⟩ (
        .q ⟨some 66, .fadr (.tmp 65) 1, none⟩ (
        .alt ⟨none, .store 1 (.tmp 66) (.tmp 64), none⟩ false (
         .done) (.noalt)))) (.noalt)) (.noalt)) (.noalt)) (.noalt)) (.noalt)))))))))))))))))) (
 .seq (.region [⟨some 67, .mov (.tmp 7), none⟩,
    ⟨some 68, .bin .add (.tmp 67) (.const (.int .i64 1)), none⟩,
    ⟨some 4, .mov (.tmp 68), none⟩,
    ⟨some 5, .mov (.const (.int .i64 0)), none⟩]) (
 .ret))))))))
theorem Try.fx21 : FnX Try.prog 21 69 #[.tmp 4, .tmp 5] Try.x21 :=
  ⟨Try.f21, Try.func21, by kernel_rfl, by kernel_rfl, by kernel_rfl, by kernel_rfl⟩
/-- (*freshet/freshetref6.Arena).Free -/
def Try.x23 : XCode :=
 .seq (.region [⟨some 4, .mov (.const (.int .i64 0)), none⟩]) (
 .seq (.region [⟨some 6, .mov (.tmp 0), none⟩,
    ⟨some 7, .mov (.tmp 1), none⟩,
    ⟨some 8, .call (.func 57) [(.tmp 6), (.tmp 7)], none⟩,
    ⟨some 5, .mov (.tmp 8), none⟩]) (
 .seq (.seq (.region [⟨some 9, .mov (.tmp 5), none⟩,
     ⟨some 10, .bin .lss (.tmp 9) (.const (.int .i64 0)), none⟩]) (
  .cond (.tmp 10) (
   .seq (.region [⟨some 4, .mov (.const (.int .i64 5)), none⟩]) (
   .ret)) (
   .skip))) (
 .seq (.draw (
   .q ⟨some 11, .mov (.tmp 0), none⟩ (
   .q ⟨some 13, .mov (.tmp 0), none⟩ (
   .q ⟨some 14, .nilc (.tmp 13), none⟩ (
   .q ⟨some 15, .fadr (.tmp 14) 1, none⟩ (
   .q ⟨some 16, .load1 (.tmp 15), none⟩ (
   .q ⟨some 17, .mov (.tmp 5), none⟩ (
   .q ⟨some 18, .slc 2 (.tmp 16) none (some (.tmp 17)) none, none⟩ (
   .q ⟨some 20, .mov (.tmp 0), none⟩ (
   .q ⟨some 21, .nilc (.tmp 20), none⟩ (
   .q ⟨some 22, .fadr (.tmp 21) 1, none⟩ (
   .q ⟨some 23, .load1 (.tmp 22), none⟩ (
   .q ⟨some 24, .mov (.tmp 5), none⟩ (
   .q ⟨some 25, .bin .add (.tmp 24) (.const (.int .i64 1)), none⟩ (
   .q ⟨some 26, .slc 2 (.tmp 23) (some (.tmp 25)) none none, none⟩ (
   .alt ⟨some 12, .bsl 53 0 2 [(.int .i64 0), (.slice none 0 0)] [], none⟩ true (
    .alt ⟨some 19, .app 53 2 32 [(.int .i64 0), (.slice none 0 0)] (.tmp 12) (.tmp 18), none⟩ true (
     .alt ⟨some 27, .app 53 2 32 [(.int .i64 0), (.slice none 0 0)] (.tmp 19) (.tmp 26), none⟩ false (
      .q ⟨some 28, .nilc (.tmp 11), none⟩ (
      .q ⟨some 29, .fadr (.tmp 28) 1, none⟩ (
      .alt ⟨none, .store 1 (.tmp 29) (.tmp 27), none⟩ false (
       .done) (.noalt)))) (.noalt)) (.noalt)) (.noalt))))))))))))))))) (
 .seq (.region [⟨some 4, .mov (.const (.int .i64 0)), none⟩]) (
 .ret)))))
theorem Try.fx23 : FnX Try.prog 23 30 #[.tmp 4] Try.x23 :=
  ⟨Try.f23, Try.func23, by kernel_rfl, by kernel_rfl, by kernel_rfl, by kernel_rfl⟩
/-- (*freshet/freshetref6.Arena).Read -/
def Try.x24 : XCode :=
 .seq (.region [⟨some 8, .mov (.const (.slice none 0 0)), none⟩,
    ⟨some 9, .mov (.const (.int .i64 0)), none⟩]) (
 .seq (.region [⟨some 12, .mov (.tmp 0), none⟩,
    ⟨some 13, .mov (.tmp 1), none⟩,
    ⟨some 14, .call (.func 57) [(.tmp 12), (.tmp 13)], none⟩,
    ⟨some 10, .mov (.tmp 14), none⟩]) (
 .seq (.seq (.region [⟨some 15, .mov (.tmp 10), none⟩,
     ⟨some 16, .bin .lss (.tmp 15) (.const (.int .i64 0)), none⟩]) (
  .cond (.tmp 16) (
   .seq (.region [⟨some 8, .mov (.const (.slice none 0 0)), none⟩,
      ⟨some 9, .mov (.const (.int .i64 5)), none⟩]) (
   .ret)) (
   .skip))) (
 .seq (.region [⟨some 17, .mov (.tmp 0), none⟩,
    ⟨some 18, .nilc (.tmp 17), none⟩,
    ⟨some 19, .fadr (.tmp 18) 1, none⟩,
    ⟨some 20, .load1 (.tmp 19), none⟩,
    ⟨some 21, .mov (.tmp 10), none⟩,
    ⟨some 22, .iadr (.tmp 20) (.tmp 21) 2, none⟩,
    ⟨some 23, .fadr (.tmp 22) 1, none⟩,
    ⟨some 24, .load1 (.tmp 23), none⟩,
    ⟨some 11, .mov (.tmp 24), none⟩]) (
 .seq (.seq (.region [⟨some 25, .mov (.tmp 2), none⟩,
     ⟨some 26, .bin .lss (.tmp 25) (.const (.int .i64 0)), none⟩,
     ⟨some 27, .mov (.tmp 26), none⟩,
     ⟨some 28, .mov (.tmp 3), some (27, false)⟩,
     ⟨some 29, .bin .lss (.tmp 28) (.const (.int .i64 0)), some (27, false)⟩,
     ⟨some 30, .pick (.tmp 27) (.const (.bool true)) (.tmp 29), none⟩,
     ⟨some 31, .mov (.tmp 30), none⟩,
     ⟨some 32, .mov (.tmp 2), some (31, false)⟩,
     ⟨some 33, .mov (.tmp 11), some (31, false)⟩,
     ⟨some 34, .len (.tmp 33), some (31, false)⟩,
     ⟨some 35, .bin .gtr (.tmp 32) (.tmp 34), some (31, false)⟩,
     ⟨some 36, .pick (.tmp 31) (.const (.bool true)) (.tmp 35), none⟩,
     ⟨some 37, .mov (.tmp 36), none⟩,
     ⟨some 38, .mov (.tmp 3), some (37, false)⟩,
     ⟨some 39, .mov (.tmp 11), some (37, false)⟩,
     ⟨some 40, .len (.tmp 39), some (37, false)⟩,
     ⟨some 41, .mov (.tmp 2), some (37, false)⟩,
     ⟨some 42, .bin .sub (.tmp 40) (.tmp 41), some (37, false)⟩,
     ⟨some 43, .bin .gtr (.tmp 38) (.tmp 42), some (37, false)⟩,
     ⟨some 44, .pick (.tmp 37) (.const (.bool true)) (.tmp 43), none⟩]) (
  .cond (.tmp 44) (
   .seq (.region [⟨some 8, .mov (.const (.slice none 0 0)), none⟩,
      ⟨some 9, .mov (.const (.int .i64 1)), none⟩]) (
   .ret)) (
   .skip))) (
 .seq (.region [⟨some 45, .bsl 5 0 1 [(.int .u8 0)] [], none⟩,
    ⟨some 46, .mov (.tmp 11), none⟩,
    ⟨some 47, .mov (.tmp 2), none⟩,
    ⟨some 48, .mov (.tmp 2), none⟩,
    ⟨some 49, .mov (.tmp 3), none⟩,
    ⟨some 50, .bin .add (.tmp 48) (.tmp 49), none⟩,
    ⟨some 51, .slc 1 (.tmp 46) (some (.tmp 47)) (some (.tmp 50)) none, none⟩,
    ⟨some 52, .app 5 1 1 [(.int .u8 0)] (.tmp 45) (.tmp 51), none⟩,
    ⟨some 8, .mov (.tmp 52), none⟩,
    ⟨some 9, .mov (.const (.int .i64 0)), none⟩]) (
 .ret))))))
theorem Try.fx24 : FnX Try.prog 24 53 #[.tmp 8, .tmp 9] Try.x24 :=
  ⟨Try.f24, Try.func24, by kernel_rfl, by kernel_rfl, by kernel_rfl, by kernel_rfl⟩
/-- (*freshet/freshetref6.Arena).Write -/
def Try.x25 : XCode :=
 .seq (.region [⟨some 8, .mov (.const (.int .i64 0)), none⟩]) (
 .seq (.region [⟨some 13, .mov (.tmp 0), none⟩,
    ⟨some 14, .mov (.tmp 1), none⟩,
    ⟨some 15, .call (.func 57) [(.tmp 13), (.tmp 14)], none⟩,
    ⟨some 9, .mov (.tmp 15), none⟩]) (
 .seq (.seq (.region [⟨some 16, .mov (.tmp 9), none⟩,
     ⟨some 17, .bin .lss (.tmp 16) (.const (.int .i64 0)), none⟩]) (
  .cond (.tmp 17) (
   .seq (.region [⟨some 8, .mov (.const (.int .i64 5)), none⟩]) (
   .ret)) (
   .skip))) (
 .seq (.region [⟨some 18, .mov (.tmp 0), none⟩,
    ⟨some 19, .nilc (.tmp 18), none⟩,
    ⟨some 20, .fadr (.tmp 19) 1, none⟩,
    ⟨some 21, .load1 (.tmp 20), none⟩,
    ⟨some 22, .mov (.tmp 9), none⟩,
    ⟨some 23, .iadr (.tmp 21) (.tmp 22) 2, none⟩,
    ⟨some 24, .fadr (.tmp 23) 1, none⟩,
    ⟨some 25, .load1 (.tmp 24), none⟩,
    ⟨some 10, .mov (.tmp 25), none⟩]) (
 .seq (.seq (.region [⟨some 26, .mov (.tmp 2), none⟩,
     ⟨some 27, .bin .lss (.tmp 26) (.const (.int .i64 0)), none⟩,
     ⟨some 28, .mov (.tmp 27), none⟩,
     ⟨some 29, .mov (.tmp 2), some (28, false)⟩,
     ⟨some 30, .mov (.tmp 10), some (28, false)⟩,
     ⟨some 31, .len (.tmp 30), some (28, false)⟩,
     ⟨some 32, .bin .gtr (.tmp 29) (.tmp 31), some (28, false)⟩,
     ⟨some 33, .pick (.tmp 28) (.const (.bool true)) (.tmp 32), none⟩,
     ⟨some 34, .mov (.tmp 33), none⟩,
     ⟨some 35, .mov (.tmp 3), some (34, false)⟩,
     ⟨some 36, .len (.tmp 35), some (34, false)⟩,
     ⟨some 37, .mov (.tmp 10), some (34, false)⟩,
     ⟨some 38, .len (.tmp 37), some (34, false)⟩,
     ⟨some 39, .mov (.tmp 2), some (34, false)⟩,
     ⟨some 40, .bin .sub (.tmp 38) (.tmp 39), some (34, false)⟩,
     ⟨some 41, .bin .gtr (.tmp 36) (.tmp 40), some (34, false)⟩,
     ⟨some 42, .pick (.tmp 34) (.const (.bool true)) (.tmp 41), none⟩]) (
  .cond (.tmp 42) (
   .seq (.region [⟨some 8, .mov (.const (.int .i64 1)), none⟩]) (
   .ret)) (
   .skip))) (
 .seq (.region [⟨some 43, .bsl 5 0 1 [(.int .u8 0)] [], none⟩,
    ⟨some 44, .mov (.tmp 10), none⟩,
    ⟨some 45, .app 5 1 1 [(.int .u8 0)] (.tmp 43) (.tmp 44), none⟩,
    ⟨some 11, .mov (.tmp 45), none⟩]) (
 .seq (.seq (.region [⟨some 12, .mov (.const (.int .i64 0)), none⟩]) (
  .block 0 (
   .loop (
    .seq (.seq (.region [⟨some 46, .mov (.tmp 12), none⟩,
        ⟨some 47, .mov (.tmp 3), none⟩,
        ⟨some 48, .len (.tmp 47), none⟩,
        ⟨some 49, .bin .lss (.tmp 46) (.tmp 48), none⟩]) (
     .cond (.tmp 49) (
      .skip) (
      .exit 0))) (
    .seq (.block 1 (
      .region [⟨some 52, .mov (.tmp 11), none⟩,
        ⟨some 53, .mov (.tmp 2), none⟩,
        ⟨some 54, .mov (.tmp 12), none⟩,
        ⟨some 55, .bin .add (.tmp 53) (.tmp 54), none⟩,
        ⟨some 56, .mov (.tmp 3), none⟩,
        ⟨some 57, .mov (.tmp 12), none⟩,
        ⟨some 58, .iadr (.tmp 56) (.tmp 57) 1, none⟩,
        ⟨some 59, .load1 (.tmp 58), none⟩,
        ⟨some 60, .iadr (.tmp 52) (.tmp 55) 1, none⟩,
        ⟨none, .store 1 (.tmp 60) (.tmp 59), none⟩])) (
    .region [⟨some 50, .mov (.tmp 12), none⟩,
      ⟨some 51, .bin .add (.tmp 50) (.const (.int .i64 1)), none⟩,
      ⟨some 12, .mov (.tmp 51), none⟩])))))) (
 .seq (.region [⟨some 61, .mov (.tmp 0), none⟩,
    ⟨some 62, .bsl 53 0 2 [(.int .i64 0), (.slice none 0 0)] [], none⟩,
    ⟨some 63, .mov (.tmp 0), none⟩,
    ⟨some 64, .nilc (.tmp 63), none⟩,
    ⟨some 65, .fadr (.tmp 64) 1, none⟩,
    ⟨some 66, .load1 (.tmp 65), none⟩,
    ⟨some 67, .app 53 2 32 [(.int .i64 0), (.slice none 0 0)] (.tmp 62) (.tmp 66), none⟩,
    ⟨some 68, .nilc (.tmp 61), none⟩,
    ⟨some 69, .fadr (.tmp 68) 1, none⟩,
    ⟨none, .store 1 (.tmp 69) (.tmp 67), none⟩]) (
 .seq (.region [⟨some 70, .mov (.tmp 0), none⟩,
    ⟨some 71, .nilc (.tmp 70), none⟩,
    ⟨some 72, .fadr (.tmp 71) 1, none⟩,
    ⟨some 73, .load1 (.tmp 72), none⟩,
    ⟨some 74, .mov (.tmp 9), none⟩,
    ⟨some 75, .mov (.tmp 11), none⟩,
    ⟨some 76, .iadr (.tmp 73) (.tmp 74) 2, none⟩,
    ⟨some 77, .fadr (.tmp 76) 1, none⟩,
    ⟨none, .store 1 (.tmp 77) (.tmp 75), none⟩]) (
 .seq (.region [⟨some 8, .mov (.const (.int .i64 0)), none⟩]) (
 .ret))))))))))
theorem Try.fx25 : FnX Try.prog 25 78 #[.tmp 8] Try.x25 :=
  ⟨Try.f25, Try.func25, by kernel_rfl, by kernel_rfl, by kernel_rfl, by kernel_rfl⟩
/-- (*freshet/freshetref6.Arena).Left -/
def Try.x27 : XCode :=
 .seq (.region [⟨some 2, .mov (.const (.int .i64 0)), none⟩]) (
 .seq (.draw (
   .q ⟨some 3, .mov (.tmp 0), none⟩ (
   .q ⟨some 4, .nilc (.tmp 3), none⟩ (
   .q ⟨some 5, .fadr (.tmp 4) 0, none⟩ (
   .q ⟨some 6, .load1 (.tmp 5), none⟩ (
   .q ⟨some 7, .mov (.tmp 0), none⟩ (
   .alt ⟨some 8, .call (.func 62) [(.tmp 7)], none⟩ true (
    .q ⟨some 9, .bin .sub (.tmp 6) (.tmp 8), none⟩ (
    .q ⟨some 2, .mov (.tmp 9), none⟩ (
    .done))) (.noalt)))))))) (
 .ret))
theorem Try.fx27 : FnX Try.prog 27 10 #[.tmp 2] Try.x27 :=
  ⟨Try.f27, Try.func27, by kernel_rfl, by kernel_rfl, by kernel_rfl, by kernel_rfl⟩
/-- freshet/freshetref6.Cost -/
def Try.x55 : XCode :=
 .seq (.region [⟨some 2, .mov (.const (.int .i64 0)), none⟩]) (
 .seq (.seq (.region [⟨some 4, .mov (.tmp 0), none⟩,
     ⟨some 5, .bin .lss (.tmp 4) (.const (.int .i64 0)), none⟩,
     ⟨some 6, .mov (.tmp 5), none⟩,
     ⟨some 7, .mov (.tmp 0), some (6, false)⟩,
     ⟨some 8, .bin .gtr (.tmp 7) (.const (.int .i64 4096)), some (6, false)⟩,
     ⟨some 9, .pick (.tmp 6) (.const (.bool true)) (.tmp 8), none⟩]) (
  .cond (.tmp 9) (
   .seq (.region [⟨some 2, .mov (.const (.int .i64 0)), none⟩]) (
   .ret)) (
   .skip))) (
 .seq (.region [⟨some 3, .mov (.const (.int .i64 16)), none⟩]) (
 .seq (.block 0 (
   .loop (
    .seq (.seq (.region [⟨some 10, .mov (.tmp 3), none⟩,
        ⟨some 11, .mov (.tmp 0), none⟩,
        ⟨some 12, .bin .add (.tmp 11) (.const (.int .i64 8)), none⟩,
        ⟨some 13, .bin .lss (.tmp 10) (.tmp 12), none⟩]) (
     .cond (.tmp 13) (
      .skip) (
      .exit 0))) (
    .block 1 (
     .region [⟨some 14, .mov (.tmp 3), none⟩,
       ⟨some 15, .bin .mul (.tmp 14) (.const (.int .i64 2)), none⟩,
       ⟨some 3, .mov (.tmp 15), none⟩]))))) (
 .seq (.region [⟨some 16, .mov (.tmp 3), none⟩,
    ⟨some 2, .mov (.tmp 16), none⟩]) (
 .ret)))))
theorem Try.fx55 : FnX Try.prog 55 17 #[.tmp 2] Try.x55 :=
  ⟨Try.f55, Try.func55, by kernel_rfl, by kernel_rfl, by kernel_rfl, by kernel_rfl⟩
/-- (*freshet/freshetref6.Arena).at -/
def Try.x57 : XCode :=
 .seq (.region [⟨some 4, .mov (.const (.int .i64 0)), none⟩]) (
 .seq (.seq (.region [⟨some 5, .mov (.const (.int .i64 0)), none⟩]) (
  .block 0 (
   .loop (
    .seq (.seq (.region [⟨some 6, .mov (.tmp 5), none⟩,
        ⟨some 7, .mov (.tmp 0), none⟩,
        ⟨some 8, .nilc (.tmp 7), none⟩,
        ⟨some 9, .fadr (.tmp 8) 1, none⟩,
        ⟨some 10, .load1 (.tmp 9), none⟩,
        ⟨some 11, .len (.tmp 10), none⟩,
        ⟨some 12, .bin .lss (.tmp 6) (.tmp 11), none⟩]) (
     .cond (.tmp 12) (
      .skip) (
      .exit 0))) (
    .seq (.block 1 (
      .seq (.region [⟨some 15, .mov (.tmp 0), none⟩,
         ⟨some 16, .nilc (.tmp 15), none⟩,
         ⟨some 17, .fadr (.tmp 16) 1, none⟩,
         ⟨some 18, .load1 (.tmp 17), none⟩,
         ⟨some 19, .mov (.tmp 5), none⟩,
         ⟨some 20, .iadr (.tmp 18) (.tmp 19) 2, none⟩,
         ⟨some 21, .fadr (.tmp 20) 0, none⟩,
         ⟨some 22, .load1 (.tmp 21), none⟩,
         ⟨some 23, .mov (.tmp 1), none⟩,
         ⟨some 24, .bin .eql (.tmp 22) (.tmp 23), none⟩]) (
      .cond (.tmp 24) (
       .seq (.region [⟨some 25, .mov (.tmp 5), none⟩,
          ⟨some 4, .mov (.tmp 25), none⟩]) (
       .ret)) (
       .skip)))) (
    .region [⟨some 13, .mov (.tmp 5), none⟩,
      ⟨some 14, .bin .add (.tmp 13) (.const (.int .i64 1)), none⟩,
      ⟨some 5, .mov (.tmp 14), none⟩])))))) (
 .seq (.region [⟨some 4, .mov (.const (.int .i64 (-1))), none⟩]) (
 .ret)))
theorem Try.fx57 : FnX Try.prog 57 26 #[.tmp 4] Try.x57 :=
  ⟨Try.f57, Try.func57, by kernel_rfl, by kernel_rfl, by kernel_rfl, by kernel_rfl⟩
/-- (*freshet/freshetref6.Arena).Used -/
def Try.x62 : XCode :=
 .seq (.region [⟨some 2, .mov (.const (.int .i64 0)), none⟩]) (
 .seq (.region [⟨some 3, .mov (.const (.int .i64 0)), none⟩]) (
 .seq (.seq (.region [⟨some 4, .mov (.const (.int .i64 0)), none⟩]) (
  .block 0 (
   .loop (
    .seq (.seq (.region [⟨some 5, .mov (.tmp 4), none⟩,
        ⟨some 6, .mov (.tmp 0), none⟩,
        ⟨some 7, .nilc (.tmp 6), none⟩,
        ⟨some 8, .fadr (.tmp 7) 1, none⟩,
        ⟨some 9, .load1 (.tmp 8), none⟩,
        ⟨some 10, .len (.tmp 9), none⟩,
        ⟨some 11, .bin .lss (.tmp 5) (.tmp 10), none⟩]) (
     .cond (.tmp 11) (
      .skip) (
      .exit 0))) (
    .seq (.block 1 (
      .region [⟨some 14, .mov (.tmp 3), none⟩,
        ⟨some 15, .mov (.tmp 0), none⟩,
        ⟨some 16, .nilc (.tmp 15), none⟩,
        ⟨some 17, .fadr (.tmp 16) 1, none⟩,
        ⟨some 18, .load1 (.tmp 17), none⟩,
        ⟨some 19, .mov (.tmp 4), none⟩,
        ⟨some 20, .iadr (.tmp 18) (.tmp 19) 2, none⟩,
        ⟨some 21, .fadr (.tmp 20) 1, none⟩,
        ⟨some 22, .load1 (.tmp 21), none⟩,
        ⟨some 23, .len (.tmp 22), none⟩,
        ⟨some 24, .call (.func 55) [(.tmp 23)], none⟩,
        ⟨some 25, .bin .add (.tmp 14) (.tmp 24), none⟩,
        ⟨some 3, .mov (.tmp 25), none⟩])) (
    .region [⟨some 12, .mov (.tmp 4), none⟩,
      ⟨some 13, .bin .add (.tmp 12) (.const (.int .i64 1)), none⟩,
      ⟨some 4, .mov (.tmp 13), none⟩])))))) (
 .seq (.region [⟨some 26, .mov (.tmp 3), none⟩,
    ⟨some 2, .mov (.tmp 26), none⟩]) (
 .ret))))
theorem Try.fx62 : FnX Try.prog 62 27 #[.tmp 2] Try.x62 :=
  ⟨Try.f62, Try.func62, by kernel_rfl, by kernel_rfl, by kernel_rfl, by kernel_rfl⟩
end Go.Proofs.Ytkdbajfaaifkaaa
