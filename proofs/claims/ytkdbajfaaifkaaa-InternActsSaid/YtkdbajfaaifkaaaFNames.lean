/- The compiled code of some of the program's functions, printed by a program, and that it is what the compiler of these texts makes of them. -/
import Derived.Test.YtkdbajfaaifkaaaB1
import Derived.Test.YtkdbajfaaifkaaaProg
import Derived.KernelRfl
namespace Go.Proofs.Ytkdbajfaaifkaaa
open Go.Xs
/-- freshet/freshetref1.Valid -/
def Try.x45 : XCode :=
 .seq (.region [⟨some 2, .mov (.const (.bool false)), none⟩]) (
 .seq (.region [⟨some 6, .mov (.tmp 0), none⟩,
    ⟨some 7, .call (.func 71) [(.tmp 6)], none⟩,
    ⟨some 5, .mov (.tmp 7), none⟩,
    ⟨some 8, .ext (.tmp 5) 0, none⟩,
    ⟨some 9, .ext (.tmp 5) 1, none⟩,
    ⟨some 3, .mov (.tmp 8), none⟩,
    ⟨some 4, .mov (.tmp 9), none⟩]) (
 .seq (.region [⟨some 10, .mov (.tmp 4), none⟩,
    ⟨some 2, .mov (.tmp 10), none⟩]) (
 .ret)))
theorem Try.fx45 : FnX Try.prog 45 11 #[.tmp 2] Try.x45 :=
  ⟨Try.f45, Try.func45, by kernel_rfl, by kernel_rfl, by kernel_rfl, by kernel_rfl⟩
/-- freshet/freshetref1.Fold -/
def Try.x46 : XCode :=
 .seq (.region [⟨some 2, .mov (.const (.string ⟨#[]⟩)), none⟩]) (
 .seq (.seq (.region [⟨some 5, .mov (.tmp 0), none⟩,
     ⟨some 6, .call (.func 45) [(.tmp 5)], none⟩,
     ⟨some 7, .un .not (.tmp 6), none⟩]) (
  .cond (.tmp 7) (
   .seq (.region [⟨some 8, .mov (.tmp 0), none⟩,
      ⟨some 2, .mov (.tmp 8), none⟩]) (
   .ret)) (
   .skip))) (
 .seq (.region [⟨some 9, .mov (.tmp 0), none⟩,
    ⟨some 10, .s2b 5 (.tmp 9), none⟩,
    ⟨some 3, .mov (.tmp 10), none⟩]) (
 .seq (.seq (.region [⟨some 4, .mov (.const (.int .i64 0)), none⟩]) (
  .block 0 (
   .loop (
    .seq (.seq (.region [⟨some 11, .mov (.tmp 4), none⟩,
        ⟨some 12, .mov (.tmp 3), none⟩,
        ⟨some 13, .len (.tmp 12), none⟩,
        ⟨some 14, .bin .lss (.tmp 11) (.tmp 13), none⟩]) (
     .cond (.tmp 14) (
      .skip) (
      .exit 0))) (
    .seq (.block 1 (
      .seq (.region [⟨some 17, .mov (.tmp 3), none⟩,
         ⟨some 18, .mov (.tmp 4), none⟩,
         ⟨some 19, .iadr (.tmp 17) (.tmp 18) 1, none⟩,
         ⟨some 20, .load1 (.tmp 19), none⟩,
         ⟨some 21, .bin .geq (.tmp 20) (.const (.int .u8 65)), none⟩,
         ⟨some 22, .mov (.tmp 21), none⟩,
         ⟨some 23, .mov (.tmp 3), some (22, true)⟩,
         ⟨some 24, .mov (.tmp 4), some (22, true)⟩,
         ⟨some 25, .iadr (.tmp 23) (.tmp 24) 1, some (22, true)⟩,
         ⟨some 26, .load1 (.tmp 25), some (22, true)⟩,
         ⟨some 27, .bin .leq (.tmp 26) (.const (.int .u8 90)), some (22, true)⟩,
         ⟨some 28, .pick (.tmp 22) (.tmp 27) (.const (.bool false)), none⟩]) (
      .cond (.tmp 28) (
       .region [⟨some 29, .mov (.tmp 3), none⟩,
         ⟨some 30, .mov (.tmp 4), none⟩,
         ⟨some 31, .mov (.tmp 3), none⟩,
         ⟨some 32, .mov (.tmp 4), none⟩,
         ⟨some 33, .iadr (.tmp 31) (.tmp 32) 1, none⟩,
         ⟨some 34, .load1 (.tmp 33), none⟩,
         ⟨some 35, .bin .add (.tmp 34) (.const (.int .u8 32)), none⟩,
         ⟨some 36, .iadr (.tmp 29) (.tmp 30) 1, none⟩,
         ⟨none, .store 1 (.tmp 36) (.tmp 35), none⟩]) (
       .skip)))) (
    .region [⟨some 15, .mov (.tmp 4), none⟩,
      ⟨some 16, .bin .add (.tmp 15) (.const (.int .i64 1)), none⟩,
      ⟨some 4, .mov (.tmp 16), none⟩])))))) (
 .seq (.region [⟨some 37, .mov (.tmp 3), none⟩,
    ⟨some 38, .b2s (.tmp 37), none⟩,
    ⟨some 2, .mov (.tmp 38), none⟩]) (
 .ret)))))
theorem Try.fx46 : FnX Try.prog 46 39 #[.tmp 2] Try.x46 :=
  ⟨Try.f46, Try.func46, by kernel_rfl, by kernel_rfl, by kernel_rfl, by kernel_rfl⟩
/-- freshet/name.Valid -/
def Try.x65 : XCode :=
 .seq (.region [⟨some 2, .mov (.const (.bool false)), none⟩]) (
 .seq (.region [⟨some 6, .mov (.tmp 0), none⟩,
    ⟨some 7, .call (.func 77) [(.tmp 6)], none⟩,
    ⟨some 5, .mov (.tmp 7), none⟩,
    ⟨some 8, .ext (.tmp 5) 0, none⟩,
    ⟨some 9, .ext (.tmp 5) 1, none⟩,
    ⟨some 3, .mov (.tmp 8), none⟩,
    ⟨some 4, .mov (.tmp 9), none⟩]) (
 .seq (.region [⟨some 10, .mov (.tmp 4), none⟩,
    ⟨some 11, .mov (.tmp 10), none⟩,
    ⟨some 12, .mov (.tmp 3), some (11, true)⟩,
    ⟨some 13, .mov (.tmp 0), some (11, true)⟩,
    ⟨some 14, .slen (.tmp 13), some (11, true)⟩,
    ⟨some 15, .bin .eql (.tmp 12) (.tmp 14), some (11, true)⟩,
    ⟨some 16, .pick (.tmp 11) (.tmp 15) (.const (.bool false)), none⟩,
    ⟨some 2, .mov (.tmp 16), none⟩]) (
 .ret)))
theorem Try.fx65 : FnX Try.prog 65 17 #[.tmp 2] Try.x65 :=
  ⟨Try.f65, Try.func65, by kernel_rfl, by kernel_rfl, by kernel_rfl, by kernel_rfl⟩
/-- freshet/name.Fold -/
def Try.x67 : XCode :=
 .seq (.region [⟨some 2, .mov (.const (.string ⟨#[]⟩)), none⟩]) (
 .seq (.seq (.region [⟨some 3, .mov (.tmp 0), none⟩,
     ⟨some 4, .call (.func 65) [(.tmp 3)], none⟩,
     ⟨some 5, .un .not (.tmp 4), none⟩]) (
  .cond (.tmp 5) (
   .seq (.region [⟨some 6, .mov (.tmp 0), none⟩,
      ⟨some 2, .mov (.tmp 6), none⟩]) (
   .ret)) (
   .skip))) (
 .seq (.region [⟨some 7, .mov (.tmp 0), none⟩,
    ⟨some 8, .call (.func 78) [(.tmp 7)], none⟩,
    ⟨some 2, .mov (.tmp 8), none⟩]) (
 .ret)))
theorem Try.fx67 : FnX Try.prog 67 9 #[.tmp 2] Try.x67 :=
  ⟨Try.f67, Try.func67, by kernel_rfl, by kernel_rfl, by kernel_rfl, by kernel_rfl⟩
/-- freshet/freshetref1.Labels -/
def Try.x71 : XCode :=
 .seq (.region [⟨some 2, .mov (.const (.slice none 0 0)), none⟩,
    ⟨some 3, .mov (.const (.bool false)), none⟩]) (
 .seq (.seq (.region [⟨some 7, .mov (.tmp 0), none⟩,
     ⟨some 8, .slen (.tmp 7), none⟩,
     ⟨some 9, .bin .gtr (.tmp 8) (.const (.int .i64 255)), none⟩]) (
  .cond (.tmp 9) (
   .seq (.region [⟨some 2, .mov (.const (.slice none 0 0)), none⟩,
      ⟨some 3, .mov (.const (.bool false)), none⟩]) (
   .ret)) (
   .skip))) (
 .seq (.region [⟨some 4, .mov (.const (.slice none 0 0)), none⟩]) (
 .seq (.region [⟨some 5, .mov (.const (.int .i64 0)), none⟩]) (
 .seq (.block 0 (
   .loop (
    .seq (.seq (.region [⟨some 10, .mov (.tmp 5), none⟩,
        ⟨some 11, .mov (.tmp 0), none⟩,
        ⟨some 12, .slen (.tmp 11), none⟩,
        ⟨some 13, .bin .lss (.tmp 10) (.tmp 12), none⟩]) (
     .cond (.tmp 13) (
      .skip) (
      .exit 0))) (
    .block 1 (
     .seq (.region [⟨some 14, .mov (.tmp 0), none⟩,
        ⟨some 15, .mov (.tmp 5), none⟩,
        ⟨some 16, .sidx (.tmp 14) (.tmp 15), none⟩,
        ⟨some 17, .conv .i64 (.tmp 16), none⟩,
        ⟨some 6, .mov (.tmp 17), none⟩]) (
     .seq (.seq (.region [⟨some 18, .mov (.tmp 6), none⟩,
         ⟨some 19, .bin .eql (.tmp 18) (.const (.int .i64 0)), none⟩]) (
      .cond (.tmp 19) (
       .seq (.region [⟨some 20, .mov (.tmp 4), none⟩,
          ⟨some 21, .mov (.tmp 5), none⟩,
          ⟨some 22, .mov (.tmp 0), none⟩,
          ⟨some 23, .slen (.tmp 22), none⟩,
          ⟨some 24, .bin .sub (.tmp 23) (.const (.int .i64 1)), none⟩,
          ⟨some 25, .bin .eql (.tmp 21) (.tmp 24), none⟩,
          ⟨some 2, .mov (.tmp 20), none⟩,
          ⟨some 3, .mov (.tmp 25), none⟩]) (
       .ret)) (
       .skip))) (
     .seq (.seq (.region [⟨some 26, .mov (.tmp 6), none⟩,
         ⟨some 27, .bin .gtr (.tmp 26) (.const (.int .i64 63)), none⟩,
         ⟨some 28, .mov (.tmp 27), none⟩,
         ⟨some 29, .mov (.tmp 6), some (28, false)⟩,
         ⟨some 30, .mov (.tmp 0), some (28, false)⟩,
         ⟨some 31, .slen (.tmp 30), some (28, false)⟩,
         ⟨some 32, .mov (.tmp 5), some (28, false)⟩,
         ⟨some 33, .bin .sub (.tmp 31) (.tmp 32), some (28, false)⟩,
         ⟨some 34, .bin .sub (.tmp 33) (.const (.int .i64 1)), some (28, false)⟩,
         ⟨some 35, .bin .gtr (.tmp 29) (.tmp 34), some (28, false)⟩,
         ⟨some 36, .pick (.tmp 28) (.const (.bool true)) (.tmp 35), none⟩]) (
      .cond (.tmp 36) (
       .seq (.region [⟨some 2, .mov (.const (.slice none 0 0)), none⟩,
          ⟨some 3, .mov (.const (.bool false)), none⟩]) (
       .ret)) (
       .skip))) (
     .seq (.region [⟨some 37, .mov (.tmp 4), none⟩,
        ⟨some 38, .mov (.tmp 0), none⟩,
        ⟨some 39, .mov (.tmp 5), none⟩,
        ⟨some 40, .bin .add (.tmp 39) (.const (.int .i64 1)), none⟩,
        ⟨some 41, .mov (.tmp 5), none⟩,
        ⟨some 42, .bin .add (.tmp 41) (.const (.int .i64 1)), none⟩,
        ⟨some 43, .mov (.tmp 6), none⟩,
        ⟨some 44, .bin .add (.tmp 42) (.tmp 43), none⟩,
        ⟨some 45, .sslc (.tmp 38) (some (.tmp 40)) (some (.tmp 44)), none⟩,
        ⟨some 46, .bsl 9 1 1 [(.string ⟨#[]⟩)] [(0, (.tmp 45))], none⟩,
        ⟨some 47, .app 9 1 16 [(.string ⟨#[]⟩)] (.tmp 37) (.tmp 46), none⟩,
        ⟨some 4, .mov (.tmp 47), none⟩]) (
     .region [⟨some 48, .mov (.tmp 5), none⟩,
       ⟨some 49, .bin .add (.tmp 48) (.const (.int .i64 1)), none⟩,
       ⟨some 50, .mov (.tmp 6), none⟩,
       ⟨some 51, .bin .add (.tmp 49) (.tmp 50), none⟩,
       ⟨some 5, .mov (.tmp 51), none⟩]))))))))) (
 .seq (.region [⟨some 2, .mov (.const (.slice none 0 0)), none⟩,
    ⟨some 3, .mov (.const (.bool false)), none⟩]) (
 .ret))))))
theorem Try.fx71 : FnX Try.prog 71 52 #[.tmp 2, .tmp 3] Try.x71 :=
  ⟨Try.f71, Try.func71, by kernel_rfl, by kernel_rfl, by kernel_rfl, by kernel_rfl⟩
/-- freshet/name.Lead -/
def Try.x77 : XCode :=
 .seq (.region [⟨some 2, .mov (.const (.int .i64 0)), none⟩,
    ⟨some 3, .mov (.const (.bool false)), none⟩]) (
 .seq (.seq (.region [⟨some 4, .mov (.const (.int .i64 0)), none⟩]) (
  .block 0 (
   .loop (
    .seq (.seq (.region [⟨some 6, .mov (.tmp 4), none⟩,
        ⟨some 7, .mov (.tmp 0), none⟩,
        ⟨some 8, .slen (.tmp 7), none⟩,
        ⟨some 9, .bin .lss (.tmp 6) (.tmp 8), none⟩,
        ⟨some 10, .mov (.tmp 9), none⟩,
        ⟨some 11, .mov (.tmp 4), some (10, true)⟩,
        ⟨some 12, .bin .lss (.tmp 11) (.const (.int .i64 255)), some (10, true)⟩,
        ⟨some 13, .pick (.tmp 10) (.tmp 12) (.const (.bool false)), none⟩]) (
     .cond (.tmp 13) (
      .skip) (
      .exit 0))) (
    .block 1 (
     .seq (.region [⟨some 14, .mov (.tmp 0), none⟩,
        ⟨some 15, .mov (.tmp 4), none⟩,
        ⟨some 16, .sidx (.tmp 14) (.tmp 15), none⟩,
        ⟨some 17, .conv .i64 (.tmp 16), none⟩,
        ⟨some 5, .mov (.tmp 17), none⟩]) (
     .seq (.region [⟨some 18, .mov (.tmp 4), none⟩,
        ⟨some 19, .bin .add (.tmp 18) (.const (.int .i64 1)), none⟩,
        ⟨some 4, .mov (.tmp 19), none⟩]) (
     .seq (.seq (.region [⟨some 20, .mov (.tmp 5), none⟩,
         ⟨some 21, .bin .eql (.tmp 20) (.const (.int .i64 0)), none⟩]) (
      .cond (.tmp 21) (
       .seq (.region [⟨some 22, .mov (.tmp 4), none⟩,
          ⟨some 2, .mov (.tmp 22), none⟩,
          ⟨some 3, .mov (.const (.bool true)), none⟩]) (
       .ret)) (
       .skip))) (
     .seq (.region [⟨some 23, .mov (.tmp 4), none⟩,
        ⟨some 24, .mov (.tmp 5), none⟩,
        ⟨some 25, .bin .add (.tmp 23) (.tmp 24), none⟩,
        ⟨some 4, .mov (.tmp 25), none⟩]) (
     .seq (.region [⟨some 26, .mov (.tmp 5), none⟩,
        ⟨some 27, .bin .gtr (.tmp 26) (.const (.int .i64 63)), none⟩]) (
     .cond (.tmp 27) (
      .exit 0) (
      .skip)))))))))))) (
 .seq (.region [⟨some 2, .mov (.const (.int .i64 0)), none⟩,
    ⟨some 3, .mov (.const (.bool false)), none⟩]) (
 .ret)))
theorem Try.fx77 : FnX Try.prog 77 28 #[.tmp 2, .tmp 3] Try.x77 :=
  ⟨Try.f77, Try.func77, by kernel_rfl, by kernel_rfl, by kernel_rfl, by kernel_rfl⟩
/-- freshet/name.fold -/
def Try.x78 : XCode :=
 .seq (.region [⟨some 2, .mov (.const (.string ⟨#[]⟩)), none⟩]) (
 .seq (.region [⟨some 6, .mov (.tmp 0), none⟩,
    ⟨some 7, .s2b 5 (.tmp 6), none⟩,
    ⟨some 3, .mov (.tmp 7), none⟩]) (
 .seq (.seq (.region [⟨some 8, .mov (.tmp 3), none⟩,
     ⟨some 9, .len (.tmp 8), none⟩,
     ⟨some 10, .mov (.const (.int .i64 0)), none⟩]) (
  .block 0 (
   .loop (
    .seq (.region [⟨some 11, .bin .lss (.tmp 10) (.tmp 9), none⟩]) (
    .seq (.cond (.tmp 11) (
      .skip) (
      .exit 0)) (
    .seq (.block 1 (
      .seq (.region [⟨some 12, .mov (.tmp 10), none⟩,
         ⟨some 13, .iadr (.tmp 8) (.tmp 10) 1, none⟩,
         ⟨some 14, .load1 (.tmp 13), none⟩,
         ⟨some 4, .mov (.tmp 12), none⟩,
         ⟨some 5, .mov (.tmp 14), none⟩]) (
      .seq (.region [⟨some 15, .mov (.tmp 5), none⟩,
         ⟨some 16, .bin .geq (.tmp 15) (.const (.int .u8 65)), none⟩,
         ⟨some 17, .mov (.tmp 16), none⟩,
         ⟨some 18, .mov (.tmp 5), some (17, true)⟩,
         ⟨some 19, .bin .leq (.tmp 18) (.const (.int .u8 90)), some (17, true)⟩,
         ⟨some 20, .pick (.tmp 17) (.tmp 19) (.const (.bool false)), none⟩]) (
      .cond (.tmp 20) (
       .region [⟨some 21, .mov (.tmp 3), none⟩,
         ⟨some 22, .mov (.tmp 4), none⟩,
         ⟨some 23, .mov (.tmp 5), none⟩,
         ⟨some 24, .bin .add (.tmp 23) (.const (.int .u8 97)), none⟩,
         ⟨some 25, .bin .sub (.tmp 24) (.const (.int .u8 65)), none⟩,
         ⟨some 26, .iadr (.tmp 21) (.tmp 22) 1, none⟩,
         ⟨none, .store 1 (.tmp 26) (.tmp 25), none⟩]) (
       .skip))))) (
    .region [⟨some 27, .bin .add (.tmp 10) (.const (.int .i64 1)), none⟩,
      ⟨some 10, .mov (.tmp 27), none⟩]))))))) (
 .seq (.region [⟨some 28, .mov (.tmp 3), none⟩,
    ⟨some 29, .b2s (.tmp 28), none⟩,
    ⟨some 2, .mov (.tmp 29), none⟩]) (
 .ret))))
theorem Try.fx78 : FnX Try.prog 78 30 #[.tmp 2] Try.x78 :=
  ⟨Try.f78, Try.func78, by kernel_rfl, by kernel_rfl, by kernel_rfl, by kernel_rfl⟩
end Go.Proofs.Ytkdbajfaaifkaaa
