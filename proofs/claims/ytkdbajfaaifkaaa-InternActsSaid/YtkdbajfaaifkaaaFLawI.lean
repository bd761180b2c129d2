/- The compiled code of some of the program's functions, printed by a program, and that it is what the compiler of these texts makes of them. -/
import Derived.Test.YtkdbajfaaifkaaaB1
import Derived.Test.YtkdbajfaaifkaaaProg
import Derived.KernelRfl
namespace Go.Proofs.Ytkdbajfaaifkaaa
open Go.Xs
/-- freshet/freshetlaw7.InternActs -/
def Try.x9 : XCode :=
 .seq (.region [⟨some 6, .mov (.const (.bool false)), none⟩]) (
 .seq (.seq (.region [⟨some 23, .mov (.tmp 0), none⟩,
     ⟨some 24, .bin .lss (.tmp 23) (.const (.int .i64 1024)), none⟩,
     ⟨some 25, .mov (.tmp 24), none⟩,
     ⟨some 26, .mov (.tmp 0), some (25, false)⟩,
     ⟨some 27, .bin .gtr (.tmp 26) (.const (.int .i64 4096)), some (25, false)⟩,
     ⟨some 28, .pick (.tmp 25) (.const (.bool true)) (.tmp 27), none⟩,
     ⟨some 29, .mov (.tmp 28), none⟩,
     ⟨some 30, .mov (.tmp 1), some (29, false)⟩,
     ⟨some 31, .call (.func 33) [(.tmp 30)], some (29, false)⟩,
     ⟨some 32, .un .not (.tmp 31), some (29, false)⟩,
     ⟨some 33, .pick (.tmp 29) (.const (.bool true)) (.tmp 32), none⟩,
     ⟨some 34, .mov (.tmp 33), none⟩,
     ⟨some 35, .mov (.tmp 2), some (34, false)⟩,
     ⟨some 36, .slen (.tmp 35), some (34, false)⟩,
     ⟨some 37, .bin .gtr (.tmp 36) (.const (.int .i64 300)), some (34, false)⟩,
     ⟨some 38, .pick (.tmp 34) (.const (.bool true)) (.tmp 37), none⟩]) (
  .cond (.tmp 38) (
   .seq (.region [⟨some 39, .call (.func 34) [], none⟩,
      ⟨some 6, .mov (.tmp 39), none⟩]) (
   .ret)) (
   .skip))) (
 .seq (.region [⟨some 41, .mov (.tmp 0), none⟩,
    ⟨some 42, .call (.func 15) [(.tmp 41)], none⟩,
    ⟨some 40, .mov (.tmp 42), none⟩,
    ⟨some 43, .ext (.tmp 40) 0, none⟩,
    ⟨some 44, .ext (.tmp 40) 1, none⟩,
    ⟨some 7, .mov (.tmp 43), none⟩,
    ⟨some 8, .mov (.tmp 44), none⟩]) (
 .seq (.region [⟨some 45, .mov (.tmp 7), none⟩,
    ⟨some 46, .call (.func 35) [(.tmp 45)], none⟩,
    ⟨some 9, .mov (.tmp 46), none⟩]) (
 .seq (.seq (.region [⟨some 47, .mov (.tmp 8), none⟩,
     ⟨some 48, .bin .neq (.tmp 47) (.const (.int .i64 0)), none⟩,
     ⟨some 49, .mov (.tmp 48), none⟩,
     ⟨some 50, .mov (.tmp 9), some (49, false)⟩,
     ⟨some 51, .eqn 0 false (.tmp 50) (.const (.pointer none)), some (49, false)⟩,
     ⟨some 52, .pick (.tmp 49) (.const (.bool true)) (.tmp 51), none⟩]) (
  .cond (.tmp 52) (
   .seq (.region [⟨some 6, .mov (.const (.bool false)), none⟩]) (
   .ret)) (
   .skip))) (
 .seq (.region [⟨some 53, .mov (.tmp 0), none⟩,
    ⟨some 54, .build [(.int .i64 0), (.slice none 0 0)] [(0, 1, (.tmp 53))], none⟩,
    ⟨some 55, .box 41 (.tmp 54), none⟩,
    ⟨some 56, .build [(.pointer none), (.slice none 0 0)] [(0, 1, (.tmp 55))], none⟩,
    ⟨some 57, .box 70 (.tmp 56), none⟩,
    ⟨some 10, .mov (.tmp 57), none⟩]) (
 .seq (.region [⟨some 11, .mov (.const (.slice none 0 0)), none⟩]) (
 .seq (.seq (.region [⟨some 12, .mov (.const (.int .i64 0)), none⟩]) (
  .block 0 (
   .loop (
    .seq (.seq (.region [⟨some 58, .mov (.tmp 12), none⟩,
        ⟨some 59, .mov (.tmp 1), none⟩,
        ⟨some 60, .len (.tmp 59), none⟩,
        ⟨some 61, .bin .lss (.tmp 58) (.tmp 60), none⟩]) (
     .cond (.tmp 61) (
      .skip) (
      .exit 0))) (
    .seq (.block 1 (
      .seq (.region [⟨some 64, .mov (.tmp 1), none⟩,
         ⟨some 65, .mov (.tmp 12), none⟩,
         ⟨some 66, .iadr (.tmp 64) (.tmp 65) 3, none⟩,
         ⟨some 67, .loadN 3 (.tmp 66), none⟩,
         ⟨some 13, .alloc 72 [(.int .i64 0), (.string ⟨#[]⟩), (.int .i64 0)], none⟩,
         ⟨none, .store 3 (.tmp 13) (.tmp 67), none⟩]) (
      .seq (.seq (.region [⟨some 68, .fadr (.tmp 13) 0, none⟩,
          ⟨some 69, .load1 (.tmp 68), none⟩]) (
       .block 2 (
        .seq (.region [⟨some 71, .bin .eql (.tmp 69) (.const (.int .i64 1)), none⟩,
           ⟨some 70, .mov (.tmp 71), none⟩]) (
        .cond (.tmp 70) (
         .seq (.region [⟨some 73, .mov (.tmp 9), none⟩,
            ⟨some 74, .fadr (.tmp 13) 1, none⟩,
            ⟨some 75, .load1 (.tmp 74), none⟩,
            ⟨some 76, .call (.func 36) [(.tmp 73), (.tmp 75)], none⟩,
            ⟨some 72, .mov (.tmp 76), none⟩,
            ⟨some 77, .ext (.tmp 72) 0, none⟩,
            ⟨some 78, .ext (.tmp 72) 1, none⟩,
            ⟨some 14, .mov (.tmp 77), none⟩,
            ⟨some 15, .mov (.tmp 78), none⟩]) (
         .seq (.region [⟨some 80, .mov (.tmp 10), none⟩,
            ⟨some 81, .fadr (.tmp 13) 1, none⟩,
            ⟨some 82, .load1 (.tmp 81), none⟩,
            ⟨some 83, .call (.func 37) [(.tmp 80), (.tmp 82)], none⟩,
            ⟨some 79, .mov (.tmp 83), none⟩,
            ⟨some 84, .ext (.tmp 79) 0, none⟩,
            ⟨some 85, .ext (.tmp 79) 1, none⟩,
            ⟨some 16, .mov (.tmp 84), none⟩,
            ⟨some 17, .mov (.tmp 85), none⟩]) (
         .seq (.seq (.region [⟨some 86, .mov (.tmp 14), none⟩,
             ⟨some 87, .mov (.tmp 16), none⟩,
             ⟨some 88, .bin .neq (.tmp 86) (.tmp 87), none⟩,
             ⟨some 89, .mov (.tmp 88), none⟩,
             ⟨some 90, .mov (.tmp 15), some (89, false)⟩,
             ⟨some 91, .mov (.tmp 17), some (89, false)⟩,
             ⟨some 92, .bin .neq (.tmp 90) (.tmp 91), some (89, false)⟩,
             ⟨some 93, .pick (.tmp 89) (.const (.bool true)) (.tmp 92), none⟩]) (
          .cond (.tmp 93) (
           .seq (.region [⟨some 6, .mov (.const (.bool false)), none⟩]) (
           .ret)) (
           .skip))) (
         .region [⟨some 94, .mov (.tmp 11), none⟩,
           ⟨some 95, .mov (.tmp 14), none⟩,
           ⟨some 96, .bsl 3 1 1 [(.int .i64 0)] [(0, (.tmp 95))], none⟩,
           ⟨some 97, .app 3 1 8 [(.int .i64 0)] (.tmp 94) (.tmp 96), none⟩,
           ⟨some 11, .mov (.tmp 97), none⟩])))) (
         .seq (.region [⟨some 99, .bin .eql (.tmp 69) (.const (.int .i64 2)), none⟩,
            ⟨some 98, .mov (.tmp 99), none⟩]) (
         .cond (.tmp 98) (
          .seq (.region [⟨some 100, .fadr (.tmp 13) 2, none⟩,
             ⟨some 101, .load1 (.tmp 100), none⟩,
             ⟨some 18, .mov (.tmp 101), none⟩]) (
          .seq (.seq (.region [⟨some 102, .mov (.tmp 11), none⟩,
              ⟨some 103, .len (.tmp 102), none⟩,
              ⟨some 104, .bin .gtr (.tmp 103) (.const (.int .i64 0)), none⟩]) (
           .cond (.tmp 104) (
            .region [⟨some 105, .mov (.tmp 11), none⟩,
              ⟨some 106, .fadr (.tmp 13) 2, none⟩,
              ⟨some 107, .load1 (.tmp 106), none⟩,
              ⟨some 108, .mov (.tmp 11), none⟩,
              ⟨some 109, .len (.tmp 108), none⟩,
              ⟨some 110, .call (.func 29) [(.tmp 107), (.tmp 109)], none⟩,
              ⟨some 111, .iadr (.tmp 105) (.tmp 110) 1, none⟩,
              ⟨some 112, .load1 (.tmp 111), none⟩,
              ⟨some 18, .mov (.tmp 112), none⟩]) (
            .skip))) (
          .seq (.region [⟨some 113, .mov (.tmp 9), none⟩,
             ⟨some 114, .mov (.tmp 18), none⟩,
             ⟨some 115, .call (.func 38) [(.tmp 113), (.tmp 114)], none⟩,
             ⟨some 116, .mov (.tmp 10), none⟩,
             ⟨some 117, .mov (.tmp 18), none⟩,
             ⟨some 118, .call (.func 39) [(.tmp 116), (.tmp 117)], none⟩,
             ⟨some 119, .bin .neq (.tmp 115) (.tmp 118), none⟩]) (
          .cond (.tmp 119) (
           .seq (.region [⟨some 6, .mov (.const (.bool false)), none⟩]) (
           .ret)) (
           .skip))))) (
          .skip))))))) (
      .seq (.region [⟨some 120, .mov (.tmp 9), none⟩,
         ⟨some 121, .mov (.tmp 7), none⟩,
         ⟨some 122, .mov (.tmp 10), none⟩,
         ⟨some 123, .call (.func 40) [(.tmp 120), (.tmp 121), (.tmp 122)], none⟩,
         ⟨some 124, .un .not (.tmp 123), none⟩]) (
      .cond (.tmp 124) (
       .seq (.region [⟨some 6, .mov (.const (.bool false)), none⟩]) (
       .ret)) (
       .skip)))))) (
    .region [⟨some 62, .mov (.tmp 12), none⟩,
      ⟨some 63, .bin .add (.tmp 62) (.const (.int .i64 1)), none⟩,
      ⟨some 12, .mov (.tmp 63), none⟩])))))) (
 .seq (.region [⟨some 126, .mov (.tmp 9), none⟩,
    ⟨some 127, .mov (.tmp 2), none⟩,
    ⟨some 128, .call (.func 41) [(.tmp 126), (.tmp 127)], none⟩,
    ⟨some 125, .mov (.tmp 128), none⟩,
    ⟨some 129, .ext (.tmp 125) 0, none⟩,
    ⟨some 130, .ext (.tmp 125) 1, none⟩,
    ⟨some 19, .mov (.tmp 129), none⟩,
    ⟨some 20, .mov (.tmp 130), none⟩]) (
 .seq (.region [⟨some 132, .mov (.tmp 10), none⟩,
    ⟨some 133, .mov (.tmp 2), none⟩,
    ⟨some 134, .call (.func 42) [(.tmp 132), (.tmp 133)], none⟩,
    ⟨some 131, .mov (.tmp 134), none⟩,
    ⟨some 135, .ext (.tmp 131) 0, none⟩,
    ⟨some 136, .ext (.tmp 131) 1, none⟩,
    ⟨some 21, .mov (.tmp 135), none⟩,
    ⟨some 22, .mov (.tmp 136), none⟩]) (
 .seq (.region [⟨some 137, .mov (.tmp 19), none⟩,
    ⟨some 138, .mov (.tmp 21), none⟩,
    ⟨some 139, .bin .eql (.tmp 137) (.tmp 138), none⟩,
    ⟨some 140, .mov (.tmp 139), none⟩,
    ⟨some 141, .mov (.tmp 20), some (140, true)⟩,
    ⟨some 142, .mov (.tmp 22), some (140, true)⟩,
    ⟨some 143, .eqb false (.tmp 141) (.tmp 142), some (140, true)⟩,
    ⟨some 144, .pick (.tmp 140) (.tmp 143) (.const (.bool false)), none⟩,
    ⟨some 145, .mov (.tmp 144), none⟩,
    ⟨some 146, .mov (.tmp 9), some (145, true)⟩,
    ⟨some 147, .mov (.tmp 2), some (145, true)⟩,
    ⟨some 148, .call (.func 43) [(.tmp 146), (.tmp 147)], some (145, true)⟩,
    ⟨some 149, .mov (.tmp 10), some (145, true)⟩,
    ⟨some 150, .mov (.tmp 2), some (145, true)⟩,
    ⟨some 151, .call (.func 44) [(.tmp 149), (.tmp 150)], some (145, true)⟩,
    ⟨some 152, .bin .eql (.tmp 148) (.tmp 151), some (145, true)⟩,
    ⟨some 153, .pick (.tmp 145) (.tmp 152) (.const (.bool false)), none⟩,
    ⟨some 154, .mov (.tmp 153), none⟩,
    ⟨some 155, .call (.func 34) [], some (154, true)⟩,
    ⟨some 156, .pick (.tmp 154) (.tmp 155) (.const (.bool false)), none⟩,
    ⟨some 6, .mov (.tmp 156), none⟩]) (
 .ret)))))))))))
theorem Try.fx9 : FnX Try.prog 9 157 #[.tmp 6] Try.x9 :=
  ⟨Try.f9, Try.func9, by kernel_rfl, by kernel_rfl, by kernel_rfl, by kernel_rfl⟩
/-- freshet/freshetlaw7.InternOnce -/
def Try.x10 : XCode :=
 .seq (.region [⟨some 4, .mov (.const (.bool false)), none⟩]) (
 .seq (.seq (.region [⟨some 16, .mov (.tmp 0), none⟩,
     ⟨some 17, .slen (.tmp 16), none⟩,
     ⟨some 18, .bin .gtr (.tmp 17) (.const (.int .i64 255)), none⟩,
     ⟨some 19, .mov (.tmp 18), none⟩,
     ⟨some 20, .mov (.tmp 0), some (19, false)⟩,
     ⟨some 21, .call (.func 45) [(.tmp 20)], some (19, false)⟩,
     ⟨some 22, .un .not (.tmp 21), some (19, false)⟩,
     ⟨some 23, .pick (.tmp 19) (.const (.bool true)) (.tmp 22), none⟩,
     ⟨some 24, .mov (.tmp 23), none⟩,
     ⟨some 25, .mov (.tmp 1), some (24, false)⟩,
     ⟨some 26, .bin .lss (.tmp 25) (.const (.int .i64 1)), some (24, false)⟩,
     ⟨some 27, .pick (.tmp 24) (.const (.bool true)) (.tmp 26), none⟩,
     ⟨some 28, .mov (.tmp 27), none⟩,
     ⟨some 29, .mov (.tmp 1), some (28, false)⟩,
     ⟨some 30, .bin .gtr (.tmp 29) (.const (.int .i64 30)), some (28, false)⟩,
     ⟨some 31, .pick (.tmp 28) (.const (.bool true)) (.tmp 30), none⟩]) (
  .cond (.tmp 31) (
   .seq (.region [⟨some 32, .call (.func 34) [], none⟩,
      ⟨some 4, .mov (.tmp 32), none⟩]) (
   .ret)) (
   .skip))) (
 .seq (.region [⟨some 34, .call (.func 15) [(.const (.int .i64 4096))], none⟩,
    ⟨some 33, .mov (.tmp 34), none⟩,
    ⟨some 35, .ext (.tmp 33) 0, none⟩,
    ⟨some 36, .ext (.tmp 33) 1, none⟩,
    ⟨some 5, .mov (.tmp 35), none⟩,
    ⟨some 6, .mov (.tmp 36), none⟩]) (
 .seq (.region [⟨some 37, .mov (.tmp 5), none⟩,
    ⟨some 38, .call (.func 35) [(.tmp 37)], none⟩,
    ⟨some 7, .mov (.tmp 38), none⟩]) (
 .seq (.seq (.region [⟨some 39, .mov (.tmp 6), none⟩,
     ⟨some 40, .bin .neq (.tmp 39) (.const (.int .i64 0)), none⟩,
     ⟨some 41, .mov (.tmp 40), none⟩,
     ⟨some 42, .mov (.tmp 7), some (41, false)⟩,
     ⟨some 43, .eqn 0 false (.tmp 42) (.const (.pointer none)), some (41, false)⟩,
     ⟨some 44, .pick (.tmp 41) (.const (.bool true)) (.tmp 43), none⟩]) (
  .cond (.tmp 44) (
   .seq (.region [⟨some 4, .mov (.const (.bool false)), none⟩]) (
   .ret)) (
   .skip))) (
 .seq (.region [⟨some 8, .mov (.const (.int .i64 0)), none⟩]) (
 .seq (.seq (.region [⟨some 9, .mov (.const (.int .i64 0)), none⟩]) (
  .block 0 (
   .loop (
    .seq (.seq (.region [⟨some 45, .mov (.tmp 9), none⟩,
        ⟨some 46, .mov (.tmp 1), none⟩,
        ⟨some 47, .bin .lss (.tmp 45) (.tmp 46), none⟩]) (
     .cond (.tmp 47) (
      .skip) (
      .exit 0))) (
    .seq (.block 1 (
      .seq (.region [⟨some 50, .mov (.tmp 0), none⟩,
         ⟨some 10, .mov (.tmp 50), none⟩]) (
      .seq (.seq (.region [⟨some 51, .mov (.tmp 9), none⟩,
          ⟨some 52, .bin .rem (.tmp 51) (.const (.int .i64 2)), none⟩,
          ⟨some 53, .bin .eql (.tmp 52) (.const (.int .i64 1)), none⟩]) (
       .cond (.tmp 53) (
        .region [⟨some 54, .mov (.tmp 0), none⟩,
          ⟨some 55, .call (.func 46) [(.tmp 54)], none⟩,
          ⟨some 10, .mov (.tmp 55), none⟩]) (
        .skip))) (
      .seq (.region [⟨some 57, .mov (.tmp 7), none⟩,
         ⟨some 58, .mov (.tmp 10), none⟩,
         ⟨some 59, .call (.func 36) [(.tmp 57), (.tmp 58)], none⟩,
         ⟨some 56, .mov (.tmp 59), none⟩,
         ⟨some 60, .ext (.tmp 56) 0, none⟩,
         ⟨some 61, .ext (.tmp 56) 1, none⟩,
         ⟨some 11, .mov (.tmp 60), none⟩,
         ⟨some 12, .mov (.tmp 61), none⟩]) (
      .seq (.seq (.region [⟨some 62, .mov (.tmp 12), none⟩,
          ⟨some 63, .bin .neq (.tmp 62) (.const (.int .i64 0)), none⟩,
          ⟨some 64, .mov (.tmp 63), none⟩,
          ⟨some 65, .mov (.tmp 9), some (64, false)⟩,
          ⟨some 66, .bin .gtr (.tmp 65) (.const (.int .i64 0)), some (64, false)⟩,
          ⟨some 67, .mov (.tmp 66), some (64, false)⟩,
          ⟨some 68, .mov (.tmp 11), some (67, true)⟩,
          ⟨some 69, .mov (.tmp 8), some (67, true)⟩,
          ⟨some 70, .bin .neq (.tmp 68) (.tmp 69), some (67, true)⟩,
          ⟨some 71, .pick (.tmp 67) (.tmp 70) (.const (.bool false)), some (64, false)⟩,
          ⟨some 72, .pick (.tmp 64) (.const (.bool true)) (.tmp 71), none⟩,
          ⟨some 73, .mov (.tmp 72), none⟩,
          ⟨some 74, .mov (.tmp 7), some (73, false)⟩,
          ⟨some 75, .mov (.tmp 11), some (73, false)⟩,
          ⟨some 76, .call (.func 47) [(.tmp 74), (.tmp 75)], some (73, false)⟩,
          ⟨some 77, .mov (.tmp 9), some (73, false)⟩,
          ⟨some 78, .bin .add (.tmp 77) (.const (.int .i64 1)), some (73, false)⟩,
          ⟨some 79, .bin .neq (.tmp 76) (.tmp 78), some (73, false)⟩,
          ⟨some 80, .pick (.tmp 73) (.const (.bool true)) (.tmp 79), none⟩,
          ⟨some 81, .mov (.tmp 80), none⟩,
          ⟨some 82, .mov (.tmp 7), some (81, false)⟩,
          ⟨some 83, .call (.func 48) [(.tmp 82)], some (81, false)⟩,
          ⟨some 84, .bin .neq (.tmp 83) (.const (.int .i64 1)), some (81, false)⟩,
          ⟨some 85, .pick (.tmp 81) (.const (.bool true)) (.tmp 84), none⟩,
          ⟨some 86, .mov (.tmp 85), none⟩,
          ⟨some 87, .mov (.tmp 5), some (86, false)⟩,
          ⟨some 88, .call (.func 31) [(.tmp 87)], some (86, false)⟩,
          ⟨some 89, .mov (.tmp 0), some (86, false)⟩,
          ⟨some 90, .slen (.tmp 89), some (86, false)⟩,
          ⟨some 91, .bin .add (.tmp 90) (.const (.int .i64 8)), some (86, false)⟩,
          ⟨some 92, .call (.func 13) [(.tmp 91)], some (86, false)⟩,
          ⟨some 93, .bin .neq (.tmp 88) (.tmp 92), some (86, false)⟩,
          ⟨some 94, .pick (.tmp 86) (.const (.bool true)) (.tmp 93), none⟩]) (
       .cond (.tmp 94) (
        .seq (.region [⟨some 4, .mov (.const (.bool false)), none⟩]) (
        .ret)) (
        .skip))) (
      .region [⟨some 95, .mov (.tmp 11), none⟩,
        ⟨some 8, .mov (.tmp 95), none⟩])))))) (
    .region [⟨some 48, .mov (.tmp 9), none⟩,
      ⟨some 49, .bin .add (.tmp 48) (.const (.int .i64 1)), none⟩,
      ⟨some 9, .mov (.tmp 49), none⟩])))))) (
 .seq (.seq (.region [⟨some 13, .mov (.const (.int .i64 0)), none⟩]) (
  .block 2 (
   .loop (
    .seq (.seq (.region [⟨some 96, .mov (.tmp 13), none⟩,
        ⟨some 97, .mov (.tmp 1), none⟩,
        ⟨some 98, .bin .lss (.tmp 96) (.tmp 97), none⟩]) (
     .cond (.tmp 98) (
      .skip) (
      .exit 2))) (
    .seq (.block 3 (
      .seq (.region [⟨some 101, .mov (.tmp 7), none⟩,
         ⟨some 102, .mov (.tmp 8), none⟩,
         ⟨some 103, .call (.func 47) [(.tmp 101), (.tmp 102)], none⟩,
         ⟨some 104, .mov (.tmp 1), none⟩,
         ⟨some 105, .mov (.tmp 13), none⟩,
         ⟨some 106, .bin .sub (.tmp 104) (.tmp 105), none⟩,
         ⟨some 107, .bin .neq (.tmp 103) (.tmp 106), none⟩,
         ⟨some 108, .mov (.tmp 107), none⟩,
         ⟨some 109, .mov (.tmp 7), some (108, false)⟩,
         ⟨some 110, .mov (.tmp 8), some (108, false)⟩,
         ⟨some 111, .call (.func 38) [(.tmp 109), (.tmp 110)], some (108, false)⟩,
         ⟨some 112, .bin .neq (.tmp 111) (.const (.int .i64 0)), some (108, false)⟩,
         ⟨some 113, .pick (.tmp 108) (.const (.bool true)) (.tmp 112), none⟩]) (
      .cond (.tmp 113) (
       .seq (.region [⟨some 4, .mov (.const (.bool false)), none⟩]) (
       .ret)) (
       .skip)))) (
    .region [⟨some 99, .mov (.tmp 13), none⟩,
      ⟨some 100, .bin .add (.tmp 99) (.const (.int .i64 1)), none⟩,
      ⟨some 13, .mov (.tmp 100), none⟩])))))) (
 .seq (.region [⟨some 115, .mov (.tmp 7), none⟩,
    ⟨some 116, .mov (.tmp 0), none⟩,
    ⟨some 117, .call (.func 41) [(.tmp 115), (.tmp 116)], none⟩,
    ⟨some 114, .mov (.tmp 117), none⟩,
    ⟨some 118, .ext (.tmp 114) 0, none⟩,
    ⟨some 119, .ext (.tmp 114) 1, none⟩,
    ⟨some 14, .mov (.tmp 118), none⟩,
    ⟨some 15, .mov (.tmp 119), none⟩]) (
 .seq (.region [⟨some 120, .mov (.tmp 15), none⟩,
    ⟨some 121, .un .not (.tmp 120), none⟩,
    ⟨some 122, .mov (.tmp 121), none⟩,
    ⟨some 123, .mov (.tmp 7), some (122, true)⟩,
    ⟨some 124, .call (.func 48) [(.tmp 123)], some (122, true)⟩,
    ⟨some 125, .bin .eql (.tmp 124) (.const (.int .i64 0)), some (122, true)⟩,
    ⟨some 126, .pick (.tmp 122) (.tmp 125) (.const (.bool false)), none⟩,
    ⟨some 127, .mov (.tmp 126), none⟩,
    ⟨some 128, .mov (.tmp 5), some (127, true)⟩,
    ⟨some 129, .call (.func 31) [(.tmp 128)], some (127, true)⟩,
    ⟨some 130, .bin .eql (.tmp 129) (.const (.int .i64 0)), some (127, true)⟩,
    ⟨some 131, .pick (.tmp 127) (.tmp 130) (.const (.bool false)), none⟩,
    ⟨some 132, .mov (.tmp 131), none⟩,
    ⟨some 133, .mov (.tmp 7), some (132, true)⟩,
    ⟨some 134, .mov (.tmp 8), some (132, true)⟩,
    ⟨some 135, .call (.func 38) [(.tmp 133), (.tmp 134)], some (132, true)⟩,
    ⟨some 136, .bin .eql (.tmp 135) (.const (.int .i64 5)), some (132, true)⟩,
    ⟨some 137, .pick (.tmp 132) (.tmp 136) (.const (.bool false)), none⟩,
    ⟨some 138, .mov (.tmp 137), none⟩,
    ⟨some 139, .call (.func 34) [], some (138, true)⟩,
    ⟨some 140, .pick (.tmp 138) (.tmp 139) (.const (.bool false)), none⟩,
    ⟨some 4, .mov (.tmp 140), none⟩]) (
 .ret))))))))))
theorem Try.fx10 : FnX Try.prog 10 141 #[.tmp 4] Try.x10 :=
  ⟨Try.f10, Try.func10, by kernel_rfl, by kernel_rfl, by kernel_rfl, by kernel_rfl⟩
/-- freshet/freshetlaw7.InternFull -/
def Try.x11 : XCode :=
 .seq (.region [⟨some 2, .mov (.const (.bool false)), none⟩]) (
 .seq (.seq (.region [⟨some 14, .mov (.tmp 0), none⟩,
     ⟨some 15, .bin .lss (.tmp 14) (.const (.int .i64 1)), none⟩,
     ⟨some 16, .mov (.tmp 15), none⟩,
     ⟨some 17, .mov (.tmp 0), some (16, false)⟩,
     ⟨some 18, .bin .gtr (.tmp 17) (.const (.int .i64 60)), some (16, false)⟩,
     ⟨some 19, .pick (.tmp 16) (.const (.bool true)) (.tmp 18), none⟩]) (
  .cond (.tmp 19) (
   .seq (.region [⟨some 20, .call (.func 34) [], none⟩,
      ⟨some 2, .mov (.tmp 20), none⟩]) (
   .ret)) (
   .skip))) (
 .seq (.region [⟨some 22, .call (.func 15) [(.const (.int .i64 1024))], none⟩,
    ⟨some 21, .mov (.tmp 22), none⟩,
    ⟨some 23, .ext (.tmp 21) 0, none⟩,
    ⟨some 24, .ext (.tmp 21) 1, none⟩,
    ⟨some 3, .mov (.tmp 23), none⟩,
    ⟨some 4, .mov (.tmp 24), none⟩]) (
 .seq (.region [⟨some 25, .mov (.tmp 3), none⟩,
    ⟨some 26, .call (.func 35) [(.tmp 25)], none⟩,
    ⟨some 5, .mov (.tmp 26), none⟩]) (
 .seq (.seq (.region [⟨some 27, .mov (.tmp 4), none⟩,
     ⟨some 28, .bin .neq (.tmp 27) (.const (.int .i64 0)), none⟩,
     ⟨some 29, .mov (.tmp 28), none⟩,
     ⟨some 30, .mov (.tmp 5), some (29, false)⟩,
     ⟨some 31, .eqn 0 false (.tmp 30) (.const (.pointer none)), some (29, false)⟩,
     ⟨some 32, .pick (.tmp 29) (.const (.bool true)) (.tmp 31), none⟩]) (
  .cond (.tmp 32) (
   .seq (.region [⟨some 2, .mov (.const (.bool false)), none⟩]) (
   .ret)) (
   .skip))) (
 .seq (.region [⟨some 6, .mov (.const (.int .i64 0)), none⟩]) (
 .seq (.seq (.region [⟨some 7, .mov (.const (.int .i64 0)), none⟩]) (
  .block 0 (
   .loop (
    .seq (.seq (.region [⟨some 33, .mov (.tmp 7), none⟩,
        ⟨some 34, .mov (.tmp 0), none⟩,
        ⟨some 35, .bin .lss (.tmp 33) (.tmp 34), none⟩]) (
     .cond (.tmp 35) (
      .skip) (
      .exit 0))) (
    .seq (.block 1 (
      .seq (.region [⟨some 39, .mov (.tmp 5), none⟩,
         ⟨some 40, .mov (.tmp 7), none⟩,
         ⟨some 41, .bin .quo (.tmp 40) (.const (.int .i64 26)), none⟩,
         ⟨some 42, .bin .add (.const (.int .i64 97)) (.tmp 41), none⟩,
         ⟨some 43, .conv .u8 (.tmp 42), none⟩,
         ⟨some 44, .mov (.tmp 7), none⟩,
         ⟨some 45, .bin .rem (.tmp 44) (.const (.int .i64 26)), none⟩,
         ⟨some 46, .bin .add (.const (.int .i64 97)) (.tmp 45), none⟩,
         ⟨some 47, .conv .u8 (.tmp 46), none⟩,
         ⟨some 48, .bsl 5 2 1 [(.int .u8 0)] [(0, (.tmp 43)), (1, (.tmp 47))], none⟩,
         ⟨some 49, .b2s (.tmp 48), none⟩,
         ⟨some 50, .bin .add (.const (.string ⟨#[2]⟩)) (.tmp 49), none⟩,
         ⟨some 51, .bin .add (.tmp 50) (.const (.string ⟨#[0]⟩)), none⟩,
         ⟨some 52, .call (.func 36) [(.tmp 39), (.tmp 51)], none⟩,
         ⟨some 38, .mov (.tmp 52), none⟩,
         ⟨some 53, .ext (.tmp 38) 0, none⟩,
         ⟨some 54, .ext (.tmp 38) 1, none⟩,
         ⟨some 8, .mov (.tmp 53), none⟩,
         ⟨some 9, .mov (.tmp 54), none⟩]) (
      .seq (.seq (.region [⟨some 55, .mov (.tmp 9), none⟩,
          ⟨some 56, .bin .eql (.tmp 55) (.const (.int .i64 0)), none⟩,
          ⟨some 57, .mov (.tmp 7), none⟩,
          ⟨some 58, .bin .lss (.tmp 57) (.const (.int .i64 32)), none⟩,
          ⟨some 59, .eqb true (.tmp 56) (.tmp 58), none⟩,
          ⟨some 60, .mov (.tmp 59), none⟩,
          ⟨some 61, .mov (.tmp 9), some (60, false)⟩,
          ⟨some 62, .bin .neq (.tmp 61) (.const (.int .i64 0)), some (60, false)⟩,
          ⟨some 63, .mov (.tmp 62), some (60, false)⟩,
          ⟨some 64, .mov (.tmp 9), some (63, true)⟩,
          ⟨some 65, .bin .neq (.tmp 64) (.const (.int .i64 4)), some (63, true)⟩,
          ⟨some 66, .pick (.tmp 63) (.tmp 65) (.const (.bool false)), some (60, false)⟩,
          ⟨some 67, .pick (.tmp 60) (.const (.bool true)) (.tmp 66), none⟩,
          ⟨some 68, .mov (.tmp 67), none⟩,
          ⟨some 69, .mov (.tmp 5), some (68, false)⟩,
          ⟨some 70, .call (.func 48) [(.tmp 69)], some (68, false)⟩,
          ⟨some 71, .mov (.tmp 7), some (68, false)⟩,
          ⟨some 72, .bin .add (.tmp 71) (.const (.int .i64 1)), some (68, false)⟩,
          ⟨some 73, .min (.tmp 72) [(.const (.int .i64 32))], some (68, false)⟩,
          ⟨some 74, .bin .neq (.tmp 70) (.tmp 73), some (68, false)⟩,
          ⟨some 75, .pick (.tmp 68) (.const (.bool true)) (.tmp 74), none⟩]) (
       .cond (.tmp 75) (
        .seq (.region [⟨some 2, .mov (.const (.bool false)), none⟩]) (
        .ret)) (
        .skip))) (
      .seq (.region [⟨some 76, .mov (.tmp 7), none⟩,
         ⟨some 77, .bin .eql (.tmp 76) (.const (.int .i64 0)), none⟩]) (
      .cond (.tmp 77) (
       .region [⟨some 78, .mov (.tmp 8), none⟩,
         ⟨some 6, .mov (.tmp 78), none⟩]) (
       .skip)))))) (
    .region [⟨some 36, .mov (.tmp 7), none⟩,
      ⟨some 37, .bin .add (.tmp 36) (.const (.int .i64 1)), none⟩,
      ⟨some 7, .mov (.tmp 37), none⟩])))))) (
 .seq (.region [⟨some 80, .mov (.tmp 5), none⟩,
    ⟨some 81, .call (.func 36) [(.tmp 80), (.const (.string ⟨#[2, 65, 65, 0]⟩))], none⟩,
    ⟨some 79, .mov (.tmp 81), none⟩,
    ⟨some 82, .ext (.tmp 79) 0, none⟩,
    ⟨some 83, .ext (.tmp 79) 1, none⟩,
    ⟨some 10, .mov (.tmp 82), none⟩,
    ⟨some 11, .mov (.tmp 83), none⟩]) (
 .seq (.seq (.region [⟨some 84, .mov (.tmp 11), none⟩,
     ⟨some 85, .bin .neq (.tmp 84) (.const (.int .i64 0)), none⟩,
     ⟨some 86, .mov (.tmp 85), none⟩,
     ⟨some 87, .mov (.tmp 10), some (86, false)⟩,
     ⟨some 88, .mov (.tmp 6), some (86, false)⟩,
     ⟨some 89, .bin .neq (.tmp 87) (.tmp 88), some (86, false)⟩,
     ⟨some 90, .pick (.tmp 86) (.const (.bool true)) (.tmp 89), none⟩,
     ⟨some 91, .mov (.tmp 90), none⟩,
     ⟨some 92, .mov (.tmp 5), some (91, false)⟩,
     ⟨some 93, .mov (.tmp 10), some (91, false)⟩,
     ⟨some 94, .call (.func 47) [(.tmp 92), (.tmp 93)], some (91, false)⟩,
     ⟨some 95, .bin .neq (.tmp 94) (.const (.int .i64 2)), some (91, false)⟩,
     ⟨some 96, .pick (.tmp 91) (.const (.bool true)) (.tmp 95), none⟩,
     ⟨some 97, .mov (.tmp 96), none⟩,
     ⟨some 98, .mov (.tmp 5), some (97, false)⟩,
     ⟨some 99, .mov (.tmp 10), some (97, false)⟩,
     ⟨some 100, .call (.func 38) [(.tmp 98), (.tmp 99)], some (97, false)⟩,
     ⟨some 101, .bin .neq (.tmp 100) (.const (.int .i64 0)), some (97, false)⟩,
     ⟨some 102, .pick (.tmp 97) (.const (.bool true)) (.tmp 101), none⟩,
     ⟨some 103, .mov (.tmp 102), none⟩,
     ⟨some 104, .mov (.tmp 5), some (103, false)⟩,
     ⟨some 105, .mov (.tmp 10), some (103, false)⟩,
     ⟨some 106, .call (.func 38) [(.tmp 104), (.tmp 105)], some (103, false)⟩,
     ⟨some 107, .bin .neq (.tmp 106) (.const (.int .i64 0)), some (103, false)⟩,
     ⟨some 108, .pick (.tmp 103) (.const (.bool true)) (.tmp 107), none⟩]) (
  .cond (.tmp 108) (
   .seq (.region [⟨some 2, .mov (.const (.bool false)), none⟩]) (
   .ret)) (
   .skip))) (
 .seq (.region [⟨some 110, .mov (.tmp 5), none⟩,
    ⟨some 111, .call (.func 36) [(.tmp 110), (.const (.string ⟨#[2, 122, 122, 0]⟩))], none⟩,
    ⟨some 109, .mov (.tmp 111), none⟩,
    ⟨some 112, .ext (.tmp 109) 0, none⟩,
    ⟨some 113, .ext (.tmp 109) 1, none⟩,
    ⟨some 12, .mov (.tmp 112), none⟩,
    ⟨some 13, .mov (.tmp 113), none⟩]) (
 .seq (.region [⟨some 114, .mov (.tmp 13), none⟩,
    ⟨some 115, .bin .eql (.tmp 114) (.const (.int .i64 0)), none⟩,
    ⟨some 116, .mov (.tmp 115), none⟩,
    ⟨some 117, .mov (.tmp 5), some (116, true)⟩,
    ⟨some 118, .call (.func 48) [(.tmp 117)], some (116, true)⟩,
    ⟨some 119, .mov (.tmp 0), some (116, true)⟩,
    ⟨some 120, .min (.tmp 119) [(.const (.int .i64 32))], some (116, true)⟩,
    ⟨some 121, .bin .eql (.tmp 118) (.tmp 120), some (116, true)⟩,
    ⟨some 122, .pick (.tmp 116) (.tmp 121) (.const (.bool false)), none⟩,
    ⟨some 123, .mov (.tmp 122), none⟩,
    ⟨some 124, .mov (.tmp 3), some (123, true)⟩,
    ⟨some 125, .call (.func 31) [(.tmp 124)], some (123, true)⟩,
    ⟨some 126, .mov (.tmp 0), some (123, true)⟩,
    ⟨some 127, .min (.tmp 126) [(.const (.int .i64 32))], some (123, true)⟩,
    ⟨some 128, .bin .mul (.const (.int .i64 32)) (.tmp 127), some (123, true)⟩,
    ⟨some 129, .bin .eql (.tmp 125) (.tmp 128), some (123, true)⟩,
    ⟨some 130, .pick (.tmp 123) (.tmp 129) (.const (.bool false)), none⟩,
    ⟨some 131, .mov (.tmp 130), none⟩,
    ⟨some 132, .call (.func 34) [], some (131, true)⟩,
    ⟨some 133, .pick (.tmp 131) (.tmp 132) (.const (.bool false)), none⟩,
    ⟨some 2, .mov (.tmp 133), none⟩]) (
 .ret)))))))))))
theorem Try.fx11 : FnX Try.prog 11 134 #[.tmp 2] Try.x11 :=
  ⟨Try.f11, Try.func11, by kernel_rfl, by kernel_rfl, by kernel_rfl, by kernel_rfl⟩
/-- freshet/freshetlaw7.InternCosts -/
def Try.x12 : XCode :=
 .seq (.region [⟨some 2, .mov (.const (.bool false)), none⟩]) (
 .seq (.seq (.region [⟨some 14, .mov (.tmp 0), none⟩,
     ⟨some 15, .call (.func 49) [(.tmp 14), (.const (.int .i64 1500))], none⟩,
     ⟨some 16, .un .not (.tmp 15), none⟩]) (
  .cond (.tmp 16) (
   .seq (.region [⟨some 17, .call (.func 34) [], none⟩,
      ⟨some 2, .mov (.tmp 17), none⟩]) (
   .ret)) (
   .skip))) (
 .seq (.region [⟨some 19, .call (.func 15) [(.const (.int .i64 65536))], none⟩,
    ⟨some 18, .mov (.tmp 19), none⟩,
    ⟨some 20, .ext (.tmp 18) 0, none⟩,
    ⟨some 21, .ext (.tmp 18) 1, none⟩,
    ⟨some 3, .mov (.tmp 20), none⟩,
    ⟨some 4, .mov (.tmp 21), none⟩]) (
 .seq (.region [⟨some 22, .mov (.tmp 3), none⟩,
    ⟨some 23, .call (.func 35) [(.tmp 22)], none⟩,
    ⟨some 5, .mov (.tmp 23), none⟩]) (
 .seq (.seq (.region [⟨some 24, .mov (.tmp 4), none⟩,
     ⟨some 25, .bin .neq (.tmp 24) (.const (.int .i64 0)), none⟩,
     ⟨some 26, .mov (.tmp 25), none⟩,
     ⟨some 27, .mov (.tmp 5), some (26, false)⟩,
     ⟨some 28, .eqn 0 false (.tmp 27) (.const (.pointer none)), some (26, false)⟩,
     ⟨some 29, .pick (.tmp 26) (.const (.bool true)) (.tmp 28), none⟩]) (
  .cond (.tmp 29) (
   .seq (.region [⟨some 2, .mov (.const (.bool false)), none⟩]) (
   .ret)) (
   .skip))) (
 .seq (.seq (.region [⟨some 6, .mov (.const (.int .i64 0)), none⟩]) (
  .block 0 (
   .loop (
    .seq (.seq (.region [⟨some 30, .mov (.tmp 6), none⟩,
        ⟨some 31, .mov (.tmp 0), none⟩,
        ⟨some 32, .len (.tmp 31), none⟩,
        ⟨some 33, .bin .lss (.tmp 30) (.tmp 32), none⟩]) (
     .cond (.tmp 33) (
      .skip) (
      .exit 0))) (
    .seq (.block 1 (
      .seq (.region [⟨some 37, .mov (.tmp 5), none⟩,
         ⟨some 38, .mov (.tmp 0), none⟩,
         ⟨some 39, .mov (.tmp 6), none⟩,
         ⟨some 40, .iadr (.tmp 38) (.tmp 39) 1, none⟩,
         ⟨some 41, .load1 (.tmp 40), none⟩,
         ⟨some 42, .call (.func 41) [(.tmp 37), (.tmp 41)], none⟩,
         ⟨some 36, .mov (.tmp 42), none⟩,
         ⟨some 43, .ext (.tmp 36) 0, none⟩,
         ⟨some 44, .ext (.tmp 36) 1, none⟩,
         ⟨some 7, .mov (.tmp 43), none⟩,
         ⟨some 8, .mov (.tmp 44), none⟩]) (
      .seq (.region [⟨some 45, .mov (.tmp 5), none⟩,
         ⟨some 46, .mov (.tmp 0), none⟩,
         ⟨some 47, .mov (.tmp 6), none⟩,
         ⟨some 48, .iadr (.tmp 46) (.tmp 47) 1, none⟩,
         ⟨some 49, .load1 (.tmp 48), none⟩,
         ⟨some 50, .call (.func 43) [(.tmp 45), (.tmp 49)], none⟩,
         ⟨some 9, .mov (.tmp 50), none⟩]) (
      .seq (.region [⟨some 51, .mov (.tmp 3), none⟩,
         ⟨some 52, .call (.func 31) [(.tmp 51)], none⟩,
         ⟨some 10, .mov (.tmp 52), none⟩]) (
      .seq (.region [⟨some 54, .mov (.tmp 5), none⟩,
         ⟨some 55, .mov (.tmp 0), none⟩,
         ⟨some 56, .mov (.tmp 6), none⟩,
         ⟨some 57, .iadr (.tmp 55) (.tmp 56) 1, none⟩,
         ⟨some 58, .load1 (.tmp 57), none⟩,
         ⟨some 59, .call (.func 36) [(.tmp 54), (.tmp 58)], none⟩,
         ⟨some 53, .mov (.tmp 59), none⟩,
         ⟨some 60, .ext (.tmp 53) 0, none⟩,
         ⟨some 61, .ext (.tmp 53) 1, none⟩,
         ⟨some 11, .mov (.tmp 60), none⟩,
         ⟨some 12, .mov (.tmp 61), none⟩]) (
      .seq (.region [⟨some 62, .mov (.tmp 0), none⟩,
         ⟨some 63, .mov (.tmp 6), none⟩,
         ⟨some 64, .iadr (.tmp 62) (.tmp 63) 1, none⟩,
         ⟨some 65, .load1 (.tmp 64), none⟩,
         ⟨some 66, .call (.func 45) [(.tmp 65)], none⟩,
         ⟨some 13, .mov (.tmp 66), none⟩]) (
      .seq (.region [⟨some 67, .mov (.tmp 12), none⟩,
         ⟨some 68, .bin .eql (.tmp 67) (.const (.int .i64 0)), none⟩,
         ⟨some 69, .mov (.tmp 13), none⟩,
         ⟨some 70, .eqb true (.tmp 68) (.tmp 69), none⟩,
         ⟨some 71, .mov (.tmp 70), none⟩,
         ⟨some 72, .mov (.tmp 3), some (71, false)⟩,
         ⟨some 73, .call (.func 31) [(.tmp 72)], some (71, false)⟩,
         ⟨some 74, .mov (.tmp 10), some (71, false)⟩,
         ⟨some 75, .mov (.tmp 9), some (71, false)⟩,
         ⟨some 76, .bin .add (.tmp 74) (.tmp 75), some (71, false)⟩,
         ⟨some 77, .bin .neq (.tmp 73) (.tmp 76), some (71, false)⟩,
         ⟨some 78, .pick (.tmp 71) (.const (.bool true)) (.tmp 77), none⟩,
         ⟨some 79, .mov (.tmp 78), none⟩,
         ⟨some 80, .mov (.tmp 13), some (79, false)⟩,
         ⟨some 81, .mov (.tmp 80), some (79, false)⟩,
         ⟨some 82, .mov (.tmp 9), some (81, true)⟩,
         ⟨some 83, .bin .eql (.tmp 82) (.const (.int .i64 0)), some (81, true)⟩,
         ⟨some 84, .mov (.tmp 8), some (81, true)⟩,
         ⟨some 85, .eqb true (.tmp 83) (.tmp 84), some (81, true)⟩,
         ⟨some 86, .pick (.tmp 81) (.tmp 85) (.const (.bool false)), some (79, false)⟩,
         ⟨some 87, .pick (.tmp 79) (.const (.bool true)) (.tmp 86), none⟩,
         ⟨some 88, .mov (.tmp 87), none⟩,
         ⟨some 89, .mov (.tmp 13), some (88, false)⟩,
         ⟨some 90, .un .not (.tmp 89), some (88, false)⟩,
         ⟨some 91, .mov (.tmp 90), some (88, false)⟩,
         ⟨some 92, .mov (.tmp 9), some (91, true)⟩,
         ⟨some 93, .bin .neq (.tmp 92) (.const (.int .i64 0)), some (91, true)⟩,
         ⟨some 94, .pick (.tmp 91) (.tmp 93) (.const (.bool false)), some (88, false)⟩,
         ⟨some 95, .pick (.tmp 88) (.const (.bool true)) (.tmp 94), none⟩,
         ⟨some 96, .mov (.tmp 95), none⟩,
         ⟨some 97, .mov (.tmp 13), some (96, false)⟩,
         ⟨some 98, .mov (.tmp 97), some (96, false)⟩,
         ⟨some 99, .mov (.tmp 9), some (98, true)⟩,
         ⟨some 100, .bin .gtr (.tmp 99) (.const (.int .i64 0)), some (98, true)⟩,
         ⟨some 101, .pick (.tmp 98) (.tmp 100) (.const (.bool false)), some (96, false)⟩,
         ⟨some 102, .mov (.tmp 101), some (96, false)⟩,
         ⟨some 103, .mov (.tmp 9), some (102, true)⟩,
         ⟨some 104, .mov (.tmp 0), some (102, true)⟩,
         ⟨some 105, .mov (.tmp 6), some (102, true)⟩,
         ⟨some 106, .iadr (.tmp 104) (.tmp 105) 1, some (102, true)⟩,
         ⟨some 107, .load1 (.tmp 106), some (102, true)⟩,
         ⟨some 108, .slen (.tmp 107), some (102, true)⟩,
         ⟨some 109, .bin .add (.tmp 108) (.const (.int .i64 8)), some (102, true)⟩,
         ⟨some 110, .call (.func 13) [(.tmp 109)], some (102, true)⟩,
         ⟨some 111, .bin .neq (.tmp 103) (.tmp 110), some (102, true)⟩,
         ⟨some 112, .pick (.tmp 102) (.tmp 111) (.const (.bool false)), some (96, false)⟩,
         ⟨some 113, .pick (.tmp 96) (.const (.bool true)) (.tmp 112), none⟩,
         ⟨some 114, .mov (.tmp 113), none⟩,
         ⟨some 115, .mov (.tmp 13), some (114, false)⟩,
         ⟨some 116, .mov (.tmp 115), some (114, false)⟩,
         ⟨some 117, .mov (.tmp 5), some (116, true)⟩,
         ⟨some 118, .mov (.tmp 0), some (116, true)⟩,
         ⟨some 119, .mov (.tmp 6), some (116, true)⟩,
         ⟨some 120, .iadr (.tmp 118) (.tmp 119) 1, some (116, true)⟩,
         ⟨some 121, .load1 (.tmp 120), some (116, true)⟩,
         ⟨some 122, .call (.func 46) [(.tmp 121)], some (116, true)⟩,
         ⟨some 123, .call (.func 43) [(.tmp 117), (.tmp 122)], some (116, true)⟩,
         ⟨some 124, .bin .neq (.tmp 123) (.const (.int .i64 0)), some (116, true)⟩,
         ⟨some 125, .pick (.tmp 116) (.tmp 124) (.const (.bool false)), some (114, false)⟩,
         ⟨some 126, .pick (.tmp 114) (.const (.bool true)) (.tmp 125), none⟩]) (
      .cond (.tmp 126) (
       .seq (.region [⟨some 2, .mov (.const (.bool false)), none⟩]) (
       .ret)) (
       .skip))))))))) (
    .region [⟨some 34, .mov (.tmp 6), none⟩,
      ⟨some 35, .bin .add (.tmp 34) (.const (.int .i64 1)), none⟩,
      ⟨some 6, .mov (.tmp 35), none⟩])))))) (
 .seq (.region [⟨some 127, .call (.func 34) [], none⟩,
    ⟨some 2, .mov (.tmp 127), none⟩]) (
 .ret)))))))
theorem Try.fx12 : FnX Try.prog 12 128 #[.tmp 2] Try.x12 :=
  ⟨Try.f12, Try.func12, by kernel_rfl, by kernel_rfl, by kernel_rfl, by kernel_rfl⟩
/-- freshet/freshetlaw7.few -/
def Try.x33 : XCode :=
 .seq (.region [⟨some 2, .mov (.const (.bool false)), none⟩]) (
 .seq (.seq (.region [⟨some 3, .mov (.const (.int .i64 0)), none⟩]) (
  .block 0 (
   .loop (
    .seq (.seq (.region [⟨some 4, .mov (.tmp 3), none⟩,
        ⟨some 5, .mov (.tmp 0), none⟩,
        ⟨some 6, .len (.tmp 5), none⟩,
        ⟨some 7, .bin .lss (.tmp 4) (.tmp 6), none⟩,
        ⟨some 8, .mov (.tmp 7), none⟩,
        ⟨some 9, .mov (.tmp 3), some (8, true)⟩,
        ⟨some 10, .bin .lss (.tmp 9) (.const (.int .i64 70)), some (8, true)⟩,
        ⟨some 11, .pick (.tmp 8) (.tmp 10) (.const (.bool false)), none⟩]) (
     .cond (.tmp 11) (
      .skip) (
      .exit 0))) (
    .seq (.block 1 (
      .seq (.region [⟨some 14, .mov (.tmp 0), none⟩,
         ⟨some 15, .mov (.tmp 3), none⟩,
         ⟨some 16, .iadr (.tmp 14) (.tmp 15) 3, none⟩,
         ⟨some 17, .fadr (.tmp 16) 1, none⟩,
         ⟨some 18, .load1 (.tmp 17), none⟩,
         ⟨some 19, .slen (.tmp 18), none⟩,
         ⟨some 20, .bin .gtr (.tmp 19) (.const (.int .i64 300)), none⟩]) (
      .cond (.tmp 20) (
       .seq (.region [⟨some 2, .mov (.const (.bool false)), none⟩]) (
       .ret)) (
       .skip)))) (
    .region [⟨some 12, .mov (.tmp 3), none⟩,
      ⟨some 13, .bin .add (.tmp 12) (.const (.int .i64 1)), none⟩,
      ⟨some 3, .mov (.tmp 13), none⟩])))))) (
 .seq (.region [⟨some 21, .mov (.tmp 0), none⟩,
    ⟨some 22, .len (.tmp 21), none⟩,
    ⟨some 23, .bin .leq (.tmp 22) (.const (.int .i64 60)), none⟩,
    ⟨some 2, .mov (.tmp 23), none⟩]) (
 .ret)))
theorem Try.fx33 : FnX Try.prog 33 24 #[.tmp 2] Try.x33 :=
  ⟨Try.f33, Try.func33, by kernel_rfl, by kernel_rfl, by kernel_rfl, by kernel_rfl⟩
/-- freshet/freshetlaw7.awake -/
def Try.x34 : XCode :=
 .seq (.region [⟨some 0, .mov (.const (.bool false)), none⟩]) (
 .seq (.region [⟨some 21, .call (.func 15) [(.const (.int .i64 1024))], none⟩,
    ⟨some 20, .mov (.tmp 21), none⟩,
    ⟨some 22, .ext (.tmp 20) 0, none⟩,
    ⟨some 23, .ext (.tmp 20) 1, none⟩,
    ⟨some 1, .mov (.tmp 22), none⟩,
    ⟨some 2, .mov (.tmp 23), none⟩]) (
 .seq (.region [⟨some 24, .mov (.tmp 1), none⟩,
    ⟨some 25, .call (.func 35) [(.tmp 24)], none⟩,
    ⟨some 3, .mov (.tmp 25), none⟩]) (
 .seq (.seq (.region [⟨some 26, .mov (.tmp 2), none⟩,
     ⟨some 27, .bin .neq (.tmp 26) (.const (.int .i64 0)), none⟩,
     ⟨some 28, .mov (.tmp 27), none⟩,
     ⟨some 29, .mov (.tmp 3), some (28, false)⟩,
     ⟨some 30, .eqn 0 false (.tmp 29) (.const (.pointer none)), some (28, false)⟩,
     ⟨some 31, .pick (.tmp 28) (.const (.bool true)) (.tmp 30), none⟩]) (
  .cond (.tmp 31) (
   .seq (.region [⟨some 0, .mov (.const (.bool false)), none⟩]) (
   .ret)) (
   .skip))) (
 .seq (.region [⟨some 33, .mov (.tmp 3), none⟩,
    ⟨some 34, .call (.func 36) [(.tmp 33), (.const (.string ⟨#[1, 65, 0]⟩))], none⟩,
    ⟨some 32, .mov (.tmp 34), none⟩,
    ⟨some 35, .ext (.tmp 32) 0, none⟩,
    ⟨some 36, .ext (.tmp 32) 1, none⟩,
    ⟨some 4, .mov (.tmp 35), none⟩,
    ⟨some 5, .mov (.tmp 36), none⟩]) (
 .seq (.region [⟨some 38, .mov (.tmp 3), none⟩,
    ⟨some 39, .call (.func 36) [(.tmp 38), (.const (.string ⟨#[1, 97, 0]⟩))], none⟩,
    ⟨some 37, .mov (.tmp 39), none⟩,
    ⟨some 40, .ext (.tmp 37) 0, none⟩,
    ⟨some 41, .ext (.tmp 37) 1, none⟩,
    ⟨some 6, .mov (.tmp 40), none⟩,
    ⟨some 7, .mov (.tmp 41), none⟩]) (
 .seq (.region [⟨some 43, .mov (.tmp 3), none⟩,
    ⟨some 44, .call (.func 36) [(.tmp 43), (.const (.string ⟨#[97]⟩))], none⟩,
    ⟨some 42, .mov (.tmp 44), none⟩,
    ⟨some 45, .ext (.tmp 42) 0, none⟩,
    ⟨some 46, .ext (.tmp 42) 1, none⟩,
    ⟨some 8, .mov (.tmp 45), none⟩,
    ⟨some 9, .mov (.tmp 46), none⟩]) (
 .seq (.region [⟨some 48, .mov (.tmp 3), none⟩,
    ⟨some 49, .mov (.tmp 4), none⟩,
    ⟨some 50, .call (.func 64) [(.tmp 48), (.tmp 49)], none⟩,
    ⟨some 47, .mov (.tmp 50), none⟩,
    ⟨some 51, .ext (.tmp 47) 0, none⟩,
    ⟨some 52, .ext (.tmp 47) 1, none⟩,
    ⟨some 10, .mov (.tmp 51), none⟩,
    ⟨some 11, .mov (.tmp 52), none⟩]) (
 .seq (.region [⟨some 53, .mov (.tmp 3), none⟩,
    ⟨some 54, .call (.func 43) [(.tmp 53), (.const (.string ⟨#[1, 98, 0]⟩))], none⟩,
    ⟨some 12, .mov (.tmp 54), none⟩]) (
 .seq (.region [⟨some 55, .mov (.tmp 3), none⟩,
    ⟨some 56, .mov (.tmp 4), none⟩,
    ⟨some 57, .call (.func 47) [(.tmp 55), (.tmp 56)], none⟩,
    ⟨some 13, .mov (.tmp 57), none⟩]) (
 .seq (.region [⟨some 58, .mov (.tmp 3), none⟩,
    ⟨some 59, .mov (.tmp 4), none⟩,
    ⟨some 60, .call (.func 38) [(.tmp 58), (.tmp 59)], none⟩,
    ⟨some 14, .mov (.tmp 60), none⟩]) (
 .seq (.region [⟨some 61, .mov (.tmp 3), none⟩,
    ⟨some 62, .mov (.tmp 4), none⟩,
    ⟨some 63, .call (.func 38) [(.tmp 61), (.tmp 62)], none⟩,
    ⟨some 15, .mov (.tmp 63), none⟩]) (
 .seq (.region [⟨some 64, .mov (.tmp 3), none⟩,
    ⟨some 65, .mov (.tmp 4), none⟩,
    ⟨some 66, .call (.func 38) [(.tmp 64), (.tmp 65)], none⟩,
    ⟨some 16, .mov (.tmp 66), none⟩]) (
 .seq (.region [⟨some 17, .mov (.const (.pointer none)), none⟩]) (
 .seq (.region [⟨some 68, .mov (.tmp 17), none⟩,
    ⟨some 69, .call (.func 36) [(.tmp 68), (.const (.string ⟨#[0]⟩))], none⟩,
    ⟨some 67, .mov (.tmp 69), none⟩,
    ⟨some 70, .ext (.tmp 67) 0, none⟩,
    ⟨some 71, .ext (.tmp 67) 1, none⟩,
    ⟨some 18, .mov (.tmp 70), none⟩,
    ⟨some 19, .mov (.tmp 71), none⟩]) (
 .seq (.region [⟨some 72, .mov (.tmp 5), none⟩,
    ⟨some 73, .bin .eql (.tmp 72) (.const (.int .i64 0)), none⟩,
    ⟨some 74, .mov (.tmp 73), none⟩,
    ⟨some 75, .mov (.tmp 7), some (74, true)⟩,
    ⟨some 76, .bin .eql (.tmp 75) (.const (.int .i64 0)), some (74, true)⟩,
    ⟨some 77, .pick (.tmp 74) (.tmp 76) (.const (.bool false)), none⟩,
    ⟨some 78, .mov (.tmp 77), none⟩,
    ⟨some 79, .mov (.tmp 4), some (78, true)⟩,
    ⟨some 80, .mov (.tmp 6), some (78, true)⟩,
    ⟨some 81, .bin .eql (.tmp 79) (.tmp 80), some (78, true)⟩,
    ⟨some 82, .pick (.tmp 78) (.tmp 81) (.const (.bool false)), none⟩,
    ⟨some 83, .mov (.tmp 82), none⟩,
    ⟨some 84, .mov (.tmp 4), some (83, true)⟩,
    ⟨some 85, .bin .eql (.tmp 84) (.const (.int .i64 1)), some (83, true)⟩,
    ⟨some 86, .pick (.tmp 83) (.tmp 85) (.const (.bool false)), none⟩,
    ⟨some 87, .mov (.tmp 86), none⟩,
    ⟨some 88, .mov (.tmp 9), some (87, true)⟩,
    ⟨some 89, .bin .eql (.tmp 88) (.const (.int .i64 2)), some (87, true)⟩,
    ⟨some 90, .pick (.tmp 87) (.tmp 89) (.const (.bool false)), none⟩,
    ⟨some 91, .mov (.tmp 90), none⟩,
    ⟨some 92, .mov (.tmp 10), some (91, true)⟩,
    ⟨some 93, .bin .eql (.tmp 92) (.const (.string ⟨#[1, 97, 0]⟩)), some (91, true)⟩,
    ⟨some 94, .pick (.tmp 91) (.tmp 93) (.const (.bool false)), none⟩,
    ⟨some 95, .mov (.tmp 94), none⟩,
    ⟨some 96, .mov (.tmp 11), some (95, true)⟩,
    ⟨some 97, .pick (.tmp 95) (.tmp 96) (.const (.bool false)), none⟩,
    ⟨some 98, .mov (.tmp 97), none⟩,
    ⟨some 99, .mov (.tmp 12), some (98, true)⟩,
    ⟨some 100, .bin .eql (.tmp 99) (.const (.int .i64 32)), some (98, true)⟩,
    ⟨some 101, .pick (.tmp 98) (.tmp 100) (.const (.bool false)), none⟩,
    ⟨some 102, .mov (.tmp 101), none⟩,
    ⟨some 103, .mov (.tmp 13), some (102, true)⟩,
    ⟨some 104, .bin .eql (.tmp 103) (.const (.int .i64 2)), some (102, true)⟩,
    ⟨some 105, .pick (.tmp 102) (.tmp 104) (.const (.bool false)), none⟩,
    ⟨some 106, .mov (.tmp 105), none⟩,
    ⟨some 107, .mov (.tmp 14), some (106, true)⟩,
    ⟨some 108, .bin .eql (.tmp 107) (.const (.int .i64 0)), some (106, true)⟩,
    ⟨some 109, .pick (.tmp 106) (.tmp 108) (.const (.bool false)), none⟩,
    ⟨some 110, .mov (.tmp 109), none⟩,
    ⟨some 111, .mov (.tmp 15), some (110, true)⟩,
    ⟨some 112, .bin .eql (.tmp 111) (.const (.int .i64 0)), some (110, true)⟩,
    ⟨some 113, .pick (.tmp 110) (.tmp 112) (.const (.bool false)), none⟩,
    ⟨some 114, .mov (.tmp 113), none⟩,
    ⟨some 115, .mov (.tmp 16), some (114, true)⟩,
    ⟨some 116, .bin .eql (.tmp 115) (.const (.int .i64 5)), some (114, true)⟩,
    ⟨some 117, .pick (.tmp 114) (.tmp 116) (.const (.bool false)), none⟩,
    ⟨some 118, .mov (.tmp 117), none⟩,
    ⟨some 119, .mov (.tmp 1), some (118, true)⟩,
    ⟨some 120, .call (.func 31) [(.tmp 119)], some (118, true)⟩,
    ⟨some 121, .bin .eql (.tmp 120) (.const (.int .i64 0)), some (118, true)⟩,
    ⟨some 122, .pick (.tmp 118) (.tmp 121) (.const (.bool false)), none⟩,
    ⟨some 123, .mov (.tmp 122), none⟩,
    ⟨some 124, .mov (.tmp 19), some (123, true)⟩,
    ⟨some 125, .bin .eql (.tmp 124) (.const (.int .i64 4)), some (123, true)⟩,
    ⟨some 126, .pick (.tmp 123) (.tmp 125) (.const (.bool false)), none⟩,
    ⟨some 127, .mov (.tmp 126), none⟩,
    ⟨some 128, .mov (.tmp 17), some (127, true)⟩,
    ⟨some 129, .call (.func 48) [(.tmp 128)], some (127, true)⟩,
    ⟨some 130, .bin .eql (.tmp 129) (.const (.int .i64 0)), some (127, true)⟩,
    ⟨some 131, .pick (.tmp 127) (.tmp 130) (.const (.bool false)), none⟩,
    ⟨some 0, .mov (.tmp 131), none⟩]) (
 .ret))))))))))))))))
theorem Try.fx34 : FnX Try.prog 34 132 #[.tmp 0] Try.x34 :=
  ⟨Try.f34, Try.func34, by kernel_rfl, by kernel_rfl, by kernel_rfl, by kernel_rfl⟩
/-- freshet/freshetlaw7.shows -/
def Try.x40 : XCode :=
 .seq (.region [⟨some 6, .mov (.const (.bool false)), none⟩]) (
 .seq (.seq (.draw (
    .q ⟨some 12, .mov (.tmp 0), none⟩ (
    .q ⟨some 14, .mov (.tmp 2), none⟩ (
    .q ⟨some 15, .nilc (.tmp 14), none⟩ (
    .q ⟨some 16, .fadr (.tmp 15) 1, none⟩ (
    .q ⟨some 17, .load1 (.tmp 16), none⟩ (
    .q ⟨some 18, .len (.tmp 17), none⟩ (
    .alt ⟨some 13, .call (.func 48) [(.tmp 12)], none⟩ true (
     .q ⟨some 19, .bin .neq (.tmp 13) (.tmp 18), none⟩ (
     .q ⟨some 20, .mov (.tmp 19), none⟩ (
     .q ⟨some 21, .mov (.tmp 1), some (20, false)⟩ (
     .q ⟨some 23, .mov (.tmp 2), some (20, false)⟩ (
     .q ⟨some 24, .nilc (.tmp 23), some (20, false)⟩ (
     .q ⟨some 25, .fadr (.tmp 24) 0, some (20, false)⟩ (
     .q ⟨some 26, .load1 (.tmp 25), some (20, false)⟩ (
     .alt ⟨some 22, .call (.func 31) [(.tmp 21)], some (20, false)⟩ true (
      .alt ⟨some 27, .call (.func 62) [(.tmp 26)], some (20, false)⟩ false (
       .q ⟨some 28, .bin .neq (.tmp 22) (.tmp 27), some (20, false)⟩ (
       .q ⟨some 29, .pick (.tmp 20) (.const (.bool true)) (.tmp 28), none⟩ (
       .done))) (.noalt)) (.noalt))))))))) (.noalt))))))))) (
  .cond (.tmp 29) (
   .seq (.region [⟨some 6, .mov (.const (.bool false)), none⟩]) (
   .ret)) (
   .skip))) (
 .seq (.seq (.region [⟨some 7, .mov (.const (.int .i64 0)), none⟩]) (
  .block 0 (
   .loop (
    .seq (.seq (.region [⟨some 30, .mov (.tmp 7), none⟩,
        ⟨some 31, .mov (.tmp 2), none⟩,
        ⟨some 32, .nilc (.tmp 31), none⟩,
        ⟨some 33, .fadr (.tmp 32) 1, none⟩,
        ⟨some 34, .load1 (.tmp 33), none⟩,
        ⟨some 35, .len (.tmp 34), none⟩,
        ⟨some 36, .bin .lss (.tmp 30) (.tmp 35), none⟩]) (
     .cond (.tmp 36) (
      .skip) (
      .exit 0))) (
    .seq (.block 1 (
      .seq (.region [⟨some 40, .mov (.tmp 0), none⟩,
         ⟨some 41, .mov (.tmp 2), none⟩,
         ⟨some 42, .nilc (.tmp 41), none⟩,
         ⟨some 43, .fadr (.tmp 42) 1, none⟩,
         ⟨some 44, .load1 (.tmp 43), none⟩,
         ⟨some 45, .mov (.tmp 7), none⟩,
         ⟨some 46, .iadr (.tmp 44) (.tmp 45) 3, none⟩,
         ⟨some 47, .fadr (.tmp 46) 0, none⟩,
         ⟨some 48, .load1 (.tmp 47), none⟩,
         ⟨some 49, .call (.func 64) [(.tmp 40), (.tmp 48)], none⟩,
         ⟨some 39, .mov (.tmp 49), none⟩,
         ⟨some 50, .ext (.tmp 39) 0, none⟩,
         ⟨some 51, .ext (.tmp 39) 1, none⟩,
         ⟨some 8, .mov (.tmp 50), none⟩,
         ⟨some 9, .mov (.tmp 51), none⟩]) (
      .seq (.region [⟨some 53, .mov (.tmp 0), none⟩,
         ⟨some 54, .mov (.tmp 2), none⟩,
         ⟨some 55, .nilc (.tmp 54), none⟩,
         ⟨some 56, .fadr (.tmp 55) 1, none⟩,
         ⟨some 57, .load1 (.tmp 56), none⟩,
         ⟨some 58, .mov (.tmp 7), none⟩,
         ⟨some 59, .iadr (.tmp 57) (.tmp 58) 3, none⟩,
         ⟨some 60, .fadr (.tmp 59) 1, none⟩,
         ⟨some 61, .load1 (.tmp 60), none⟩,
         ⟨some 62, .call (.func 41) [(.tmp 53), (.tmp 61)], none⟩,
         ⟨some 52, .mov (.tmp 62), none⟩,
         ⟨some 63, .ext (.tmp 52) 0, none⟩,
         ⟨some 64, .ext (.tmp 52) 1, none⟩,
         ⟨some 10, .mov (.tmp 63), none⟩,
         ⟨some 11, .mov (.tmp 64), none⟩]) (
      .seq (.draw (
        .q ⟨some 65, .mov (.tmp 9), none⟩ (
        .q ⟨some 66, .un .not (.tmp 65), none⟩ (
        .q ⟨some 67, .mov (.tmp 66), none⟩ (
        .q ⟨some 68, .mov (.tmp 11), some (67, false)⟩ (
        .q ⟨some 69, .un .not (.tmp 68), some (67, false)⟩ (
        .q ⟨some 70, .pick (.tmp 67) (.const (.bool true)) (.tmp 69), none⟩ (
        .q ⟨some 71, .mov (.tmp 70), none⟩ (
        .q ⟨some 72, .mov (.tmp 8), some (71, false)⟩ (
        .q ⟨some 73, .mov (.tmp 2), some (71, false)⟩ (
        .q ⟨some 74, .nilc (.tmp 73), some (71, false)⟩ (
        .q ⟨some 75, .fadr (.tmp 74) 1, some (71, false)⟩ (
        .q ⟨some 76, .load1 (.tmp 75), some (71, false)⟩ (
        .q ⟨some 77, .mov (.tmp 7), some (71, false)⟩ (
        .q ⟨some 78, .iadr (.tmp 76) (.tmp 77) 3, some (71, false)⟩ (
        .q ⟨some 79, .fadr (.tmp 78) 1, some (71, false)⟩ (
        .q ⟨some 80, .load1 (.tmp 79), some (71, false)⟩ (
        .q ⟨some 81, .bin .neq (.tmp 72) (.tmp 80), some (71, false)⟩ (
        .q ⟨some 82, .pick (.tmp 71) (.const (.bool true)) (.tmp 81), none⟩ (
        .q ⟨some 83, .mov (.tmp 82), none⟩ (
        .q ⟨some 84, .mov (.tmp 10), some (83, false)⟩ (
        .q ⟨some 85, .mov (.tmp 2), some (83, false)⟩ (
        .q ⟨some 86, .nilc (.tmp 85), some (83, false)⟩ (
        .q ⟨some 87, .fadr (.tmp 86) 1, some (83, false)⟩ (
        .q ⟨some 88, .load1 (.tmp 87), some (83, false)⟩ (
        .q ⟨some 89, .mov (.tmp 7), some (83, false)⟩ (
        .q ⟨some 90, .iadr (.tmp 88) (.tmp 89) 3, some (83, false)⟩ (
        .q ⟨some 91, .fadr (.tmp 90) 0, some (83, false)⟩ (
        .q ⟨some 92, .load1 (.tmp 91), some (83, false)⟩ (
        .q ⟨some 93, .bin .neq (.tmp 84) (.tmp 92), some (83, false)⟩ (
        .q ⟨some 94, .pick (.tmp 83) (.const (.bool true)) (.tmp 93), none⟩ (
        .q ⟨some 95, .mov (.tmp 94), none⟩ (
        .q ⟨some 96, .mov (.tmp 0), some (95, false)⟩ (
        .q ⟨some 97, .mov (.tmp 10), some (95, false)⟩ (
        .q ⟨some 99, .mov (.tmp 2), some (95, false)⟩ (
        .q ⟨some 100, .nilc (.tmp 99), some (95, false)⟩ (
        .q ⟨some 101, .fadr (.tmp 100) 1, some (95, false)⟩ (
        .q ⟨some 102, .load1 (.tmp 101), some (95, false)⟩ (
        .q ⟨some 103, .mov (.tmp 7), some (95, false)⟩ (
        .q ⟨some 104, .iadr (.tmp 102) (.tmp 103) 3, some (95, false)⟩ (
        .q ⟨some 105, .fadr (.tmp 104) 2, some (95, false)⟩ (
        .q ⟨some 106, .load1 (.tmp 105), some (95, false)⟩ (
        .alt ⟨some 98, .call (.func 47) [(.tmp 96), (.tmp 97)], some (95, false)⟩ true (
         .q ⟨some 107, .bin .neq (.tmp 98) (.tmp 106), some (95, false)⟩ (
         .q ⟨some 108, .pick (.tmp 95) (.const (.bool true)) (.tmp 107), none⟩ (
         .done))) (.noalt)))))))))))))))))))))))))))))))))))))))))))) (
      .cond (.tmp 108) (
       .seq (.region [⟨some 6, .mov (.const (.bool false)), none⟩]) (
       .ret)) (
       .skip)))))) (
    .region [⟨some 37, .mov (.tmp 7), none⟩,
      ⟨some 38, .bin .add (.tmp 37) (.const (.int .i64 1)), none⟩,
      ⟨some 7, .mov (.tmp 38), none⟩])))))) (
 .seq (.region [⟨some 6, .mov (.const (.bool true)), none⟩]) (
 .ret))))
theorem Try.fx40 : FnX Try.prog 40 109 #[.tmp 6] Try.x40 :=
  ⟨Try.f40, Try.func40, by kernel_rfl, by kernel_rfl, by kernel_rfl, by kernel_rfl⟩
end Go.Proofs.Ytkdbajfaaifkaaa
