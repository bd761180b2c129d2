/- The compiled code of some of the program's functions, printed by a program, and that it is what the compiler of these texts makes of them. -/
import Derived.Test.YtmgiamagocefcaaCode
import Derived.Test.YtmgiamagocefcaaProg
import Derived.KernelRfl
namespace Go.Proofs.Ytmgiamagocefcaa
open Go.Xs
/-- freshet/freshetlaw16.TimerActs -/
def Try.x3 : XCode :=
 .seq (.region [⟨some 4, .mov (.const (.bool false)), none⟩]) (
 .seq (.seq (.region [⟨some 20, .mov (.tmp 1), none⟩,
     ⟨some 21, .len (.tmp 20), none⟩,
     ⟨some 22, .bin .gtr (.tmp 21) (.const (.int .i64 60)), none⟩]) (
  .cond (.tmp 22) (
   .seq (.region [⟨some 23, .call (.func 14) [], none⟩,
      ⟨some 4, .mov (.tmp 23), none⟩]) (
   .ret)) (
   .skip))) (
 .seq (.region [⟨some 24, .mov (.tmp 0), none⟩,
    ⟨some 25, .call (.func 15) [(.tmp 24)], none⟩,
    ⟨some 5, .mov (.tmp 25), none⟩]) (
 .seq (.region [⟨some 26, .build [(.slice none 0 0)] [], none⟩,
    ⟨some 27, .box 29 (.tmp 26), none⟩,
    ⟨some 6, .mov (.tmp 27), none⟩]) (
 .seq (.seq (.region [⟨some 28, .mov (.tmp 5), none⟩,
     ⟨some 29, .eqn 0 false (.tmp 28) (.const (.pointer none)), none⟩]) (
  .cond (.tmp 29) (
   .seq (.region [⟨some 4, .mov (.const (.bool false)), none⟩]) (
   .ret)) (
   .skip))) (
 .seq (.seq (.region [⟨some 7, .mov (.const (.int .i64 0)), none⟩]) (
  .block 0 (
   .loop (
    .seq (.seq (.region [⟨some 30, .mov (.tmp 7), none⟩,
        ⟨some 31, .mov (.tmp 1), none⟩,
        ⟨some 32, .len (.tmp 31), none⟩,
        ⟨some 33, .bin .lss (.tmp 30) (.tmp 32), none⟩]) (
     .cond (.tmp 33) (
      .skip) (
      .exit 0))) (
    .seq (.block 1 (
      .seq (.region [⟨some 36, .mov (.tmp 1), none⟩,
         ⟨some 37, .mov (.tmp 7), none⟩,
         ⟨some 38, .iadr (.tmp 36) (.tmp 37) 3, none⟩,
         ⟨some 39, .loadN 3 (.tmp 38), none⟩,
         ⟨some 8, .alloc 31 [(.int .i64 0), (.int .i64 0), (.int .i64 0)], none⟩,
         ⟨none, .store 3 (.tmp 8) (.tmp 39), none⟩]) (
      .seq (.region [⟨some 41, .mov (.tmp 6), none⟩,
         ⟨some 42, .fadr (.tmp 8) 1, none⟩,
         ⟨some 43, .load1 (.tmp 42), none⟩,
         ⟨some 44, .call (.func 16) [(.tmp 41), (.tmp 43)], none⟩,
         ⟨some 40, .mov (.tmp 44), none⟩,
         ⟨some 45, .ext (.tmp 40) 0, none⟩,
         ⟨some 46, .ext (.tmp 40) 1, none⟩,
         ⟨some 9, .mov (.tmp 45), none⟩,
         ⟨some 10, .mov (.tmp 46), none⟩]) (
      .seq (.seq (.region [⟨some 47, .fadr (.tmp 8) 0, none⟩,
          ⟨some 48, .load1 (.tmp 47), none⟩]) (
       .block 2 (
        .seq (.region [⟨some 50, .bin .eql (.tmp 48) (.const (.int .i64 1)), none⟩,
           ⟨some 49, .mov (.tmp 50), none⟩]) (
        .cond (.tmp 49) (
         .seq (.region [⟨some 11, .mov (.const (.int .i64 0)), none⟩]) (
         .seq (.seq (.region [⟨some 51, .mov (.tmp 10), none⟩,
             ⟨some 52, .un .not (.tmp 51), none⟩,
             ⟨some 53, .mov (.tmp 52), none⟩,
             ⟨some 54, .mov (.tmp 6), some (53, true)⟩,
             ⟨some 55, .nilc (.tmp 54), some (53, true)⟩,
             ⟨some 56, .fadr (.tmp 55) 0, some (53, true)⟩,
             ⟨some 57, .load1 (.tmp 56), some (53, true)⟩,
             ⟨some 58, .len (.tmp 57), some (53, true)⟩,
             ⟨some 59, .mov (.tmp 0), some (53, true)⟩,
             ⟨some 60, .bin .geq (.tmp 58) (.tmp 59), some (53, true)⟩,
             ⟨some 61, .pick (.tmp 53) (.tmp 60) (.const (.bool false)), none⟩]) (
          .cond (.tmp 61) (
           .region [⟨some 11, .mov (.const (.int .i64 4)), none⟩]) (
           .region [⟨some 62, .mov (.tmp 6), none⟩,
             ⟨some 63, .fadr (.tmp 8) 1, none⟩,
             ⟨some 64, .load1 (.tmp 63), none⟩,
             ⟨some 65, .fadr (.tmp 8) 2, none⟩,
             ⟨some 66, .load1 (.tmp 65), none⟩,
             ⟨some 67, .call (.func 17) [(.tmp 62), (.tmp 64), (.tmp 66)], none⟩]))) (
         .seq (.region [⟨some 68, .mov (.tmp 5), none⟩,
            ⟨some 69, .fadr (.tmp 8) 1, none⟩,
            ⟨some 70, .load1 (.tmp 69), none⟩,
            ⟨some 71, .fadr (.tmp 8) 2, none⟩,
            ⟨some 72, .load1 (.tmp 71), none⟩,
            ⟨some 73, .call (.func 18) [(.tmp 68), (.tmp 70), (.tmp 72)], none⟩,
            ⟨some 74, .mov (.tmp 11), none⟩,
            ⟨some 75, .bin .neq (.tmp 73) (.tmp 74), none⟩]) (
         .cond (.tmp 75) (
          .seq (.region [⟨some 4, .mov (.const (.bool false)), none⟩]) (
          .ret)) (
          .skip))))) (
         .seq (.region [⟨some 77, .bin .eql (.tmp 48) (.const (.int .i64 2)), none⟩,
            ⟨some 76, .mov (.tmp 77), none⟩]) (
         .cond (.tmp 76) (
          .seq (.region [⟨some 12, .mov (.const (.int .i64 5)), none⟩]) (
          .seq (.seq (.region [⟨some 78, .mov (.tmp 6), none⟩,
              ⟨some 79, .fadr (.tmp 8) 1, none⟩,
              ⟨some 80, .load1 (.tmp 79), none⟩,
              ⟨some 81, .call (.func 19) [(.tmp 78), (.tmp 80)], none⟩]) (
           .cond (.tmp 81) (
            .region [⟨some 12, .mov (.const (.int .i64 0)), none⟩]) (
            .skip))) (
          .seq (.region [⟨some 82, .mov (.tmp 5), none⟩,
             ⟨some 83, .fadr (.tmp 8) 1, none⟩,
             ⟨some 84, .load1 (.tmp 83), none⟩,
             ⟨some 85, .call (.func 20) [(.tmp 82), (.tmp 84)], none⟩,
             ⟨some 86, .mov (.tmp 12), none⟩,
             ⟨some 87, .bin .neq (.tmp 85) (.tmp 86), none⟩]) (
          .cond (.tmp 87) (
           .seq (.region [⟨some 4, .mov (.const (.bool false)), none⟩]) (
           .ret)) (
           .skip))))) (
          .seq (.region [⟨some 89, .bin .eql (.tmp 48) (.const (.int .i64 3)), none⟩,
             ⟨some 88, .mov (.tmp 89), none⟩]) (
          .cond (.tmp 88) (
           .seq (.region [⟨some 90, .mov (.tmp 6), none⟩,
              ⟨some 91, .fadr (.tmp 8) 2, none⟩,
              ⟨some 92, .load1 (.tmp 91), none⟩,
              ⟨some 93, .call (.func 21) [(.tmp 90), (.tmp 92)], none⟩,
              ⟨some 13, .mov (.tmp 93), none⟩]) (
           .seq (.region [⟨some 14, .mov (.const (.slice none 0 0)), none⟩]) (
           .seq (.seq (.region [⟨some 15, .mov (.const (.int .i64 0)), none⟩]) (
            .block 3 (
             .loop (
              .seq (.seq (.region [⟨some 94, .mov (.tmp 15), none⟩,
                  ⟨some 95, .mov (.tmp 13), none⟩,
                  ⟨some 96, .len (.tmp 95), none⟩,
                  ⟨some 97, .bin .lss (.tmp 94) (.tmp 96), none⟩]) (
               .cond (.tmp 97) (
                .skip) (
                .exit 3))) (
              .seq (.block 4 (
                .seq (.region [⟨some 100, .mov (.tmp 14), none⟩,
                   ⟨some 101, .mov (.tmp 13), none⟩,
                   ⟨some 102, .mov (.tmp 15), none⟩,
                   ⟨some 103, .iadr (.tmp 101) (.tmp 102) 2, none⟩,
                   ⟨some 104, .fadr (.tmp 103) 0, none⟩,
                   ⟨some 105, .load1 (.tmp 104), none⟩,
                   ⟨some 106, .bsl 3 1 1 [(.int .i64 0)] [(0, (.tmp 105))], none⟩,
                   ⟨some 107, .app 3 1 8 [(.int .i64 0)] (.tmp 100) (.tmp 106), none⟩,
                   ⟨some 14, .mov (.tmp 107), none⟩]) (
                .region [⟨some 108, .mov (.tmp 6), none⟩,
                  ⟨some 109, .mov (.tmp 13), none⟩,
                  ⟨some 110, .mov (.tmp 15), none⟩,
                  ⟨some 111, .iadr (.tmp 109) (.tmp 110) 2, none⟩,
                  ⟨some 112, .fadr (.tmp 111) 0, none⟩,
                  ⟨some 113, .load1 (.tmp 112), none⟩,
                  ⟨some 114, .call (.func 19) [(.tmp 108), (.tmp 113)], none⟩]))) (
              .region [⟨some 98, .mov (.tmp 15), none⟩,
                ⟨some 99, .bin .add (.tmp 98) (.const (.int .i64 1)), none⟩,
                ⟨some 15, .mov (.tmp 99), none⟩])))))) (
           .seq (.region [⟨some 115, .mov (.tmp 5), none⟩,
              ⟨some 116, .fadr (.tmp 8) 2, none⟩,
              ⟨some 117, .load1 (.tmp 116), none⟩,
              ⟨some 118, .call (.func 23) [(.tmp 115), (.tmp 117)], none⟩,
              ⟨some 119, .mov (.tmp 14), none⟩,
              ⟨some 120, .call (.func 22) [(.tmp 118), (.tmp 119)], none⟩,
              ⟨some 121, .un .not (.tmp 120), none⟩]) (
           .cond (.tmp 121) (
            .seq (.region [⟨some 4, .mov (.const (.bool false)), none⟩]) (
            .ret)) (
            .skip)))))) (
           .skip))))))))) (
      .seq (.region [⟨some 123, .mov (.tmp 5), none⟩,
         ⟨some 124, .call (.func 24) [(.tmp 123)], none⟩,
         ⟨some 122, .mov (.tmp 124), none⟩,
         ⟨some 125, .ext (.tmp 122) 0, none⟩,
         ⟨some 126, .ext (.tmp 122) 1, none⟩,
         ⟨some 16, .mov (.tmp 125), none⟩,
         ⟨some 17, .mov (.tmp 126), none⟩]) (
      .seq (.region [⟨some 18, .mov (.const (.int .i64 0)), none⟩]) (
      .seq (.seq (.region [⟨some 19, .mov (.const (.int .i64 0)), none⟩]) (
       .block 5 (
        .loop (
         .seq (.seq (.region [⟨some 127, .mov (.tmp 19), none⟩,
             ⟨some 128, .mov (.tmp 6), none⟩,
             ⟨some 129, .nilc (.tmp 128), none⟩,
             ⟨some 130, .fadr (.tmp 129) 0, none⟩,
             ⟨some 131, .load1 (.tmp 130), none⟩,
             ⟨some 132, .len (.tmp 131), none⟩,
             ⟨some 133, .bin .lss (.tmp 127) (.tmp 132), none⟩]) (
          .cond (.tmp 133) (
           .skip) (
           .exit 5))) (
         .seq (.block 6 (
           .seq (.region [⟨some 136, .mov (.tmp 19), none⟩,
              ⟨some 137, .bin .eql (.tmp 136) (.const (.int .i64 0)), none⟩,
              ⟨some 138, .mov (.tmp 137), none⟩,
              ⟨some 139, .mov (.tmp 6), some (138, false)⟩,
              ⟨some 140, .nilc (.tmp 139), some (138, false)⟩,
              ⟨some 141, .fadr (.tmp 140) 0, some (138, false)⟩,
              ⟨some 142, .load1 (.tmp 141), some (138, false)⟩,
              ⟨some 143, .mov (.tmp 19), some (138, false)⟩,
              ⟨some 144, .iadr (.tmp 142) (.tmp 143) 2, some (138, false)⟩,
              ⟨some 145, .fadr (.tmp 144) 1, some (138, false)⟩,
              ⟨some 146, .load1 (.tmp 145), some (138, false)⟩,
              ⟨some 147, .mov (.tmp 18), some (138, false)⟩,
              ⟨some 148, .bin .lss (.tmp 146) (.tmp 147), some (138, false)⟩,
              ⟨some 149, .pick (.tmp 138) (.const (.bool true)) (.tmp 148), none⟩]) (
           .cond (.tmp 149) (
            .region [⟨some 150, .mov (.tmp 6), none⟩,
              ⟨some 151, .nilc (.tmp 150), none⟩,
              ⟨some 152, .fadr (.tmp 151) 0, none⟩,
              ⟨some 153, .load1 (.tmp 152), none⟩,
              ⟨some 154, .mov (.tmp 19), none⟩,
              ⟨some 155, .iadr (.tmp 153) (.tmp 154) 2, none⟩,
              ⟨some 156, .fadr (.tmp 155) 1, none⟩,
              ⟨some 157, .load1 (.tmp 156), none⟩,
              ⟨some 18, .mov (.tmp 157), none⟩]) (
            .skip)))) (
         .region [⟨some 134, .mov (.tmp 19), none⟩,
           ⟨some 135, .bin .add (.tmp 134) (.const (.int .i64 1)), none⟩,
           ⟨some 19, .mov (.tmp 135), none⟩])))))) (
      .seq (.draw (
        .q ⟨some 158, .mov (.tmp 17), none⟩ (
        .q ⟨some 159, .mov (.tmp 6), none⟩ (
        .q ⟨some 160, .nilc (.tmp 159), none⟩ (
        .q ⟨some 161, .fadr (.tmp 160) 0, none⟩ (
        .q ⟨some 162, .load1 (.tmp 161), none⟩ (
        .q ⟨some 163, .len (.tmp 162), none⟩ (
        .q ⟨some 164, .bin .gtr (.tmp 163) (.const (.int .i64 0)), none⟩ (
        .q ⟨some 165, .eqb true (.tmp 158) (.tmp 164), none⟩ (
        .q ⟨some 166, .mov (.tmp 165), none⟩ (
        .q ⟨some 167, .mov (.tmp 16), some (166, false)⟩ (
        .q ⟨some 168, .mov (.tmp 18), some (166, false)⟩ (
        .q ⟨some 169, .bin .neq (.tmp 167) (.tmp 168), some (166, false)⟩ (
        .q ⟨some 170, .pick (.tmp 166) (.const (.bool true)) (.tmp 169), none⟩ (
        .q ⟨some 171, .mov (.tmp 170), none⟩ (
        .q ⟨some 172, .mov (.tmp 5), some (171, false)⟩ (
        .q ⟨some 174, .mov (.tmp 6), some (171, false)⟩ (
        .q ⟨some 175, .nilc (.tmp 174), some (171, false)⟩ (
        .q ⟨some 176, .fadr (.tmp 175) 0, some (171, false)⟩ (
        .q ⟨some 177, .load1 (.tmp 176), some (171, false)⟩ (
        .q ⟨some 178, .len (.tmp 177), some (171, false)⟩ (
        .alt ⟨some 173, .call (.func 25) [(.tmp 172)], some (171, false)⟩ true (
         .q ⟨some 179, .bin .neq (.tmp 173) (.tmp 178), some (171, false)⟩ (
         .q ⟨some 180, .pick (.tmp 171) (.const (.bool true)) (.tmp 179), none⟩ (
         .done))) (.noalt))))))))))))))))))))))) (
      .cond (.tmp 180) (
       .seq (.region [⟨some 4, .mov (.const (.bool false)), none⟩]) (
       .ret)) (
       .skip)))))))))) (
    .region [⟨some 34, .mov (.tmp 7), none⟩,
      ⟨some 35, .bin .add (.tmp 34) (.const (.int .i64 1)), none⟩,
      ⟨some 7, .mov (.tmp 35), none⟩])))))) (
 .seq (.region [⟨some 181, .call (.func 14) [], none⟩,
    ⟨some 4, .mov (.tmp 181), none⟩]) (
 .ret)))))))
theorem Try.fx3 : FnX Try.prog 3 182 #[.tmp 4] Try.x3 :=
  ⟨Try.f3, Try.func3, by kernel_rfl, by kernel_rfl, by kernel_rfl, by kernel_rfl⟩
/-- freshet/freshetlaw16.TimerOnce -/
def Try.x4 : XCode :=
 .seq (.region [⟨some 4, .mov (.const (.bool false)), none⟩]) (
 .seq (.seq (.region [⟨some 14, .mov (.tmp 0), none⟩,
     ⟨some 15, .len (.tmp 14), none⟩,
     ⟨some 16, .bin .gtr (.tmp 15) (.const (.int .i64 30)), none⟩,
     ⟨some 17, .mov (.tmp 16), none⟩,
     ⟨some 18, .mov (.tmp 1), some (17, false)⟩,
     ⟨some 19, .bin .lss (.tmp 18) (.const (.int .i64 1)), some (17, false)⟩,
     ⟨some 20, .pick (.tmp 17) (.const (.bool true)) (.tmp 19), none⟩,
     ⟨some 21, .mov (.tmp 20), none⟩,
     ⟨some 22, .mov (.tmp 1), some (21, false)⟩,
     ⟨some 23, .bin .gtr (.tmp 22) (.const (.int .i64 10)), some (21, false)⟩,
     ⟨some 24, .pick (.tmp 21) (.const (.bool true)) (.tmp 23), none⟩]) (
  .cond (.tmp 24) (
   .seq (.region [⟨some 25, .call (.func 14) [], none⟩,
      ⟨some 4, .mov (.tmp 25), none⟩]) (
   .ret)) (
   .skip))) (
 .seq (.region [⟨some 26, .mov (.tmp 0), none⟩,
    ⟨some 27, .len (.tmp 26), none⟩,
    ⟨some 28, .call (.func 15) [(.tmp 27)], none⟩,
    ⟨some 5, .mov (.tmp 28), none⟩]) (
 .seq (.seq (.region [⟨some 29, .mov (.tmp 5), none⟩,
     ⟨some 30, .eqn 0 false (.tmp 29) (.const (.pointer none)), none⟩]) (
  .cond (.tmp 30) (
   .seq (.region [⟨some 4, .mov (.const (.bool false)), none⟩]) (
   .ret)) (
   .skip))) (
 .seq (.seq (.region [⟨some 6, .mov (.const (.int .i64 0)), none⟩]) (
  .block 0 (
   .loop (
    .seq (.seq (.region [⟨some 31, .mov (.tmp 6), none⟩,
        ⟨some 32, .mov (.tmp 0), none⟩,
        ⟨some 33, .len (.tmp 32), none⟩,
        ⟨some 34, .bin .lss (.tmp 31) (.tmp 33), none⟩]) (
     .cond (.tmp 34) (
      .skip) (
      .exit 0))) (
    .seq (.block 1 (
      .seq (.region [⟨some 37, .mov (.tmp 5), none⟩,
         ⟨some 38, .mov (.tmp 6), none⟩,
         ⟨some 39, .mov (.tmp 0), none⟩,
         ⟨some 40, .mov (.tmp 6), none⟩,
         ⟨some 41, .iadr (.tmp 39) (.tmp 40) 1, none⟩,
         ⟨some 42, .load1 (.tmp 41), none⟩,
         ⟨some 43, .call (.func 26) [(.tmp 42), (.const (.int .i64 20))], none⟩,
         ⟨some 44, .call (.func 18) [(.tmp 37), (.tmp 38), (.tmp 43)], none⟩,
         ⟨some 45, .bin .neq (.tmp 44) (.const (.int .i64 0)), none⟩]) (
      .cond (.tmp 45) (
       .seq (.region [⟨some 4, .mov (.const (.bool false)), none⟩]) (
       .ret)) (
       .skip)))) (
    .region [⟨some 35, .mov (.tmp 6), none⟩,
      ⟨some 36, .bin .add (.tmp 35) (.const (.int .i64 1)), none⟩,
      ⟨some 6, .mov (.tmp 36), none⟩])))))) (
 .seq (.region [⟨some 46, .mov (.tmp 0), none⟩,
    ⟨some 47, .len (.tmp 46), none⟩,
    ⟨some 48, .mksl 3 1 8 [(.int .i64 0)] (.tmp 47) (.tmp 47), none⟩,
    ⟨some 7, .mov (.tmp 48), none⟩]) (
 .seq (.seq (.region [⟨some 8, .mov (.const (.int .i64 0)), none⟩]) (
  .block 2 (
   .loop (
    .seq (.seq (.region [⟨some 49, .mov (.tmp 8), none⟩,
        ⟨some 50, .bin .lss (.tmp 49) (.const (.int .i64 40)), none⟩]) (
     .cond (.tmp 50) (
      .skip) (
      .exit 2))) (
    .seq (.block 3 (
      .seq (.region [⟨some 54, .mov (.tmp 5), none⟩,
         ⟨some 55, .mov (.tmp 8), none⟩,
         ⟨some 56, .call (.func 23) [(.tmp 54), (.tmp 55)], none⟩,
         ⟨some 9, .mov (.tmp 56), none⟩]) (
      .seq (.region [⟨some 10, .mov (.const (.int .i64 0)), none⟩]) (
      .block 4 (
       .loop (
        .seq (.seq (.region [⟨some 57, .mov (.tmp 10), none⟩,
            ⟨some 58, .mov (.tmp 9), none⟩,
            ⟨some 59, .len (.tmp 58), none⟩,
            ⟨some 60, .bin .lss (.tmp 57) (.tmp 59), none⟩]) (
         .cond (.tmp 60) (
          .skip) (
          .exit 4))) (
        .seq (.block 5 (
          .seq (.seq (.region [⟨some 63, .mov (.tmp 9), none⟩,
              ⟨some 64, .mov (.tmp 10), none⟩,
              ⟨some 65, .iadr (.tmp 63) (.tmp 64) 1, none⟩,
              ⟨some 66, .load1 (.tmp 65), none⟩,
              ⟨some 67, .bin .lss (.tmp 66) (.const (.int .i64 0)), none⟩,
              ⟨some 68, .mov (.tmp 67), none⟩,
              ⟨some 69, .mov (.tmp 9), some (68, false)⟩,
              ⟨some 70, .mov (.tmp 10), some (68, false)⟩,
              ⟨some 71, .iadr (.tmp 69) (.tmp 70) 1, some (68, false)⟩,
              ⟨some 72, .load1 (.tmp 71), some (68, false)⟩,
              ⟨some 73, .mov (.tmp 0), some (68, false)⟩,
              ⟨some 74, .len (.tmp 73), some (68, false)⟩,
              ⟨some 75, .bin .geq (.tmp 72) (.tmp 74), some (68, false)⟩,
              ⟨some 76, .pick (.tmp 68) (.const (.bool true)) (.tmp 75), none⟩]) (
           .cond (.tmp 76) (
            .seq (.region [⟨some 4, .mov (.const (.bool false)), none⟩]) (
            .ret)) (
            .skip))) (
          .seq (.region [⟨some 77, .mov (.tmp 0), none⟩,
             ⟨some 78, .mov (.tmp 9), none⟩,
             ⟨some 79, .mov (.tmp 10), none⟩,
             ⟨some 80, .iadr (.tmp 78) (.tmp 79) 1, none⟩,
             ⟨some 81, .load1 (.tmp 80), none⟩,
             ⟨some 82, .iadr (.tmp 77) (.tmp 81) 1, none⟩,
             ⟨some 83, .load1 (.tmp 82), none⟩,
             ⟨some 84, .call (.func 26) [(.tmp 83), (.const (.int .i64 20))], none⟩,
             ⟨some 11, .mov (.tmp 84), none⟩]) (
          .seq (.region [⟨some 85, .mov (.tmp 7), none⟩,
             ⟨some 86, .mov (.tmp 9), none⟩,
             ⟨some 87, .mov (.tmp 10), none⟩,
             ⟨some 88, .iadr (.tmp 86) (.tmp 87) 1, none⟩,
             ⟨some 89, .load1 (.tmp 88), none⟩,
             ⟨some 90, .iadr (.tmp 85) (.tmp 89) 1, none⟩,
             ⟨some 91, .load1 (.tmp 90), none⟩,
             ⟨some 92, .bin .add (.tmp 91) (.const (.int .i64 1)), none⟩,
             ⟨some 93, .iadr (.tmp 85) (.tmp 89) 1, none⟩,
             ⟨none, .store 1 (.tmp 93) (.tmp 92), none⟩]) (
          .seq (.seq (.region [⟨some 94, .mov (.tmp 11), none⟩,
              ⟨some 95, .mov (.tmp 8), none⟩,
              ⟨some 96, .bin .gtr (.tmp 94) (.tmp 95), none⟩,
              ⟨some 97, .mov (.tmp 96), none⟩,
              ⟨some 98, .mov (.tmp 11), some (97, false)⟩,
              ⟨some 99, .mov (.tmp 8), some (97, false)⟩,
              ⟨some 100, .mov (.tmp 1), some (97, false)⟩,
              ⟨some 101, .bin .sub (.tmp 99) (.tmp 100), some (97, false)⟩,
              ⟨some 102, .bin .leq (.tmp 98) (.tmp 101), some (97, false)⟩,
              ⟨some 103, .mov (.tmp 102), some (97, false)⟩,
              ⟨some 104, .mov (.tmp 8), some (103, true)⟩,
              ⟨some 105, .bin .gtr (.tmp 104) (.const (.int .i64 0)), some (103, true)⟩,
              ⟨some 106, .pick (.tmp 103) (.tmp 105) (.const (.bool false)), some (97, false)⟩,
              ⟨some 107, .pick (.tmp 97) (.const (.bool true)) (.tmp 106), none⟩]) (
           .cond (.tmp 107) (
            .seq (.region [⟨some 4, .mov (.const (.bool false)), none⟩]) (
            .ret)) (
            .skip))) (
          .seq (.region [⟨some 108, .mov (.tmp 10), none⟩,
             ⟨some 109, .bin .gtr (.tmp 108) (.const (.int .i64 0)), none⟩]) (
          .cond (.tmp 109) (
           .seq (.region [⟨some 110, .mov (.tmp 0), none⟩,
              ⟨some 111, .mov (.tmp 9), none⟩,
              ⟨some 112, .mov (.tmp 10), none⟩,
              ⟨some 113, .bin .sub (.tmp 112) (.const (.int .i64 1)), none⟩,
              ⟨some 114, .iadr (.tmp 111) (.tmp 113) 1, none⟩,
              ⟨some 115, .load1 (.tmp 114), none⟩,
              ⟨some 116, .iadr (.tmp 110) (.tmp 115) 1, none⟩,
              ⟨some 117, .load1 (.tmp 116), none⟩,
              ⟨some 118, .call (.func 26) [(.tmp 117), (.const (.int .i64 20))], none⟩,
              ⟨some 12, .mov (.tmp 118), none⟩]) (
           .seq (.draw (
             .q ⟨some 119, .mov (.tmp 12), none⟩ (
             .q ⟨some 120, .mov (.tmp 11), none⟩ (
             .q ⟨some 121, .bin .gtr (.tmp 119) (.tmp 120), none⟩ (
             .q ⟨some 122, .mov (.tmp 121), none⟩ (
             .q ⟨some 123, .mov (.tmp 12), some (122, false)⟩ (
             .q ⟨some 124, .mov (.tmp 11), some (122, false)⟩ (
             .q ⟨some 125, .bin .eql (.tmp 123) (.tmp 124), some (122, false)⟩ (
             .q ⟨some 126, .mov (.tmp 125), some (122, false)⟩ (
             .q ⟨some 127, .mov (.tmp 9), some (126, true)⟩ (
             .q ⟨some 128, .mov (.tmp 10), some (126, true)⟩ (
             .q ⟨some 129, .bin .sub (.tmp 128) (.const (.int .i64 1)), some (126, true)⟩ (
             .q ⟨some 130, .iadr (.tmp 127) (.tmp 129) 1, some (126, true)⟩ (
             .q ⟨some 131, .load1 (.tmp 130), some (126, true)⟩ (
             .q ⟨some 132, .mov (.tmp 9), some (126, true)⟩ (
             .q ⟨some 133, .mov (.tmp 10), some (126, true)⟩ (
             .q ⟨some 134, .iadr (.tmp 132) (.tmp 133) 1, some (126, true)⟩ (
             .q ⟨some 135, .load1 (.tmp 134), some (126, true)⟩ (
             .q ⟨some 136, .bin .geq (.tmp 131) (.tmp 135), some (126, true)⟩ (
             .q ⟨some 137, .pick (.tmp 126) (.tmp 136) (.const (.bool false)), some (122, false)⟩ (
             .q ⟨some 138, .pick (.tmp 122) (.const (.bool true)) (.tmp 137), none⟩ (
             .done)))))))))))))))))))))) (
           .cond (.tmp 138) (
            .seq (.region [⟨some 4, .mov (.const (.bool false)), none⟩]) (
            .ret)) (
            .skip)))) (
           .skip)))))))) (
        .region [⟨some 61, .mov (.tmp 10), none⟩,
          ⟨some 62, .bin .add (.tmp 61) (.const (.int .i64 1)), none⟩,
          ⟨some 10, .mov (.tmp 62), none⟩])))))))) (
    .region [⟨some 51, .mov (.tmp 8), none⟩,
      ⟨some 52, .mov (.tmp 1), none⟩,
      ⟨some 53, .bin .add (.tmp 51) (.tmp 52), none⟩,
      ⟨some 8, .mov (.tmp 53), none⟩])))))) (
 .seq (.seq (.region [⟨some 13, .mov (.const (.int .i64 0)), none⟩]) (
  .block 6 (
   .loop (
    .seq (.seq (.region [⟨some 139, .mov (.tmp 13), none⟩,
        ⟨some 140, .mov (.tmp 7), none⟩,
        ⟨some 141, .len (.tmp 140), none⟩,
        ⟨some 142, .bin .lss (.tmp 139) (.tmp 141), none⟩]) (
     .cond (.tmp 142) (
      .skip) (
      .exit 6))) (
    .seq (.block 7 (
      .seq (.region [⟨some 145, .mov (.tmp 7), none⟩,
         ⟨some 146, .mov (.tmp 13), none⟩,
         ⟨some 147, .iadr (.tmp 145) (.tmp 146) 1, none⟩,
         ⟨some 148, .load1 (.tmp 147), none⟩,
         ⟨some 149, .bin .neq (.tmp 148) (.const (.int .i64 1)), none⟩]) (
      .cond (.tmp 149) (
       .seq (.region [⟨some 4, .mov (.const (.bool false)), none⟩]) (
       .ret)) (
       .skip)))) (
    .region [⟨some 143, .mov (.tmp 13), none⟩,
      ⟨some 144, .bin .add (.tmp 143) (.const (.int .i64 1)), none⟩,
      ⟨some 13, .mov (.tmp 144), none⟩])))))) (
 .seq (.region [⟨some 150, .mov (.tmp 5), none⟩,
    ⟨some 151, .call (.func 25) [(.tmp 150)], none⟩,
    ⟨some 152, .bin .eql (.tmp 151) (.const (.int .i64 0)), none⟩,
    ⟨some 153, .mov (.tmp 152), none⟩,
    ⟨some 154, .call (.func 14) [], some (153, true)⟩,
    ⟨some 155, .pick (.tmp 153) (.tmp 154) (.const (.bool false)), none⟩,
    ⟨some 4, .mov (.tmp 155), none⟩]) (
 .ret)))))))))
theorem Try.fx4 : FnX Try.prog 4 156 #[.tmp 4] Try.x4 :=
  ⟨Try.f4, Try.func4, by kernel_rfl, by kernel_rfl, by kernel_rfl, by kernel_rfl⟩
/-- freshet/freshetlaw16.TimerRoom -/
def Try.x5 : XCode :=
 .seq (.region [⟨some 6, .mov (.const (.bool false)), none⟩]) (
 .seq (.seq (.region [⟨some 13, .mov (.tmp 0), none⟩,
     ⟨some 14, .bin .lss (.tmp 13) (.const (.int .i64 0)), none⟩,
     ⟨some 15, .mov (.tmp 14), none⟩,
     ⟨some 16, .mov (.tmp 0), some (15, false)⟩,
     ⟨some 17, .bin .gtr (.tmp 16) (.const (.int .i64 20)), some (15, false)⟩,
     ⟨some 18, .pick (.tmp 15) (.const (.bool true)) (.tmp 17), none⟩,
     ⟨some 19, .mov (.tmp 18), none⟩,
     ⟨some 20, .mov (.tmp 1), some (19, false)⟩,
     ⟨some 21, .bin .lss (.tmp 20) (.const (.int .i64 0)), some (19, false)⟩,
     ⟨some 22, .pick (.tmp 19) (.const (.bool true)) (.tmp 21), none⟩,
     ⟨some 23, .mov (.tmp 22), none⟩,
     ⟨some 24, .mov (.tmp 1), some (23, false)⟩,
     ⟨some 25, .bin .gtr (.tmp 24) (.const (.int .i64 30)), some (23, false)⟩,
     ⟨some 26, .pick (.tmp 23) (.const (.bool true)) (.tmp 25), none⟩]) (
  .cond (.tmp 26) (
   .seq (.region [⟨some 27, .call (.func 14) [], none⟩,
      ⟨some 6, .mov (.tmp 27), none⟩]) (
   .ret)) (
   .skip))) (
 .seq (.region [⟨some 28, .mov (.tmp 0), none⟩,
    ⟨some 29, .call (.func 15) [(.tmp 28)], none⟩,
    ⟨some 7, .mov (.tmp 29), none⟩]) (
 .seq (.seq (.region [⟨some 30, .mov (.tmp 7), none⟩,
     ⟨some 31, .eqn 0 false (.tmp 30) (.const (.pointer none)), none⟩]) (
  .cond (.tmp 31) (
   .seq (.region [⟨some 6, .mov (.const (.bool false)), none⟩]) (
   .ret)) (
   .skip))) (
 .seq (.seq (.region [⟨some 8, .mov (.const (.int .i64 0)), none⟩]) (
  .block 0 (
   .loop (
    .seq (.seq (.region [⟨some 32, .mov (.tmp 8), none⟩,
        ⟨some 33, .mov (.tmp 1), none⟩,
        ⟨some 34, .bin .lss (.tmp 32) (.tmp 33), none⟩]) (
     .cond (.tmp 34) (
      .skip) (
      .exit 0))) (
    .seq (.block 1 (
      .seq (.region [⟨some 37, .mov (.tmp 7), none⟩,
         ⟨some 38, .mov (.tmp 8), none⟩,
         ⟨some 39, .mov (.tmp 8), none⟩,
         ⟨some 40, .call (.func 18) [(.tmp 37), (.tmp 38), (.tmp 39)], none⟩,
         ⟨some 41, .bin .eql (.tmp 40) (.const (.int .i64 0)), none⟩,
         ⟨some 42, .mov (.tmp 8), none⟩,
         ⟨some 43, .mov (.tmp 0), none⟩,
         ⟨some 44, .bin .lss (.tmp 42) (.tmp 43), none⟩,
         ⟨some 45, .eqb true (.tmp 41) (.tmp 44), none⟩,
         ⟨some 46, .mov (.tmp 45), none⟩,
         ⟨some 47, .mov (.tmp 8), some (46, false)⟩,
         ⟨some 48, .mov (.tmp 0), some (46, false)⟩,
         ⟨some 49, .bin .lss (.tmp 47) (.tmp 48), some (46, false)⟩,
         ⟨some 50, .mov (.tmp 49), some (46, false)⟩,
         ⟨some 51, .mov (.tmp 7), some (50, true)⟩,
         ⟨some 52, .mov (.tmp 8), some (50, true)⟩,
         ⟨some 53, .mov (.tmp 8), some (50, true)⟩,
         ⟨some 54, .call (.func 18) [(.tmp 51), (.tmp 52), (.tmp 53)], some (50, true)⟩,
         ⟨some 55, .bin .neq (.tmp 54) (.const (.int .i64 0)), some (50, true)⟩,
         ⟨some 56, .pick (.tmp 50) (.tmp 55) (.const (.bool false)), some (46, false)⟩,
         ⟨some 57, .pick (.tmp 46) (.const (.bool true)) (.tmp 56), none⟩]) (
      .cond (.tmp 57) (
       .seq (.region [⟨some 6, .mov (.const (.bool false)), none⟩]) (
       .ret)) (
       .skip)))) (
    .region [⟨some 35, .mov (.tmp 8), none⟩,
      ⟨some 36, .bin .add (.tmp 35) (.const (.int .i64 1)), none⟩,
      ⟨some 8, .mov (.tmp 36), none⟩])))))) (
 .seq (.region [⟨some 58, .mov (.tmp 1), none⟩,
    ⟨some 59, .mov (.tmp 0), none⟩,
    ⟨some 60, .min (.tmp 58) [(.tmp 59)], none⟩,
    ⟨some 9, .mov (.tmp 60), none⟩]) (
 .seq (.region [⟨some 61, .mov (.tmp 2), none⟩,
    ⟨some 62, .call (.func 26) [(.tmp 61), (.const (.int .i64 32))], none⟩,
    ⟨some 10, .mov (.tmp 62), none⟩]) (
 .seq (.region [⟨some 63, .mov (.tmp 7), none⟩,
    ⟨some 64, .mov (.tmp 10), none⟩,
    ⟨some 65, .bin .sub (.tmp 64) (.const (.int .i64 1)), none⟩,
    ⟨some 66, .call (.func 23) [(.tmp 63), (.tmp 65)], none⟩,
    ⟨some 11, .mov (.tmp 66), none⟩]) (
 .seq (.seq (.region [⟨some 67, .mov (.tmp 11), none⟩,
     ⟨some 68, .len (.tmp 67), none⟩,
     ⟨some 69, .mov (.tmp 9), none⟩,
     ⟨some 70, .mov (.tmp 10), none⟩,
     ⟨some 71, .min (.tmp 69) [(.tmp 70)], none⟩,
     ⟨some 72, .bin .neq (.tmp 68) (.tmp 71), none⟩,
     ⟨some 73, .mov (.tmp 72), none⟩,
     ⟨some 74, .mov (.tmp 7), some (73, false)⟩,
     ⟨some 75, .call (.func 25) [(.tmp 74)], some (73, false)⟩,
     ⟨some 76, .mov (.tmp 9), some (73, false)⟩,
     ⟨some 77, .mov (.tmp 11), some (73, false)⟩,
     ⟨some 78, .len (.tmp 77), some (73, false)⟩,
     ⟨some 79, .bin .sub (.tmp 76) (.tmp 78), some (73, false)⟩,
     ⟨some 80, .bin .neq (.tmp 75) (.tmp 79), some (73, false)⟩,
     ⟨some 81, .pick (.tmp 73) (.const (.bool true)) (.tmp 80), none⟩]) (
  .cond (.tmp 81) (
   .seq (.region [⟨some 6, .mov (.const (.bool false)), none⟩]) (
   .ret)) (
   .skip))) (
 .seq (.seq (.region [⟨some 12, .mov (.const (.int .i64 0)), none⟩]) (
  .block 2 (
   .loop (
    .seq (.seq (.region [⟨some 82, .mov (.tmp 12), none⟩,
        ⟨some 83, .bin .lss (.tmp 82) (.const (.int .i64 25)), none⟩]) (
     .cond (.tmp 83) (
      .skip) (
      .exit 2))) (
    .seq (.block 3 (
      .seq (.region [⟨some 86, .mov (.tmp 7), none⟩,
         ⟨some 87, .mov (.tmp 12), none⟩,
         ⟨some 88, .bin .add (.const (.int .i64 100)) (.tmp 87), none⟩,
         ⟨some 89, .call (.func 18) [(.tmp 86), (.tmp 88), (.const (.int .i64 5))], none⟩,
         ⟨some 90, .bin .eql (.tmp 89) (.const (.int .i64 0)), none⟩,
         ⟨some 91, .mov (.tmp 9), none⟩,
         ⟨some 92, .mov (.tmp 11), none⟩,
         ⟨some 93, .len (.tmp 92), none⟩,
         ⟨some 94, .bin .sub (.tmp 91) (.tmp 93), none⟩,
         ⟨some 95, .mov (.tmp 12), none⟩,
         ⟨some 96, .bin .add (.tmp 94) (.tmp 95), none⟩,
         ⟨some 97, .mov (.tmp 0), none⟩,
         ⟨some 98, .bin .lss (.tmp 96) (.tmp 97), none⟩,
         ⟨some 99, .eqb true (.tmp 90) (.tmp 98), none⟩]) (
      .cond (.tmp 99) (
       .seq (.region [⟨some 6, .mov (.const (.bool false)), none⟩]) (
       .ret)) (
       .skip)))) (
    .region [⟨some 84, .mov (.tmp 12), none⟩,
      ⟨some 85, .bin .add (.tmp 84) (.const (.int .i64 1)), none⟩,
      ⟨some 12, .mov (.tmp 85), none⟩])))))) (
 .seq (.region [⟨some 100, .call (.func 14) [], none⟩,
    ⟨some 6, .mov (.tmp 100), none⟩]) (
 .ret)))))))))))
theorem Try.fx5 : FnX Try.prog 5 101 #[.tmp 6] Try.x5 :=
  ⟨Try.f5, Try.func5, by kernel_rfl, by kernel_rfl, by kernel_rfl, by kernel_rfl⟩
/-- freshet/freshetlaw16.TimerMoves -/
def Try.x6 : XCode :=
 .seq (.region [⟨some 6, .mov (.const (.bool false)), none⟩]) (
 .seq (.seq (.region [⟨some 13, .mov (.tmp 0), none⟩,
     ⟨some 14, .bin .lss (.tmp 13) (.const (.int .i64 0)), none⟩,
     ⟨some 15, .mov (.tmp 14), none⟩,
     ⟨some 16, .mov (.tmp 0), some (15, false)⟩,
     ⟨some 17, .bin .gtr (.tmp 16) (.const (.int .i64 50)), some (15, false)⟩,
     ⟨some 18, .pick (.tmp 15) (.const (.bool true)) (.tmp 17), none⟩,
     ⟨some 19, .mov (.tmp 18), none⟩,
     ⟨some 20, .mov (.tmp 1), some (19, false)⟩,
     ⟨some 21, .bin .lss (.tmp 20) (.const (.int .i64 0)), some (19, false)⟩,
     ⟨some 22, .pick (.tmp 19) (.const (.bool true)) (.tmp 21), none⟩,
     ⟨some 23, .mov (.tmp 22), none⟩,
     ⟨some 24, .mov (.tmp 1), some (23, false)⟩,
     ⟨some 25, .bin .gtr (.tmp 24) (.const (.int .i64 50)), some (23, false)⟩,
     ⟨some 26, .pick (.tmp 23) (.const (.bool true)) (.tmp 25), none⟩]) (
  .cond (.tmp 26) (
   .seq (.region [⟨some 27, .call (.func 14) [], none⟩,
      ⟨some 6, .mov (.tmp 27), none⟩]) (
   .ret)) (
   .skip))) (
 .seq (.region [⟨some 28, .call (.func 15) [(.const (.int .i64 2))], none⟩,
    ⟨some 7, .mov (.tmp 28), none⟩]) (
 .seq (.seq (.region [⟨some 29, .mov (.tmp 7), none⟩,
     ⟨some 30, .eqn 0 false (.tmp 29) (.const (.pointer none)), none⟩,
     ⟨some 31, .mov (.tmp 30), none⟩,
     ⟨some 32, .mov (.tmp 7), some (31, false)⟩,
     ⟨some 33, .mov (.tmp 0), some (31, false)⟩,
     ⟨some 34, .call (.func 18) [(.tmp 32), (.const (.int .i64 1)), (.tmp 33)], some (31, false)⟩,
     ⟨some 35, .bin .neq (.tmp 34) (.const (.int .i64 0)), some (31, false)⟩,
     ⟨some 36, .pick (.tmp 31) (.const (.bool true)) (.tmp 35), none⟩,
     ⟨some 37, .mov (.tmp 36), none⟩,
     ⟨some 38, .mov (.tmp 7), some (37, false)⟩,
     ⟨some 39, .mov (.tmp 1), some (37, false)⟩,
     ⟨some 40, .call (.func 18) [(.tmp 38), (.const (.int .i64 1)), (.tmp 39)], some (37, false)⟩,
     ⟨some 41, .bin .neq (.tmp 40) (.const (.int .i64 0)), some (37, false)⟩,
     ⟨some 42, .pick (.tmp 37) (.const (.bool true)) (.tmp 41), none⟩]) (
  .cond (.tmp 42) (
   .seq (.region [⟨some 6, .mov (.const (.bool false)), none⟩]) (
   .ret)) (
   .skip))) (
 .seq (.seq (.region [⟨some 43, .mov (.tmp 2), none⟩,
     ⟨some 44, .mov (.tmp 43), none⟩,
     ⟨some 45, .mov (.tmp 7), some (44, true)⟩,
     ⟨some 46, .call (.func 20) [(.tmp 45), (.const (.int .i64 1))], some (44, true)⟩,
     ⟨some 47, .bin .neq (.tmp 46) (.const (.int .i64 0)), some (44, true)⟩,
     ⟨some 48, .pick (.tmp 44) (.tmp 47) (.const (.bool false)), none⟩]) (
  .cond (.tmp 48) (
   .seq (.region [⟨some 6, .mov (.const (.bool false)), none⟩]) (
   .ret)) (
   .skip))) (
 .seq (.seq (.region [⟨some 8, .mov (.const (.int .i64 0)), none⟩]) (
  .block 0 (
   .loop (
    .seq (.seq (.region [⟨some 49, .mov (.tmp 8), none⟩,
        ⟨some 50, .bin .leq (.tmp 49) (.const (.int .i64 60)), none⟩]) (
     .cond (.tmp 50) (
      .skip) (
      .exit 0))) (
    .seq (.block 1 (
      .seq (.region [⟨some 54, .mov (.tmp 7), none⟩,
         ⟨some 55, .call (.func 24) [(.tmp 54)], none⟩,
         ⟨some 53, .mov (.tmp 55), none⟩,
         ⟨some 56, .ext (.tmp 53) 0, none⟩,
         ⟨some 57, .ext (.tmp 53) 1, none⟩,
         ⟨some 9, .mov (.tmp 56), none⟩,
         ⟨some 10, .mov (.tmp 57), none⟩]) (
      .seq (.region [⟨some 58, .mov (.tmp 2), none⟩,
         ⟨some 59, .un .not (.tmp 58), none⟩,
         ⟨some 60, .mov (.tmp 59), none⟩,
         ⟨some 61, .mov (.tmp 8), some (60, true)⟩,
         ⟨some 62, .mov (.tmp 1), some (60, true)⟩,
         ⟨some 63, .bin .leq (.tmp 61) (.tmp 62), some (60, true)⟩,
         ⟨some 64, .pick (.tmp 60) (.tmp 63) (.const (.bool false)), none⟩,
         ⟨some 11, .mov (.tmp 64), none⟩]) (
      .seq (.seq (.region [⟨some 65, .mov (.tmp 10), none⟩,
          ⟨some 66, .mov (.tmp 11), none⟩,
          ⟨some 67, .eqb true (.tmp 65) (.tmp 66), none⟩,
          ⟨some 68, .mov (.tmp 67), none⟩,
          ⟨some 69, .mov (.tmp 10), some (68, false)⟩,
          ⟨some 70, .mov (.tmp 69), some (68, false)⟩,
          ⟨some 71, .mov (.tmp 9), some (70, true)⟩,
          ⟨some 72, .mov (.tmp 1), some (70, true)⟩,
          ⟨some 73, .bin .neq (.tmp 71) (.tmp 72), some (70, true)⟩,
          ⟨some 74, .pick (.tmp 70) (.tmp 73) (.const (.bool false)), some (68, false)⟩,
          ⟨some 75, .pick (.tmp 68) (.const (.bool true)) (.tmp 74), none⟩]) (
       .cond (.tmp 75) (
        .seq (.region [⟨some 6, .mov (.const (.bool false)), none⟩]) (
        .ret)) (
        .skip))) (
      .seq (.region [⟨some 76, .mov (.tmp 7), none⟩,
         ⟨some 77, .mov (.tmp 8), none⟩,
         ⟨some 78, .call (.func 23) [(.tmp 76), (.tmp 77)], none⟩,
         ⟨some 12, .mov (.tmp 78), none⟩]) (
      .seq (.region [⟨some 79, .mov (.tmp 12), none⟩,
         ⟨some 80, .len (.tmp 79), none⟩,
         ⟨some 81, .bin .eql (.tmp 80) (.const (.int .i64 1)), none⟩,
         ⟨some 82, .mov (.tmp 2), none⟩,
         ⟨some 83, .un .not (.tmp 82), none⟩,
         ⟨some 84, .mov (.tmp 83), none⟩,
         ⟨some 85, .mov (.tmp 8), some (84, true)⟩,
         ⟨some 86, .mov (.tmp 1), some (84, true)⟩,
         ⟨some 87, .bin .eql (.tmp 85) (.tmp 86), some (84, true)⟩,
         ⟨some 88, .pick (.tmp 84) (.tmp 87) (.const (.bool false)), none⟩,
         ⟨some 89, .eqb true (.tmp 81) (.tmp 88), none⟩,
         ⟨some 90, .mov (.tmp 89), none⟩,
         ⟨some 91, .mov (.tmp 12), some (90, false)⟩,
         ⟨some 92, .len (.tmp 91), some (90, false)⟩,
         ⟨some 93, .bin .gtr (.tmp 92) (.const (.int .i64 1)), some (90, false)⟩,
         ⟨some 94, .pick (.tmp 90) (.const (.bool true)) (.tmp 93), none⟩]) (
      .cond (.tmp 94) (
       .seq (.region [⟨some 6, .mov (.const (.bool false)), none⟩]) (
       .ret)) (
       .skip)))))))) (
    .region [⟨some 51, .mov (.tmp 8), none⟩,
      ⟨some 52, .bin .add (.tmp 51) (.const (.int .i64 1)), none⟩,
      ⟨some 8, .mov (.tmp 52), none⟩])))))) (
 .seq (.region [⟨some 95, .mov (.tmp 7), none⟩,
    ⟨some 96, .call (.func 25) [(.tmp 95)], none⟩,
    ⟨some 97, .bin .eql (.tmp 96) (.const (.int .i64 0)), none⟩,
    ⟨some 98, .mov (.tmp 97), none⟩,
    ⟨some 99, .call (.func 14) [], some (98, true)⟩,
    ⟨some 100, .pick (.tmp 98) (.tmp 99) (.const (.bool false)), none⟩,
    ⟨some 6, .mov (.tmp 100), none⟩]) (
 .ret)))))))
theorem Try.fx6 : FnX Try.prog 6 101 #[.tmp 6] Try.x6 :=
  ⟨Try.f6, Try.func6, by kernel_rfl, by kernel_rfl, by kernel_rfl, by kernel_rfl⟩
/-- freshet/freshetlaw9.ListsLRU -/
def Try.x7 : XCode :=
 .seq (.region [⟨some 6, .mov (.const (.bool false)), none⟩]) (
 .seq (.seq (.region [⟨some 15, .mov (.tmp 1), none⟩,
     ⟨some 16, .len (.tmp 15), none⟩,
     ⟨some 17, .bin .gtr (.tmp 16) (.const (.int .i64 60)), none⟩]) (
  .cond (.tmp 17) (
   .seq (.region [⟨some 18, .call (.func 27) [], none⟩,
      ⟨some 6, .mov (.tmp 18), none⟩]) (
   .ret)) (
   .skip))) (
 .seq (.region [⟨some 19, .mov (.tmp 0), none⟩,
    ⟨some 20, .call (.func 28) [(.tmp 19)], none⟩,
    ⟨some 7, .mov (.tmp 20), none⟩]) (
 .seq (.region [⟨some 21, .mov (.tmp 0), none⟩,
    ⟨some 22, .build [(.int .i64 0), (.slice none 0 0), (.slice none 0 0)] [(0, 1, (.tmp 21))], none⟩,
    ⟨some 23, .box 57 (.tmp 22), none⟩,
    ⟨some 8, .mov (.tmp 23), none⟩]) (
 .seq (.seq (.region [⟨some 24, .mov (.tmp 7), none⟩,
     ⟨some 25, .eqn 0 false (.tmp 24) (.const (.pointer none)), none⟩]) (
  .cond (.tmp 25) (
   .seq (.region [⟨some 6, .mov (.const (.bool false)), none⟩]) (
   .ret)) (
   .skip))) (
 .seq (.seq (.region [⟨some 9, .mov (.const (.int .i64 0)), none⟩]) (
  .block 0 (
   .loop (
    .seq (.seq (.region [⟨some 26, .mov (.tmp 9), none⟩,
        ⟨some 27, .mov (.tmp 1), none⟩,
        ⟨some 28, .len (.tmp 27), none⟩,
        ⟨some 29, .bin .lss (.tmp 26) (.tmp 28), none⟩]) (
     .cond (.tmp 29) (
      .skip) (
      .exit 0))) (
    .seq (.block 1 (
      .seq (.region [⟨some 32, .mov (.tmp 1), none⟩,
         ⟨some 33, .mov (.tmp 9), none⟩,
         ⟨some 34, .iadr (.tmp 32) (.tmp 33) 3, none⟩,
         ⟨some 35, .fadr (.tmp 34) 1, none⟩,
         ⟨some 36, .load1 (.tmp 35), none⟩,
         ⟨some 10, .mov (.tmp 36), none⟩]) (
      .seq (.seq (.region [⟨some 37, .mov (.tmp 1), none⟩,
          ⟨some 38, .mov (.tmp 9), none⟩,
          ⟨some 39, .iadr (.tmp 37) (.tmp 38) 3, none⟩,
          ⟨some 40, .fadr (.tmp 39) 0, none⟩,
          ⟨some 41, .load1 (.tmp 40), none⟩]) (
       .block 2 (
        .seq (.region [⟨some 43, .bin .eql (.tmp 41) (.const (.int .i64 1)), none⟩,
           ⟨some 42, .mov (.tmp 43), none⟩]) (
        .cond (.tmp 42) (
         .seq (.region [⟨some 44, .mov (.tmp 7), none⟩,
            ⟨some 45, .mov (.tmp 10), none⟩,
            ⟨some 46, .call (.func 29) [(.tmp 44), (.tmp 45)], none⟩]) (
         .region [⟨some 47, .mov (.tmp 8), none⟩,
           ⟨some 48, .mov (.tmp 10), none⟩,
           ⟨some 49, .call (.func 30) [(.tmp 47), (.tmp 48)], none⟩])) (
         .seq (.region [⟨some 51, .bin .eql (.tmp 41) (.const (.int .i64 2)), none⟩,
            ⟨some 50, .mov (.tmp 51), none⟩]) (
         .cond (.tmp 50) (
          .seq (.region [⟨some 52, .mov (.tmp 7), none⟩,
             ⟨some 53, .mov (.tmp 10), none⟩,
             ⟨some 54, .call (.func 31) [(.tmp 52), (.tmp 53)], none⟩,
             ⟨some 55, .mov (.tmp 8), none⟩,
             ⟨some 56, .mov (.tmp 10), none⟩,
             ⟨some 57, .call (.func 32) [(.tmp 55), (.tmp 56)], none⟩,
             ⟨some 58, .eqb true (.tmp 54) (.tmp 57), none⟩]) (
          .cond (.tmp 58) (
           .seq (.region [⟨some 6, .mov (.const (.bool false)), none⟩]) (
           .ret)) (
           .skip))) (
          .seq (.region [⟨some 60, .bin .eql (.tmp 41) (.const (.int .i64 3)), none⟩,
             ⟨some 59, .mov (.tmp 60), none⟩]) (
          .cond (.tmp 59) (
           .seq (.region [⟨some 61, .mov (.tmp 7), none⟩,
              ⟨some 62, .mov (.tmp 10), none⟩,
              ⟨some 63, .call (.func 33) [(.tmp 61), (.tmp 62)], none⟩,
              ⟨some 64, .mov (.tmp 8), none⟩,
              ⟨some 65, .mov (.tmp 10), none⟩,
              ⟨some 66, .call (.func 34) [(.tmp 64), (.tmp 65)], none⟩,
              ⟨some 67, .eqb true (.tmp 63) (.tmp 66), none⟩]) (
           .cond (.tmp 67) (
            .seq (.region [⟨some 6, .mov (.const (.bool false)), none⟩]) (
            .ret)) (
            .skip))) (
           .skip))))))))) (
      .seq (.region [⟨some 69, .mov (.tmp 7), none⟩,
         ⟨some 70, .call (.func 35) [(.tmp 69)], none⟩,
         ⟨some 68, .mov (.tmp 70), none⟩,
         ⟨some 71, .ext (.tmp 68) 0, none⟩,
         ⟨some 72, .ext (.tmp 68) 1, none⟩,
         ⟨some 11, .mov (.tmp 71), none⟩,
         ⟨some 12, .mov (.tmp 72), none⟩]) (
      .seq (.region [⟨some 73, .mov (.tmp 11), none⟩,
         ⟨some 74, .mov (.tmp 8), none⟩,
         ⟨some 75, .nilc (.tmp 74), none⟩,
         ⟨some 76, .fadr (.tmp 75) 1, none⟩,
         ⟨some 77, .load1 (.tmp 76), none⟩,
         ⟨some 78, .len (.tmp 77), none⟩,
         ⟨some 79, .bin .neq (.tmp 73) (.tmp 78), none⟩,
         ⟨some 80, .mov (.tmp 79), none⟩,
         ⟨some 81, .mov (.tmp 12), some (80, false)⟩,
         ⟨some 82, .mov (.tmp 8), some (80, false)⟩,
         ⟨some 83, .nilc (.tmp 82), some (80, false)⟩,
         ⟨some 84, .fadr (.tmp 83) 2, some (80, false)⟩,
         ⟨some 85, .load1 (.tmp 84), some (80, false)⟩,
         ⟨some 86, .len (.tmp 85), some (80, false)⟩,
         ⟨some 87, .bin .neq (.tmp 81) (.tmp 86), some (80, false)⟩,
         ⟨some 88, .pick (.tmp 80) (.const (.bool true)) (.tmp 87), none⟩,
         ⟨some 89, .mov (.tmp 88), none⟩,
         ⟨some 90, .mov (.tmp 7), some (89, false)⟩,
         ⟨some 91, .call (.func 36) [(.tmp 90), (.const (.int .i64 (-1)))], some (89, false)⟩,
         ⟨some 92, .mov (.tmp 8), some (89, false)⟩,
         ⟨some 93, .call (.func 37) [(.tmp 92)], some (89, false)⟩,
         ⟨some 94, .call (.func 22) [(.tmp 91), (.tmp 93)], some (89, false)⟩,
         ⟨some 95, .un .not (.tmp 94), some (89, false)⟩,
         ⟨some 96, .pick (.tmp 89) (.const (.bool true)) (.tmp 95), none⟩]) (
      .cond (.tmp 96) (
       .seq (.region [⟨some 6, .mov (.const (.bool false)), none⟩]) (
       .ret)) (
       .skip))))))) (
    .region [⟨some 30, .mov (.tmp 9), none⟩,
      ⟨some 31, .bin .add (.tmp 30) (.const (.int .i64 1)), none⟩,
      ⟨some 9, .mov (.tmp 31), none⟩])))))) (
 .seq (.region [⟨some 97, .mov (.tmp 8), none⟩,
    ⟨some 98, .call (.func 37) [(.tmp 97)], none⟩,
    ⟨some 13, .mov (.tmp 98), none⟩]) (
 .seq (.region [⟨some 99, .mov (.tmp 2), none⟩,
    ⟨some 100, .mov (.tmp 13), none⟩,
    ⟨some 101, .len (.tmp 100), none⟩,
    ⟨some 102, .bin .add (.tmp 101) (.const (.int .i64 1)), none⟩,
    ⟨some 103, .call (.func 26) [(.tmp 99), (.tmp 102)], none⟩,
    ⟨some 14, .mov (.tmp 103), none⟩]) (
 .seq (.draw (
   .q ⟨some 104, .mov (.tmp 14), none⟩ (
   .q ⟨some 105, .bin .eql (.tmp 104) (.const (.int .i64 0)), none⟩ (
   .q ⟨some 106, .mov (.tmp 105), none⟩ (
   .q ⟨some 107, .mov (.tmp 7), some (106, false)⟩ (
   .q ⟨some 108, .mov (.tmp 14), some (106, false)⟩ (
   .q ⟨some 110, .mov (.tmp 13), some (106, false)⟩ (
   .q ⟨some 111, .mov (.tmp 14), some (106, false)⟩ (
   .q ⟨some 112, .slc 1 (.tmp 110) none (some (.tmp 111)) none, some (106, false)⟩ (
   .alt ⟨some 109, .call (.func 36) [(.tmp 107), (.tmp 108)], some (106, false)⟩ false (
    .alt ⟨some 113, .call (.func 22) [(.tmp 109), (.tmp 112)], some (106, false)⟩ false (
     .q ⟨some 114, .pick (.tmp 106) (.const (.bool true)) (.tmp 113), none⟩ (
     .q ⟨some 115, .mov (.tmp 114), none⟩ (
     .alt ⟨some 116, .call (.func 27) [], some (115, true)⟩ false (
      .q ⟨some 117, .pick (.tmp 115) (.tmp 116) (.const (.bool false)), none⟩ (
      .q ⟨some 6, .mov (.tmp 117), none⟩ (
      .done))) (.noalt)))) (.noalt)) (.noalt))))))))))) (
 .ret)))))))))
theorem Try.fx7 : FnX Try.prog 7 118 #[.tmp 6] Try.x7 :=
  ⟨Try.f7, Try.func7, by kernel_rfl, by kernel_rfl, by kernel_rfl, by kernel_rfl⟩
/-- freshet/freshetlaw9.ListsDue -/
def Try.x8 : XCode :=
 .seq (.region [⟨some 6, .mov (.const (.bool false)), none⟩]) (
 .seq (.seq (.region [⟨some 17, .mov (.tmp 0), none⟩,
     ⟨some 18, .len (.tmp 17), none⟩,
     ⟨some 19, .bin .gtr (.tmp 18) (.const (.int .i64 60)), none⟩]) (
  .cond (.tmp 19) (
   .seq (.region [⟨some 20, .call (.func 27) [], none⟩,
      ⟨some 6, .mov (.tmp 20), none⟩]) (
   .ret)) (
   .skip))) (
 .seq (.region [⟨some 21, .call (.func 38) [], none⟩,
    ⟨some 7, .mov (.tmp 21), none⟩]) (
 .seq (.region [⟨some 22, .build [(.slice none 0 0)] [], none⟩,
    ⟨some 23, .box 29 (.tmp 22), none⟩,
    ⟨some 8, .mov (.tmp 23), none⟩]) (
 .seq (.seq (.region [⟨some 24, .mov (.tmp 7), none⟩,
     ⟨some 25, .eqn 0 false (.tmp 24) (.const (.pointer none)), none⟩]) (
  .cond (.tmp 25) (
   .seq (.region [⟨some 6, .mov (.const (.bool false)), none⟩]) (
   .ret)) (
   .skip))) (
 .seq (.seq (.region [⟨some 9, .mov (.const (.int .i64 0)), none⟩]) (
  .block 0 (
   .loop (
    .seq (.seq (.region [⟨some 26, .mov (.tmp 9), none⟩,
        ⟨some 27, .mov (.tmp 0), none⟩,
        ⟨some 28, .len (.tmp 27), none⟩,
        ⟨some 29, .bin .lss (.tmp 26) (.tmp 28), none⟩]) (
     .cond (.tmp 29) (
      .skip) (
      .exit 0))) (
    .seq (.block 1 (
      .seq (.region [⟨some 32, .mov (.tmp 0), none⟩,
         ⟨some 33, .mov (.tmp 9), none⟩,
         ⟨some 34, .iadr (.tmp 32) (.tmp 33) 3, none⟩,
         ⟨some 35, .loadN 3 (.tmp 34), none⟩,
         ⟨some 10, .alloc 58 [(.int .i64 0), (.int .i64 0), (.int .i64 0)], none⟩,
         ⟨none, .store 3 (.tmp 10) (.tmp 35), none⟩]) (
      .seq (.seq (.region [⟨some 36, .fadr (.tmp 10) 0, none⟩,
          ⟨some 37, .load1 (.tmp 36), none⟩]) (
       .block 2 (
        .seq (.region [⟨some 39, .bin .eql (.tmp 37) (.const (.int .i64 1)), none⟩,
           ⟨some 38, .mov (.tmp 39), none⟩]) (
        .cond (.tmp 38) (
         .seq (.region [⟨some 40, .mov (.tmp 7), none⟩,
            ⟨some 41, .fadr (.tmp 10) 1, none⟩,
            ⟨some 42, .load1 (.tmp 41), none⟩,
            ⟨some 43, .fadr (.tmp 10) 2, none⟩,
            ⟨some 44, .load1 (.tmp 43), none⟩,
            ⟨some 45, .call (.func 39) [(.tmp 40), (.tmp 42), (.tmp 44)], none⟩]) (
         .region [⟨some 46, .mov (.tmp 8), none⟩,
           ⟨some 47, .fadr (.tmp 10) 1, none⟩,
           ⟨some 48, .load1 (.tmp 47), none⟩,
           ⟨some 49, .fadr (.tmp 10) 2, none⟩,
           ⟨some 50, .load1 (.tmp 49), none⟩,
           ⟨some 51, .call (.func 17) [(.tmp 46), (.tmp 48), (.tmp 50)], none⟩])) (
         .seq (.region [⟨some 53, .bin .eql (.tmp 37) (.const (.int .i64 3)), none⟩,
            ⟨some 52, .mov (.tmp 53), none⟩]) (
         .cond (.tmp 52) (
          .seq (.draw (
            .q ⟨some 54, .mov (.tmp 7), none⟩ (
            .q ⟨some 55, .fadr (.tmp 10) 1, none⟩ (
            .q ⟨some 56, .load1 (.tmp 55), none⟩ (
            .q ⟨some 58, .mov (.tmp 8), none⟩ (
            .q ⟨some 59, .fadr (.tmp 10) 1, none⟩ (
            .q ⟨some 60, .load1 (.tmp 59), none⟩ (
            .alt ⟨some 57, .call (.func 40) [(.tmp 54), (.tmp 56)], none⟩ true (
             .alt ⟨some 61, .call (.func 19) [(.tmp 58), (.tmp 60)], none⟩ false (
              .q ⟨some 62, .eqb true (.tmp 57) (.tmp 61), none⟩ (
              .done)) (.noalt)) (.noalt))))))))) (
          .cond (.tmp 62) (
           .seq (.region [⟨some 6, .mov (.const (.bool false)), none⟩]) (
           .ret)) (
           .skip))) (
          .skip))))))) (
      .seq (.region [⟨some 64, .mov (.tmp 7), none⟩,
         ⟨some 65, .fadr (.tmp 10) 1, none⟩,
         ⟨some 66, .load1 (.tmp 65), none⟩,
         ⟨some 67, .call (.func 41) [(.tmp 64), (.tmp 66)], none⟩,
         ⟨some 63, .mov (.tmp 67), none⟩,
         ⟨some 68, .ext (.tmp 63) 0, none⟩,
         ⟨some 69, .ext (.tmp 63) 1, none⟩,
         ⟨some 11, .mov (.tmp 68), none⟩,
         ⟨some 12, .mov (.tmp 69), none⟩]) (
      .seq (.region [⟨some 71, .mov (.tmp 8), none⟩,
         ⟨some 72, .fadr (.tmp 10) 1, none⟩,
         ⟨some 73, .load1 (.tmp 72), none⟩,
         ⟨some 74, .call (.func 16) [(.tmp 71), (.tmp 73)], none⟩,
         ⟨some 70, .mov (.tmp 74), none⟩,
         ⟨some 75, .ext (.tmp 70) 0, none⟩,
         ⟨some 76, .ext (.tmp 70) 1, none⟩,
         ⟨some 13, .mov (.tmp 75), none⟩,
         ⟨some 14, .mov (.tmp 76), none⟩]) (
      .seq (.draw (
        .q ⟨some 77, .mov (.tmp 11), none⟩ (
        .q ⟨some 78, .mov (.tmp 13), none⟩ (
        .q ⟨some 79, .bin .neq (.tmp 77) (.tmp 78), none⟩ (
        .q ⟨some 80, .mov (.tmp 79), none⟩ (
        .q ⟨some 81, .mov (.tmp 12), some (80, false)⟩ (
        .q ⟨some 82, .mov (.tmp 14), some (80, false)⟩ (
        .q ⟨some 83, .eqb true (.tmp 81) (.tmp 82), some (80, false)⟩ (
        .q ⟨some 84, .pick (.tmp 80) (.const (.bool true)) (.tmp 83), none⟩ (
        .q ⟨some 85, .mov (.tmp 84), none⟩ (
        .q ⟨some 86, .mov (.tmp 7), some (85, false)⟩ (
        .q ⟨some 88, .mov (.tmp 8), some (85, false)⟩ (
        .q ⟨some 89, .nilc (.tmp 88), some (85, false)⟩ (
        .q ⟨some 90, .fadr (.tmp 89) 0, some (85, false)⟩ (
        .q ⟨some 91, .load1 (.tmp 90), some (85, false)⟩ (
        .q ⟨some 92, .len (.tmp 91), some (85, false)⟩ (
        .alt ⟨some 87, .call (.func 42) [(.tmp 86)], some (85, false)⟩ true (
         .q ⟨some 93, .bin .neq (.tmp 87) (.tmp 92), some (85, false)⟩ (
         .q ⟨some 94, .pick (.tmp 85) (.const (.bool true)) (.tmp 93), none⟩ (
         .done))) (.noalt)))))))))))))))))) (
      .cond (.tmp 94) (
       .seq (.region [⟨some 6, .mov (.const (.bool false)), none⟩]) (
       .ret)) (
       .skip)))))))) (
    .region [⟨some 30, .mov (.tmp 9), none⟩,
      ⟨some 31, .bin .add (.tmp 30) (.const (.int .i64 1)), none⟩,
      ⟨some 9, .mov (.tmp 31), none⟩])))))) (
 .seq (.region [⟨some 95, .mov (.tmp 8), none⟩,
    ⟨some 96, .mov (.tmp 1), none⟩,
    ⟨some 97, .call (.func 21) [(.tmp 95), (.tmp 96)], none⟩,
    ⟨some 15, .mov (.tmp 97), none⟩]) (
 .seq (.region [⟨some 98, .mov (.tmp 2), none⟩,
    ⟨some 99, .mov (.tmp 15), none⟩,
    ⟨some 100, .len (.tmp 99), none⟩,
    ⟨some 101, .bin .add (.tmp 100) (.const (.int .i64 1)), none⟩,
    ⟨some 102, .call (.func 26) [(.tmp 98), (.tmp 101)], none⟩,
    ⟨some 16, .mov (.tmp 102), none⟩]) (
 .seq (.draw (
   .q ⟨some 103, .mov (.tmp 7), none⟩ (
   .q ⟨some 104, .mov (.tmp 1), none⟩ (
   .q ⟨some 106, .mov (.tmp 15), none⟩ (
   .alt ⟨some 105, .call (.func 44) [(.tmp 103), (.tmp 104), (.const (.int .i64 (-1)))], none⟩ false (
    .alt ⟨some 107, .call (.func 43) [(.tmp 105), (.tmp 106)], none⟩ false (
     .q ⟨some 108, .mov (.tmp 107), none⟩ (
     .q ⟨some 109, .mov (.tmp 16), some (108, true)⟩ (
     .q ⟨some 110, .bin .eql (.tmp 109) (.const (.int .i64 0)), some (108, true)⟩ (
     .q ⟨some 111, .mov (.tmp 110), some (108, true)⟩ (
     .q ⟨some 112, .mov (.tmp 7), some (111, false)⟩ (
     .q ⟨some 113, .mov (.tmp 1), some (111, false)⟩ (
     .q ⟨some 114, .mov (.tmp 16), some (111, false)⟩ (
     .q ⟨some 116, .mov (.tmp 15), some (111, false)⟩ (
     .q ⟨some 117, .mov (.tmp 16), some (111, false)⟩ (
     .q ⟨some 118, .slc 2 (.tmp 116) none (some (.tmp 117)) none, some (111, false)⟩ (
     .alt ⟨some 115, .call (.func 44) [(.tmp 112), (.tmp 113), (.tmp 114)], some (111, false)⟩ false (
      .alt ⟨some 119, .call (.func 43) [(.tmp 115), (.tmp 118)], some (111, false)⟩ false (
       .q ⟨some 120, .pick (.tmp 111) (.const (.bool true)) (.tmp 119), some (108, true)⟩ (
       .q ⟨some 121, .pick (.tmp 108) (.tmp 120) (.const (.bool false)), none⟩ (
       .q ⟨some 122, .mov (.tmp 121), none⟩ (
       .alt ⟨some 123, .call (.func 27) [], some (122, true)⟩ false (
        .q ⟨some 124, .pick (.tmp 122) (.tmp 123) (.const (.bool false)), none⟩ (
        .q ⟨some 6, .mov (.tmp 124), none⟩ (
        .done))) (.noalt))))) (.noalt)) (.noalt)))))))))))) (.noalt)) (.noalt)))))) (
 .ret)))))))))
theorem Try.fx8 : FnX Try.prog 8 125 #[.tmp 6] Try.x8 :=
  ⟨Try.f8, Try.func8, by kernel_rfl, by kernel_rfl, by kernel_rfl, by kernel_rfl⟩
/-- freshet/freshetlaw9.ListsWalk -/
def Try.x9 : XCode :=
 .seq (.region [⟨some 5, .box 40 (.tmp 2), none⟩,
    ⟨some 6, .mov (.const (.bool false)), none⟩]) (
 .seq (.seq (.region [⟨some 15, .mov (.tmp 0), none⟩,
     ⟨some 16, .bin .lss (.tmp 15) (.const (.int .i64 0)), none⟩,
     ⟨some 17, .mov (.tmp 16), none⟩,
     ⟨some 18, .mov (.tmp 0), some (17, false)⟩,
     ⟨some 19, .bin .gtr (.tmp 18) (.const (.int .i64 30)), some (17, false)⟩,
     ⟨some 20, .pick (.tmp 17) (.const (.bool true)) (.tmp 19), none⟩,
     ⟨some 21, .mov (.tmp 20), none⟩,
     ⟨some 22, .load1 (.tmp 5), some (21, false)⟩,
     ⟨some 23, .len (.tmp 22), some (21, false)⟩,
     ⟨some 24, .bin .gtr (.tmp 23) (.const (.int .i64 30)), some (21, false)⟩,
     ⟨some 25, .pick (.tmp 21) (.const (.bool true)) (.tmp 24), none⟩]) (
  .cond (.tmp 25) (
   .seq (.region [⟨some 26, .call (.func 27) [], none⟩,
      ⟨some 6, .mov (.tmp 26), none⟩]) (
   .ret)) (
   .skip))) (
 .seq (.region [⟨some 27, .call (.func 38) [], none⟩,
    ⟨some 7, .alloc 65 [(.pointer none)], none⟩,
    ⟨none, .store 1 (.tmp 7) (.tmp 27), none⟩]) (
 .seq (.seq (.region [⟨some 28, .load1 (.tmp 7), none⟩,
     ⟨some 29, .eqn 0 false (.tmp 28) (.const (.pointer none)), none⟩]) (
  .cond (.tmp 29) (
   .seq (.region [⟨some 6, .mov (.const (.bool false)), none⟩]) (
   .ret)) (
   .skip))) (
 .seq (.region [⟨some 8, .mov (.const (.slice none 0 0)), none⟩]) (
 .seq (.seq (.region [⟨some 9, .mov (.const (.int .i64 0)), none⟩]) (
  .block 0 (
   .loop (
    .seq (.seq (.region [⟨some 30, .mov (.tmp 9), none⟩,
        ⟨some 31, .mov (.tmp 0), none⟩,
        ⟨some 32, .bin .lss (.tmp 30) (.tmp 31), none⟩]) (
     .cond (.tmp 32) (
      .skip) (
      .exit 0))) (
    .seq (.block 1 (
      .seq (.region [⟨some 35, .load1 (.tmp 7), none⟩,
         ⟨some 36, .mov (.tmp 9), none⟩,
         ⟨some 37, .mov (.tmp 9), none⟩,
         ⟨some 38, .bin .quo (.tmp 37) (.const (.int .i64 2)), none⟩,
         ⟨some 39, .call (.func 39) [(.tmp 35), (.tmp 36), (.tmp 38)], none⟩]) (
      .seq (.region [⟨some 40, .mov (.tmp 9), none⟩,
         ⟨some 41, .bin .quo (.tmp 40) (.const (.int .i64 2)), none⟩,
         ⟨some 42, .mov (.tmp 1), none⟩,
         ⟨some 43, .bin .leq (.tmp 41) (.tmp 42), none⟩]) (
      .cond (.tmp 43) (
       .region [⟨some 44, .mov (.tmp 8), none⟩,
         ⟨some 45, .mov (.tmp 9), none⟩,
         ⟨some 46, .mov (.tmp 9), none⟩,
         ⟨some 47, .bin .quo (.tmp 46) (.const (.int .i64 2)), none⟩,
         ⟨some 48, .build [(.int .i64 0), (.int .i64 0)] [(0, 1, (.tmp 45)), (1, 1, (.tmp 47))], none⟩,
         ⟨some 49, .bsl 42 1 2 [(.int .i64 0), (.int .i64 0)] [(0, (.tmp 48))], none⟩,
         ⟨some 50, .app 42 2 16 [(.int .i64 0), (.int .i64 0)] (.tmp 44) (.tmp 49), none⟩,
         ⟨some 8, .mov (.tmp 50), none⟩]) (
       .skip))))) (
    .region [⟨some 33, .mov (.tmp 9), none⟩,
      ⟨some 34, .bin .add (.tmp 33) (.const (.int .i64 1)), none⟩,
      ⟨some 9, .mov (.tmp 34), none⟩])))))) (
 .seq (.region [⟨some 10, .alloc 27 [(.slice none 0 0)], none⟩]) (
 .seq (.region [⟨some 11, .alloc 3 [(.int .i64 0)], none⟩,
    ⟨none, .store 1 (.tmp 11) (.const (.int .i64 0)), none⟩]) (
 .seq (.region [⟨some 51, .load1 (.tmp 7), none⟩,
    ⟨some 52, .mov (.tmp 1), none⟩,
    ⟨some 53, .call (.func 45) [(.tmp 51), (.tmp 52)], none⟩,
    ⟨some 12, .mov (.tmp 53), none⟩]) (
 .seq (.seq (.region [⟨some 54, .mov (.tmp 12), none⟩,
     ⟨some 55, .eqn 3 false (.tmp 54) (.const .nilFunc), none⟩]) (
  .cond (.tmp 55) (
   .seq (.region [⟨some 6, .mov (.const (.bool false)), none⟩]) (
   .ret)) (
   .skip))) (
 .seq (.seq (.region [⟨some 56, .mov (.tmp 12), none⟩]) (
  .block 2 (
   .range (.tmp 56) [57, 58] (
    .seq (.region [⟨some 13, .mov (.tmp 57), none⟩]) (
    .region [⟨some 14, .mov (.tmp 58), none⟩])) (
    .block 3 (
     .seq (.region [⟨some 59, .load1 (.tmp 10), none⟩,
        ⟨some 60, .mov (.tmp 13), none⟩,
        ⟨some 61, .mov (.tmp 14), none⟩,
        ⟨some 62, .build [(.int .i64 0), (.int .i64 0)] [(0, 1, (.tmp 60)), (1, 1, (.tmp 61))], none⟩,
        ⟨some 63, .bsl 42 1 2 [(.int .i64 0), (.int .i64 0)] [(0, (.tmp 62))], none⟩,
        ⟨some 64, .app 42 2 16 [(.int .i64 0), (.int .i64 0)] (.tmp 59) (.tmp 63), none⟩,
        ⟨none, .store 1 (.tmp 10) (.tmp 64), none⟩]) (
     .seq (.seq (.region [⟨some 65, .load1 (.tmp 11), none⟩,
         ⟨some 66, .load1 (.tmp 5), none⟩,
         ⟨some 67, .len (.tmp 66), none⟩,
         ⟨some 68, .bin .lss (.tmp 65) (.tmp 67), none⟩]) (
      .cond (.tmp 68) (
       .seq (.draw (
         .q ⟨some 69, .load1 (.tmp 7), none⟩ (
         .q ⟨some 70, .load1 (.tmp 5), none⟩ (
         .q ⟨some 71, .load1 (.tmp 11), none⟩ (
         .q ⟨some 72, .iadr (.tmp 70) (.tmp 71) 1, none⟩ (
         .q ⟨some 73, .load1 (.tmp 72), none⟩ (
         .alt ⟨some 74, .call (.func 26) [(.tmp 73), (.const (.int .i64 40))], none⟩ true (
          .alt ⟨some 75, .call (.func 40) [(.tmp 69), (.tmp 74)], none⟩ false (
           .done) (.noalt)) (.noalt)))))))) (
       .region [⟨some 76, .load1 (.tmp 7), none⟩,
         ⟨some 77, .load1 (.tmp 11), none⟩,
         ⟨some 78, .bin .add (.const (.int .i64 100)) (.tmp 77), none⟩,
         ⟨some 79, .call (.func 39) [(.tmp 76), (.tmp 78), (.const (.int .i64 0))], none⟩])) (
       .skip))) (
     .region [⟨some 80, .load1 (.tmp 11), none⟩,
       ⟨some 81, .bin .add (.tmp 80) (.const (.int .i64 1)), none⟩,
       ⟨none, .store 1 (.tmp 11) (.tmp 81), none⟩]))))))) (
 .seq (.region [⟨some 82, .load1 (.tmp 10), none⟩,
    ⟨some 83, .mov (.tmp 8), none⟩,
    ⟨some 84, .call (.func 43) [(.tmp 82), (.tmp 83)], none⟩,
    ⟨some 85, .mov (.tmp 84), none⟩,
    ⟨some 86, .call (.func 27) [], some (85, true)⟩,
    ⟨some 87, .pick (.tmp 85) (.tmp 86) (.const (.bool false)), none⟩,
    ⟨some 6, .mov (.tmp 87), none⟩]) (
 .ret))))))))))))
theorem Try.fx9 : FnX Try.prog 9 88 #[.tmp 6] Try.x9 :=
  ⟨Try.f9, Try.func9, by kernel_rfl, by kernel_rfl, by kernel_rfl, by kernel_rfl⟩
/-- freshet/freshetlaw9.ListsPlaces -/
def Try.x10 : XCode :=
 .seq (.region [⟨some 6, .mov (.const (.bool false)), none⟩]) (
 .seq (.seq (.region [⟨some 14, .mov (.tmp 0), none⟩,
     ⟨some 15, .bin .lss (.tmp 14) (.const (.int .i64 1)), none⟩,
     ⟨some 16, .mov (.tmp 15), none⟩,
     ⟨some 17, .mov (.tmp 0), some (16, false)⟩,
     ⟨some 18, .bin .gtr (.tmp 17) (.const (.int .i64 20)), some (16, false)⟩,
     ⟨some 19, .pick (.tmp 16) (.const (.bool true)) (.tmp 18), none⟩,
     ⟨some 20, .mov (.tmp 19), none⟩,
     ⟨some 21, .mov (.tmp 1), some (20, false)⟩,
     ⟨some 22, .bin .lss (.tmp 21) (.const (.int .i64 1)), some (20, false)⟩,
     ⟨some 23, .pick (.tmp 20) (.const (.bool true)) (.tmp 22), none⟩,
     ⟨some 24, .mov (.tmp 23), none⟩,
     ⟨some 25, .mov (.tmp 1), some (24, false)⟩,
     ⟨some 26, .bin .gtr (.tmp 25) (.const (.int .i64 10)), some (24, false)⟩,
     ⟨some 27, .pick (.tmp 24) (.const (.bool true)) (.tmp 26), none⟩,
     ⟨some 28, .mov (.tmp 27), none⟩,
     ⟨some 29, .mov (.tmp 2), some (28, false)⟩,
     ⟨some 30, .len (.tmp 29), some (28, false)⟩,
     ⟨some 31, .bin .gtr (.tmp 30) (.const (.int .i64 20)), some (28, false)⟩,
     ⟨some 32, .pick (.tmp 28) (.const (.bool true)) (.tmp 31), none⟩]) (
  .cond (.tmp 32) (
   .seq (.region [⟨some 33, .call (.func 27) [], none⟩,
      ⟨some 6, .mov (.tmp 33), none⟩]) (
   .ret)) (
   .skip))) (
 .seq (.region [⟨some 34, .mov (.tmp 1), none⟩,
    ⟨some 35, .call (.func 28) [(.tmp 34)], none⟩,
    ⟨some 7, .mov (.tmp 35), none⟩]) (
 .seq (.seq (.region [⟨some 36, .mov (.tmp 7), none⟩,
     ⟨some 37, .eqn 0 false (.tmp 36) (.const (.pointer none)), none⟩]) (
  .cond (.tmp 37) (
   .seq (.region [⟨some 6, .mov (.const (.bool false)), none⟩]) (
   .ret)) (
   .skip))) (
 .seq (.seq (.region [⟨some 8, .mov (.const (.int .i64 0)), none⟩]) (
  .block 0 (
   .loop (
    .seq (.seq (.region [⟨some 38, .mov (.tmp 8), none⟩,
        ⟨some 39, .mov (.tmp 0), none⟩,
        ⟨some 40, .bin .lss (.tmp 38) (.tmp 39), none⟩]) (
     .cond (.tmp 40) (
      .skip) (
      .exit 0))) (
    .seq (.block 1 (
      .seq (.region [⟨some 43, .mov (.tmp 7), none⟩,
         ⟨some 44, .mov (.tmp 8), none⟩,
         ⟨some 45, .call (.func 29) [(.tmp 43), (.tmp 44)], none⟩]) (
      .region [⟨some 46, .mov (.tmp 7), none⟩,
        ⟨some 47, .mov (.tmp 8), none⟩,
        ⟨some 48, .bin .quo (.tmp 47) (.const (.int .i64 2)), none⟩,
        ⟨some 49, .call (.func 29) [(.tmp 46), (.tmp 48)], none⟩]))) (
    .region [⟨some 41, .mov (.tmp 8), none⟩,
      ⟨some 42, .bin .add (.tmp 41) (.const (.int .i64 1)), none⟩,
      ⟨some 8, .mov (.tmp 42), none⟩])))))) (
 .seq (.seq (.region [⟨some 9, .mov (.const (.int .i64 0)), none⟩]) (
  .block 2 (
   .loop (
    .seq (.seq (.region [⟨some 50, .mov (.tmp 9), none⟩,
        ⟨some 51, .mov (.tmp 2), none⟩,
        ⟨some 52, .len (.tmp 51), none⟩,
        ⟨some 53, .bin .lss (.tmp 50) (.tmp 52), none⟩]) (
     .cond (.tmp 53) (
      .skip) (
      .exit 2))) (
    .seq (.block 3 (
      .seq (.region [⟨some 56, .mov (.tmp 7), none⟩,
         ⟨some 57, .mov (.tmp 2), none⟩,
         ⟨some 58, .mov (.tmp 9), none⟩,
         ⟨some 59, .iadr (.tmp 57) (.tmp 58) 1, none⟩,
         ⟨some 60, .load1 (.tmp 59), none⟩,
         ⟨some 61, .mov (.tmp 0), none⟩,
         ⟨some 62, .call (.func 26) [(.tmp 60), (.tmp 61)], none⟩,
         ⟨some 63, .call (.func 31) [(.tmp 56), (.tmp 62)], none⟩,
         ⟨some 64, .un .not (.tmp 63), none⟩]) (
      .cond (.tmp 64) (
       .seq (.region [⟨some 6, .mov (.const (.bool false)), none⟩]) (
       .ret)) (
       .skip)))) (
    .region [⟨some 54, .mov (.tmp 9), none⟩,
      ⟨some 55, .bin .add (.tmp 54) (.const (.int .i64 1)), none⟩,
      ⟨some 9, .mov (.tmp 55), none⟩])))))) (
 .seq (.region [⟨some 66, .mov (.tmp 7), none⟩,
    ⟨some 67, .call (.func 35) [(.tmp 66)], none⟩,
    ⟨some 65, .mov (.tmp 67), none⟩,
    ⟨some 68, .ext (.tmp 65) 0, none⟩,
    ⟨some 69, .ext (.tmp 65) 1, none⟩,
    ⟨some 10, .mov (.tmp 68), none⟩,
    ⟨some 11, .mov (.tmp 69), none⟩]) (
 .seq (.seq (.region [⟨some 70, .mov (.tmp 10), none⟩,
     ⟨some 71, .mov (.tmp 11), none⟩,
     ⟨some 72, .bin .add (.tmp 70) (.tmp 71), none⟩,
     ⟨some 73, .mov (.tmp 0), none⟩,
     ⟨some 74, .bin .neq (.tmp 72) (.tmp 73), none⟩,
     ⟨some 75, .mov (.tmp 74), none⟩,
     ⟨some 76, .mov (.tmp 11), some (75, false)⟩,
     ⟨some 77, .mov (.tmp 1), some (75, false)⟩,
     ⟨some 78, .bin .gtr (.tmp 76) (.tmp 77), some (75, false)⟩,
     ⟨some 79, .pick (.tmp 75) (.const (.bool true)) (.tmp 78), none⟩,
     ⟨some 80, .mov (.tmp 79), none⟩,
     ⟨some 81, .mov (.tmp 2), some (80, false)⟩,
     ⟨some 82, .len (.tmp 81), some (80, false)⟩,
     ⟨some 83, .bin .gtr (.tmp 82) (.const (.int .i64 0)), some (80, false)⟩,
     ⟨some 84, .mov (.tmp 83), some (80, false)⟩,
     ⟨some 85, .mov (.tmp 11), some (84, true)⟩,
     ⟨some 86, .bin .eql (.tmp 85) (.const (.int .i64 0)), some (84, true)⟩,
     ⟨some 87, .pick (.tmp 84) (.tmp 86) (.const (.bool false)), some (80, false)⟩,
     ⟨some 88, .pick (.tmp 80) (.const (.bool true)) (.tmp 87), none⟩]) (
  .cond (.tmp 88) (
   .seq (.region [⟨some 6, .mov (.const (.bool false)), none⟩]) (
   .ret)) (
   .skip))) (
 .seq (.region [⟨some 89, .mov (.tmp 7), none⟩,
    ⟨some 90, .call (.func 36) [(.tmp 89), (.const (.int .i64 (-1)))], none⟩,
    ⟨some 12, .mov (.tmp 90), none⟩]) (
 .seq (.seq (.region [⟨some 91, .mov (.tmp 12), none⟩,
     ⟨some 92, .len (.tmp 91), none⟩,
     ⟨some 93, .mov (.tmp 0), none⟩,
     ⟨some 94, .bin .neq (.tmp 92) (.tmp 93), none⟩]) (
  .cond (.tmp 94) (
   .seq (.region [⟨some 6, .mov (.const (.bool false)), none⟩]) (
   .ret)) (
   .skip))) (
 .seq (.seq (.region [⟨some 95, .mov (.tmp 2), none⟩,
     ⟨some 96, .len (.tmp 95), none⟩,
     ⟨some 97, .bin .eql (.tmp 96) (.const (.int .i64 0)), none⟩]) (
  .cond (.tmp 97) (
   .seq (.seq (.region [⟨some 13, .mov (.const (.int .i64 0)), none⟩]) (
    .block 4 (
     .loop (
      .seq (.seq (.region [⟨some 98, .mov (.tmp 13), none⟩,
          ⟨some 99, .mov (.tmp 0), none⟩,
          ⟨some 100, .bin .lss (.tmp 98) (.tmp 99), none⟩]) (
       .cond (.tmp 100) (
        .skip) (
        .exit 4))) (
      .seq (.block 5 (
        .seq (.region [⟨some 103, .mov (.tmp 12), none⟩,
           ⟨some 104, .mov (.tmp 13), none⟩,
           ⟨some 105, .iadr (.tmp 103) (.tmp 104) 1, none⟩,
           ⟨some 106, .load1 (.tmp 105), none⟩,
           ⟨some 107, .mov (.tmp 13), none⟩,
           ⟨some 108, .bin .neq (.tmp 106) (.tmp 107), none⟩]) (
        .cond (.tmp 108) (
         .seq (.region [⟨some 6, .mov (.const (.bool false)), none⟩]) (
         .ret)) (
         .skip)))) (
      .region [⟨some 101, .mov (.tmp 13), none⟩,
        ⟨some 102, .bin .add (.tmp 101) (.const (.int .i64 1)), none⟩,
        ⟨some 13, .mov (.tmp 102), none⟩])))))) (
   .seq (.region [⟨some 109, .mov (.tmp 11), none⟩,
      ⟨some 110, .bin .eql (.tmp 109) (.const (.int .i64 0)), none⟩,
      ⟨some 111, .mov (.tmp 110), none⟩,
      ⟨some 112, .call (.func 27) [], some (111, true)⟩,
      ⟨some 113, .pick (.tmp 111) (.tmp 112) (.const (.bool false)), none⟩,
      ⟨some 6, .mov (.tmp 113), none⟩]) (
   .ret))) (
   .skip))) (
 .seq (.draw (
   .q ⟨some 114, .mov (.tmp 12), none⟩ (
   .q ⟨some 115, .mov (.tmp 0), none⟩ (
   .q ⟨some 116, .bin .sub (.tmp 115) (.const (.int .i64 1)), none⟩ (
   .q ⟨some 117, .iadr (.tmp 114) (.tmp 116) 1, none⟩ (
   .q ⟨some 118, .load1 (.tmp 117), none⟩ (
   .q ⟨some 119, .mov (.tmp 2), none⟩ (
   .q ⟨some 120, .mov (.tmp 2), none⟩ (
   .q ⟨some 121, .len (.tmp 120), none⟩ (
   .q ⟨some 122, .bin .sub (.tmp 121) (.const (.int .i64 1)), none⟩ (
   .q ⟨some 123, .iadr (.tmp 119) (.tmp 122) 1, none⟩ (
   .q ⟨some 124, .load1 (.tmp 123), none⟩ (
   .q ⟨some 125, .mov (.tmp 0), none⟩ (
   .alt ⟨some 126, .call (.func 26) [(.tmp 124), (.tmp 125)], none⟩ true (
    .q ⟨some 127, .bin .eql (.tmp 118) (.tmp 126), none⟩ (
    .q ⟨some 128, .mov (.tmp 127), none⟩ (
    .alt ⟨some 129, .call (.func 27) [], some (128, true)⟩ false (
     .q ⟨some 130, .pick (.tmp 128) (.tmp 129) (.const (.bool false)), none⟩ (
     .q ⟨some 6, .mov (.tmp 130), none⟩ (
     .done))) (.noalt)))) (.noalt))))))))))))))) (
 .ret))))))))))))
theorem Try.fx10 : FnX Try.prog 10 131 #[.tmp 6] Try.x10 :=
  ⟨Try.f10, Try.func10, by kernel_rfl, by kernel_rfl, by kernel_rfl, by kernel_rfl⟩
/-- freshet/freshetlaw9.ListsTimes -/
def Try.x11 : XCode :=
 .seq (.region [⟨some 6, .mov (.const (.bool false)), none⟩]) (
 .seq (.seq (.region [⟨some 17, .mov (.tmp 0), none⟩,
     ⟨some 18, .bin .lss (.tmp 17) (.const (.int .i64 1)), none⟩,
     ⟨some 19, .mov (.tmp 18), none⟩,
     ⟨some 20, .mov (.tmp 0), some (19, false)⟩,
     ⟨some 21, .bin .gtr (.tmp 20) (.const (.int .i64 20)), some (19, false)⟩,
     ⟨some 22, .pick (.tmp 19) (.const (.bool true)) (.tmp 21), none⟩,
     ⟨some 23, .mov (.tmp 22), none⟩,
     ⟨some 24, .mov (.tmp 1), some (23, false)⟩,
     ⟨some 25, .len (.tmp 24), some (23, false)⟩,
     ⟨some 26, .bin .gtr (.tmp 25) (.const (.int .i64 20)), some (23, false)⟩,
     ⟨some 27, .pick (.tmp 23) (.const (.bool true)) (.tmp 26), none⟩]) (
  .cond (.tmp 27) (
   .seq (.region [⟨some 28, .call (.func 27) [], none⟩,
      ⟨some 6, .mov (.tmp 28), none⟩]) (
   .ret)) (
   .skip))) (
 .seq (.region [⟨some 29, .call (.func 38) [], none⟩,
    ⟨some 7, .mov (.tmp 29), none⟩]) (
 .seq (.seq (.region [⟨some 30, .mov (.tmp 7), none⟩,
     ⟨some 31, .eqn 0 false (.tmp 30) (.const (.pointer none)), none⟩]) (
  .cond (.tmp 31) (
   .seq (.region [⟨some 6, .mov (.const (.bool false)), none⟩]) (
   .ret)) (
   .skip))) (
 .seq (.seq (.region [⟨some 8, .mov (.const (.int .i64 0)), none⟩]) (
  .block 0 (
   .loop (
    .seq (.seq (.region [⟨some 32, .mov (.tmp 8), none⟩,
        ⟨some 33, .mov (.tmp 0), none⟩,
        ⟨some 34, .bin .lss (.tmp 32) (.tmp 33), none⟩]) (
     .cond (.tmp 34) (
      .skip) (
      .exit 0))) (
    .seq (.block 1 (
      .region [⟨some 37, .mov (.tmp 7), none⟩,
        ⟨some 38, .mov (.tmp 8), none⟩,
        ⟨some 39, .call (.func 39) [(.tmp 37), (.tmp 38), (.const (.int .i64 5))], none⟩])) (
    .region [⟨some 35, .mov (.tmp 8), none⟩,
      ⟨some 36, .bin .add (.tmp 35) (.const (.int .i64 1)), none⟩,
      ⟨some 8, .mov (.tmp 36), none⟩])))))) (
 .seq (.region [⟨some 9, .mov (.const (.slice none 0 0)), none⟩]) (
 .seq (.seq (.region [⟨some 10, .mov (.const (.int .i64 0)), none⟩]) (
  .block 2 (
   .loop (
    .seq (.seq (.region [⟨some 40, .mov (.tmp 10), none⟩,
        ⟨some 41, .mov (.tmp 0), none⟩,
        ⟨some 42, .bin .lss (.tmp 40) (.tmp 41), none⟩]) (
     .cond (.tmp 42) (
      .skip) (
      .exit 2))) (
    .seq (.block 3 (
      .region [⟨some 45, .mov (.tmp 9), none⟩,
        ⟨some 46, .mov (.tmp 10), none⟩,
        ⟨some 47, .bsl 3 1 1 [(.int .i64 0)] [(0, (.tmp 46))], none⟩,
        ⟨some 48, .app 3 1 8 [(.int .i64 0)] (.tmp 45) (.tmp 47), none⟩,
        ⟨some 9, .mov (.tmp 48), none⟩])) (
    .region [⟨some 43, .mov (.tmp 10), none⟩,
      ⟨some 44, .bin .add (.tmp 43) (.const (.int .i64 1)), none⟩,
      ⟨some 10, .mov (.tmp 44), none⟩])))))) (
 .seq (.seq (.region [⟨some 11, .mov (.const (.int .i64 0)), none⟩]) (
  .block 4 (
   .loop (
    .seq (.seq (.region [⟨some 49, .mov (.tmp 11), none⟩,
        ⟨some 50, .mov (.tmp 1), none⟩,
        ⟨some 51, .len (.tmp 50), none⟩,
        ⟨some 52, .bin .lss (.tmp 49) (.tmp 51), none⟩]) (
     .cond (.tmp 52) (
      .skip) (
      .exit 4))) (
    .seq (.block 5 (
      .seq (.region [⟨some 55, .mov (.tmp 1), none⟩,
         ⟨some 56, .mov (.tmp 11), none⟩,
         ⟨some 57, .iadr (.tmp 55) (.tmp 56) 1, none⟩,
         ⟨some 58, .load1 (.tmp 57), none⟩,
         ⟨some 59, .mov (.tmp 0), none⟩,
         ⟨some 60, .call (.func 26) [(.tmp 58), (.tmp 59)], none⟩,
         ⟨some 12, .mov (.tmp 60), none⟩]) (
      .seq (.region [⟨some 61, .mov (.tmp 7), none⟩,
         ⟨some 62, .mov (.tmp 12), none⟩,
         ⟨some 63, .call (.func 39) [(.tmp 61), (.tmp 62), (.const (.int .i64 5))], none⟩]) (
      .seq (.region [⟨some 13, .mov (.const (.slice none 0 0)), none⟩]) (
      .seq (.seq (.region [⟨some 14, .mov (.const (.int .i64 0)), none⟩]) (
       .block 6 (
        .loop (
         .seq (.seq (.region [⟨some 64, .mov (.tmp 14), none⟩,
             ⟨some 65, .mov (.tmp 0), none⟩,
             ⟨some 66, .bin .lss (.tmp 64) (.tmp 65), none⟩]) (
          .cond (.tmp 66) (
           .skip) (
           .exit 6))) (
         .seq (.block 7 (
           .seq (.region [⟨some 69, .mov (.tmp 9), none⟩,
              ⟨some 70, .mov (.tmp 14), none⟩,
              ⟨some 71, .iadr (.tmp 69) (.tmp 70) 1, none⟩,
              ⟨some 72, .load1 (.tmp 71), none⟩,
              ⟨some 73, .mov (.tmp 12), none⟩,
              ⟨some 74, .bin .neq (.tmp 72) (.tmp 73), none⟩]) (
           .cond (.tmp 74) (
            .region [⟨some 75, .mov (.tmp 13), none⟩,
              ⟨some 76, .mov (.tmp 9), none⟩,
              ⟨some 77, .mov (.tmp 14), none⟩,
              ⟨some 78, .iadr (.tmp 76) (.tmp 77) 1, none⟩,
              ⟨some 79, .load1 (.tmp 78), none⟩,
              ⟨some 80, .bsl 3 1 1 [(.int .i64 0)] [(0, (.tmp 79))], none⟩,
              ⟨some 81, .app 3 1 8 [(.int .i64 0)] (.tmp 75) (.tmp 80), none⟩,
              ⟨some 13, .mov (.tmp 81), none⟩]) (
            .skip)))) (
         .region [⟨some 67, .mov (.tmp 14), none⟩,
           ⟨some 68, .bin .add (.tmp 67) (.const (.int .i64 1)), none⟩,
           ⟨some 14, .mov (.tmp 68), none⟩])))))) (
      .region [⟨some 82, .mov (.tmp 13), none⟩,
        ⟨some 83, .mov (.tmp 12), none⟩,
        ⟨some 84, .bsl 3 1 1 [(.int .i64 0)] [(0, (.tmp 83))], none⟩,
        ⟨some 85, .app 3 1 8 [(.int .i64 0)] (.tmp 82) (.tmp 84), none⟩,
        ⟨some 9, .mov (.tmp 85), none⟩])))))) (
    .region [⟨some 53, .mov (.tmp 11), none⟩,
      ⟨some 54, .bin .add (.tmp 53) (.const (.int .i64 1)), none⟩,
      ⟨some 11, .mov (.tmp 54), none⟩])))))) (
 .seq (.region [⟨some 15, .mov (.const (.slice none 0 0)), none⟩]) (
 .seq (.seq (.region [⟨some 16, .mov (.const (.int .i64 0)), none⟩]) (
  .block 8 (
   .loop (
    .seq (.seq (.region [⟨some 86, .mov (.tmp 16), none⟩,
        ⟨some 87, .mov (.tmp 0), none⟩,
        ⟨some 88, .bin .lss (.tmp 86) (.tmp 87), none⟩,
        ⟨some 89, .mov (.tmp 88), none⟩,
        ⟨some 90, .mov (.tmp 2), some (89, true)⟩,
        ⟨some 91, .bin .geq (.tmp 90) (.const (.int .i64 5)), some (89, true)⟩,
        ⟨some 92, .pick (.tmp 89) (.tmp 91) (.const (.bool false)), none⟩]) (
     .cond (.tmp 92) (
      .skip) (
      .exit 8))) (
    .seq (.block 9 (
      .region [⟨some 95, .mov (.tmp 15), none⟩,
        ⟨some 96, .mov (.tmp 9), none⟩,
        ⟨some 97, .mov (.tmp 16), none⟩,
        ⟨some 98, .iadr (.tmp 96) (.tmp 97) 1, none⟩,
        ⟨some 99, .load1 (.tmp 98), none⟩,
        ⟨some 100, .build [(.int .i64 0), (.int .i64 0)] [(0, 1, (.tmp 99)), (1, 1, (.const (.int .i64 5)))], none⟩,
        ⟨some 101, .bsl 42 1 2 [(.int .i64 0), (.int .i64 0)] [(0, (.tmp 100))], none⟩,
        ⟨some 102, .app 42 2 16 [(.int .i64 0), (.int .i64 0)] (.tmp 95) (.tmp 101), none⟩,
        ⟨some 15, .mov (.tmp 102), none⟩])) (
    .region [⟨some 93, .mov (.tmp 16), none⟩,
      ⟨some 94, .bin .add (.tmp 93) (.const (.int .i64 1)), none⟩,
      ⟨some 16, .mov (.tmp 94), none⟩])))))) (
 .seq (.region [⟨some 103, .mov (.tmp 7), none⟩,
    ⟨some 104, .mov (.tmp 2), none⟩,
    ⟨some 105, .call (.func 44) [(.tmp 103), (.tmp 104), (.const (.int .i64 (-1)))], none⟩,
    ⟨some 106, .mov (.tmp 15), none⟩,
    ⟨some 107, .call (.func 43) [(.tmp 105), (.tmp 106)], none⟩,
    ⟨some 108, .mov (.tmp 107), none⟩,
    ⟨some 109, .mov (.tmp 7), some (108, true)⟩,
    ⟨some 110, .call (.func 42) [(.tmp 109)], some (108, true)⟩,
    ⟨some 111, .mov (.tmp 0), some (108, true)⟩,
    ⟨some 112, .bin .eql (.tmp 110) (.tmp 111), some (108, true)⟩,
    ⟨some 113, .pick (.tmp 108) (.tmp 112) (.const (.bool false)), none⟩,
    ⟨some 114, .mov (.tmp 113), none⟩,
    ⟨some 115, .call (.func 27) [], some (114, true)⟩,
    ⟨some 116, .pick (.tmp 114) (.tmp 115) (.const (.bool false)), none⟩,
    ⟨some 6, .mov (.tmp 116), none⟩]) (
 .ret)))))))))))
theorem Try.fx11 : FnX Try.prog 11 117 #[.tmp 6] Try.x11 :=
  ⟨Try.f11, Try.func11, by kernel_rfl, by kernel_rfl, by kernel_rfl, by kernel_rfl⟩
/-- freshet/freshetlaw9.ListsNew -/
def Try.x12 : XCode :=
 .seq (.region [⟨some 4, .mov (.const (.bool false)), none⟩]) (
 .seq (.seq (.region [⟨some 16, .mov (.tmp 0), none⟩,
     ⟨some 17, .bin .lss (.tmp 16) (.const (.int .i64 1)), none⟩,
     ⟨some 18, .mov (.tmp 17), none⟩,
     ⟨some 19, .mov (.tmp 0), some (18, false)⟩,
     ⟨some 20, .bin .gtr (.tmp 19) (.const (.int .i64 20)), some (18, false)⟩,
     ⟨some 21, .pick (.tmp 18) (.const (.bool true)) (.tmp 20), none⟩]) (
  .cond (.tmp 21) (
   .seq (.region [⟨some 22, .call (.func 27) [], none⟩,
      ⟨some 4, .mov (.tmp 22), none⟩]) (
   .ret)) (
   .skip))) (
 .seq (.region [⟨some 23, .mov (.tmp 0), none⟩,
    ⟨some 24, .call (.func 28) [(.tmp 23)], none⟩,
    ⟨some 25, .call (.func 28) [(.const (.int .i64 0))], none⟩,
    ⟨some 5, .mov (.tmp 24), none⟩,
    ⟨some 6, .mov (.tmp 25), none⟩]) (
 .seq (.seq (.region [⟨some 26, .mov (.tmp 5), none⟩,
     ⟨some 27, .eqn 0 false (.tmp 26) (.const (.pointer none)), none⟩,
     ⟨some 28, .mov (.tmp 27), none⟩,
     ⟨some 29, .mov (.tmp 6), some (28, false)⟩,
     ⟨some 30, .eqn 0 false (.tmp 29) (.const (.pointer none)), some (28, false)⟩,
     ⟨some 31, .pick (.tmp 28) (.const (.bool true)) (.tmp 30), none⟩]) (
  .cond (.tmp 31) (
   .seq (.region [⟨some 4, .mov (.const (.bool false)), none⟩]) (
   .ret)) (
   .skip))) (
 .seq (.region [⟨some 32, .mov (.tmp 1), none⟩,
    ⟨some 33, .mov (.tmp 0), none⟩,
    ⟨some 34, .call (.func 26) [(.tmp 32), (.tmp 33)], none⟩,
    ⟨some 7, .mov (.tmp 34), none⟩]) (
 .seq (.seq (.region [⟨some 8, .mov (.const (.int .i64 0)), none⟩]) (
  .block 0 (
   .loop (
    .seq (.seq (.region [⟨some 35, .mov (.tmp 8), none⟩,
        ⟨some 36, .mov (.tmp 0), none⟩,
        ⟨some 37, .bin .lss (.tmp 35) (.tmp 36), none⟩]) (
     .cond (.tmp 37) (
      .skip) (
      .exit 0))) (
    .seq (.block 1 (
      .seq (.region [⟨some 40, .mov (.tmp 5), none⟩,
         ⟨some 41, .mov (.tmp 8), none⟩,
         ⟨some 42, .call (.func 29) [(.tmp 40), (.tmp 41)], none⟩]) (
      .region [⟨some 43, .mov (.tmp 6), none⟩,
        ⟨some 44, .mov (.tmp 8), none⟩,
        ⟨some 45, .call (.func 29) [(.tmp 43), (.tmp 44)], none⟩]))) (
    .region [⟨some 38, .mov (.tmp 8), none⟩,
      ⟨some 39, .bin .add (.tmp 38) (.const (.int .i64 1)), none⟩,
      ⟨some 8, .mov (.tmp 39), none⟩])))))) (
 .seq (.seq (.region [⟨some 46, .mov (.tmp 5), none⟩,
     ⟨some 47, .mov (.tmp 7), none⟩,
     ⟨some 48, .call (.func 31) [(.tmp 46), (.tmp 47)], none⟩,
     ⟨some 49, .un .not (.tmp 48), none⟩,
     ⟨some 50, .mov (.tmp 49), none⟩,
     ⟨some 51, .mov (.tmp 6), some (50, false)⟩,
     ⟨some 52, .mov (.tmp 7), some (50, false)⟩,
     ⟨some 53, .call (.func 31) [(.tmp 51), (.tmp 52)], some (50, false)⟩,
     ⟨some 54, .un .not (.tmp 53), some (50, false)⟩,
     ⟨some 55, .pick (.tmp 50) (.const (.bool true)) (.tmp 54), none⟩]) (
  .cond (.tmp 55) (
   .seq (.region [⟨some 4, .mov (.const (.bool false)), none⟩]) (
   .ret)) (
   .skip))) (
 .seq (.region [⟨some 56, .mov (.tmp 5), none⟩,
    ⟨some 57, .call (.func 29) [(.tmp 56), (.const (.int .i64 100))], none⟩]) (
 .seq (.region [⟨some 58, .mov (.tmp 6), none⟩,
    ⟨some 59, .call (.func 29) [(.tmp 58), (.const (.int .i64 100))], none⟩]) (
 .seq (.region [⟨some 9, .mov (.const (.slice none 0 0)), none⟩,
    ⟨some 10, .mov (.const (.slice none 0 0)), none⟩]) (
 .seq (.seq (.region [⟨some 11, .mov (.const (.int .i64 0)), none⟩]) (
  .block 2 (
   .loop (
    .seq (.seq (.region [⟨some 60, .mov (.tmp 11), none⟩,
        ⟨some 61, .mov (.tmp 0), none⟩,
        ⟨some 62, .bin .lss (.tmp 60) (.tmp 61), none⟩]) (
     .cond (.tmp 62) (
      .skip) (
      .exit 2))) (
    .seq (.block 3 (
      .seq (.region [⟨some 65, .mov (.tmp 11), none⟩,
         ⟨some 66, .mov (.tmp 7), none⟩,
         ⟨some 67, .bin .neq (.tmp 65) (.tmp 66), none⟩]) (
      .cond (.tmp 67) (
       .seq (.region [⟨some 68, .mov (.tmp 9), none⟩,
          ⟨some 69, .mov (.tmp 11), none⟩,
          ⟨some 70, .bsl 3 1 1 [(.int .i64 0)] [(0, (.tmp 69))], none⟩,
          ⟨some 71, .app 3 1 8 [(.int .i64 0)] (.tmp 68) (.tmp 70), none⟩,
          ⟨some 9, .mov (.tmp 71), none⟩]) (
       .region [⟨some 72, .mov (.tmp 10), none⟩,
         ⟨some 73, .mov (.tmp 11), none⟩,
         ⟨some 74, .bsl 3 1 1 [(.int .i64 0)] [(0, (.tmp 73))], none⟩,
         ⟨some 75, .app 3 1 8 [(.int .i64 0)] (.tmp 72) (.tmp 74), none⟩,
         ⟨some 10, .mov (.tmp 75), none⟩])) (
       .skip)))) (
    .region [⟨some 63, .mov (.tmp 11), none⟩,
      ⟨some 64, .bin .add (.tmp 63) (.const (.int .i64 1)), none⟩,
      ⟨some 11, .mov (.tmp 64), none⟩])))))) (
 .seq (.region [⟨some 77, .mov (.tmp 5), none⟩,
    ⟨some 78, .call (.func 35) [(.tmp 77)], none⟩,
    ⟨some 76, .mov (.tmp 78), none⟩,
    ⟨some 79, .ext (.tmp 76) 0, none⟩,
    ⟨some 80, .ext (.tmp 76) 1, none⟩,
    ⟨some 12, .mov (.tmp 79), none⟩,
    ⟨some 13, .mov (.tmp 80), none⟩]) (
 .seq (.region [⟨some 82, .mov (.tmp 6), none⟩,
    ⟨some 83, .call (.func 35) [(.tmp 82)], none⟩,
    ⟨some 81, .mov (.tmp 83), none⟩,
    ⟨some 84, .ext (.tmp 81) 0, none⟩,
    ⟨some 85, .ext (.tmp 81) 1, none⟩,
    ⟨some 14, .mov (.tmp 84), none⟩,
    ⟨some 15, .mov (.tmp 85), none⟩]) (
 .seq (.region [⟨some 86, .mov (.tmp 5), none⟩,
    ⟨some 87, .call (.func 36) [(.tmp 86), (.const (.int .i64 (-1)))], none⟩,
    ⟨some 88, .mov (.tmp 9), none⟩,
    ⟨some 89, .mov (.tmp 7), none⟩,
    ⟨some 90, .bsl 3 2 1 [(.int .i64 0)] [(0, (.const (.int .i64 100))), (1, (.tmp 89))], none⟩,
    ⟨some 91, .app 3 1 8 [(.int .i64 0)] (.tmp 88) (.tmp 90), none⟩,
    ⟨some 92, .call (.func 22) [(.tmp 87), (.tmp 91)], none⟩,
    ⟨some 93, .mov (.tmp 92), none⟩,
    ⟨some 94, .mov (.tmp 6), some (93, true)⟩,
    ⟨some 95, .call (.func 36) [(.tmp 94), (.const (.int .i64 (-1)))], some (93, true)⟩,
    ⟨some 96, .mov (.tmp 10), some (93, true)⟩,
    ⟨some 97, .mov (.tmp 7), some (93, true)⟩,
    ⟨some 98, .bsl 3 2 1 [(.int .i64 0)] [(0, (.tmp 97)), (1, (.const (.int .i64 100)))], some (93, true)⟩,
    ⟨some 99, .app 3 1 8 [(.int .i64 0)] (.tmp 96) (.tmp 98), some (93, true)⟩,
    ⟨some 100, .call (.func 22) [(.tmp 95), (.tmp 99)], some (93, true)⟩,
    ⟨some 101, .pick (.tmp 93) (.tmp 100) (.const (.bool false)), none⟩,
    ⟨some 102, .mov (.tmp 101), none⟩,
    ⟨some 103, .mov (.tmp 12), some (102, true)⟩,
    ⟨some 104, .mov (.tmp 0), some (102, true)⟩,
    ⟨some 105, .bin .eql (.tmp 103) (.tmp 104), some (102, true)⟩,
    ⟨some 106, .pick (.tmp 102) (.tmp 105) (.const (.bool false)), none⟩,
    ⟨some 107, .mov (.tmp 106), none⟩,
    ⟨some 108, .mov (.tmp 13), some (107, true)⟩,
    ⟨some 109, .bin .eql (.tmp 108) (.const (.int .i64 1)), some (107, true)⟩,
    ⟨some 110, .pick (.tmp 107) (.tmp 109) (.const (.bool false)), none⟩,
    ⟨some 111, .mov (.tmp 110), none⟩,
    ⟨some 112, .mov (.tmp 14), some (111, true)⟩,
    ⟨some 113, .mov (.tmp 0), some (111, true)⟩,
    ⟨some 114, .bin .add (.tmp 113) (.const (.int .i64 1)), some (111, true)⟩,
    ⟨some 115, .bin .eql (.tmp 112) (.tmp 114), some (111, true)⟩,
    ⟨some 116, .pick (.tmp 111) (.tmp 115) (.const (.bool false)), none⟩,
    ⟨some 117, .mov (.tmp 116), none⟩,
    ⟨some 118, .mov (.tmp 15), some (117, true)⟩,
    ⟨some 119, .bin .eql (.tmp 118) (.const (.int .i64 0)), some (117, true)⟩,
    ⟨some 120, .pick (.tmp 117) (.tmp 119) (.const (.bool false)), none⟩,
    ⟨some 121, .mov (.tmp 120), none⟩,
    ⟨some 122, .call (.func 27) [], some (121, true)⟩,
    ⟨some 123, .pick (.tmp 121) (.tmp 122) (.const (.bool false)), none⟩,
    ⟨some 4, .mov (.tmp 123), none⟩]) (
 .ret))))))))))))))
theorem Try.fx12 : FnX Try.prog 12 124 #[.tmp 4] Try.x12 :=
  ⟨Try.f12, Try.func12, by kernel_rfl, by kernel_rfl, by kernel_rfl, by kernel_rfl⟩
/-- freshet/freshetlaw9.ListsCounts -/
def Try.x13 : XCode :=
 .seq (.region [⟨some 6, .mov (.const (.bool false)), none⟩]) (
 .seq (.seq (.region [⟨some 19, .mov (.tmp 0), none⟩,
     ⟨some 20, .bin .lss (.tmp 19) (.const (.int .i64 0)), none⟩,
     ⟨some 21, .mov (.tmp 20), none⟩,
     ⟨some 22, .mov (.tmp 0), some (21, false)⟩,
     ⟨some 23, .bin .gtr (.tmp 22) (.const (.int .i64 20)), some (21, false)⟩,
     ⟨some 24, .pick (.tmp 21) (.const (.bool true)) (.tmp 23), none⟩,
     ⟨some 25, .mov (.tmp 24), none⟩,
     ⟨some 26, .mov (.tmp 1), some (25, false)⟩,
     ⟨some 27, .len (.tmp 26), some (25, false)⟩,
     ⟨some 28, .bin .gtr (.tmp 27) (.const (.int .i64 20)), some (25, false)⟩,
     ⟨some 29, .pick (.tmp 25) (.const (.bool true)) (.tmp 28), none⟩,
     ⟨some 30, .mov (.tmp 29), none⟩,
     ⟨some 31, .mov (.tmp 2), some (30, false)⟩,
     ⟨some 32, .len (.tmp 31), some (30, false)⟩,
     ⟨some 33, .bin .gtr (.tmp 32) (.const (.int .i64 20)), some (30, false)⟩,
     ⟨some 34, .pick (.tmp 30) (.const (.bool true)) (.tmp 33), none⟩]) (
  .cond (.tmp 34) (
   .seq (.region [⟨some 35, .call (.func 27) [], none⟩,
      ⟨some 6, .mov (.tmp 35), none⟩]) (
   .ret)) (
   .skip))) (
 .seq (.region [⟨some 36, .call (.func 28) [(.const (.int .i64 3))], none⟩,
    ⟨some 7, .mov (.tmp 36), none⟩]) (
 .seq (.seq (.region [⟨some 37, .mov (.tmp 7), none⟩,
     ⟨some 38, .eqn 0 false (.tmp 37) (.const (.pointer none)), none⟩]) (
  .cond (.tmp 38) (
   .seq (.region [⟨some 6, .mov (.const (.bool false)), none⟩]) (
   .ret)) (
   .skip))) (
 .seq (.region [⟨some 39, .mksl 4 1 1 [(.bool false)] (.const (.int .i64 20)) (.const (.int .i64 20)), none⟩,
    ⟨some 8, .mov (.tmp 39), none⟩]) (
 .seq (.region [⟨some 40, .mov (.tmp 0), none⟩,
    ⟨some 9, .mov (.tmp 40), none⟩]) (
 .seq (.seq (.region [⟨some 10, .mov (.const (.int .i64 0)), none⟩]) (
  .block 0 (
   .loop (
    .seq (.seq (.region [⟨some 41, .mov (.tmp 10), none⟩,
        ⟨some 42, .mov (.tmp 0), none⟩,
        ⟨some 43, .bin .lss (.tmp 41) (.tmp 42), none⟩]) (
     .cond (.tmp 43) (
      .skip) (
      .exit 0))) (
    .seq (.block 1 (
      .seq (.region [⟨some 46, .mov (.tmp 7), none⟩,
         ⟨some 47, .mov (.tmp 10), none⟩,
         ⟨some 48, .call (.func 29) [(.tmp 46), (.tmp 47)], none⟩]) (
      .region [⟨some 49, .mov (.tmp 8), none⟩,
        ⟨some 50, .mov (.tmp 10), none⟩,
        ⟨some 51, .iadr (.tmp 49) (.tmp 50) 1, none⟩,
        ⟨none, .store 1 (.tmp 51) (.const (.bool true)), none⟩]))) (
    .region [⟨some 44, .mov (.tmp 10), none⟩,
      ⟨some 45, .bin .add (.tmp 44) (.const (.int .i64 1)), none⟩,
      ⟨some 10, .mov (.tmp 45), none⟩])))))) (
 .seq (.seq (.region [⟨some 11, .mov (.const (.int .i64 0)), none⟩]) (
  .block 2 (
   .loop (
    .seq (.seq (.region [⟨some 52, .mov (.tmp 11), none⟩,
        ⟨some 53, .mov (.tmp 1), none⟩,
        ⟨some 54, .len (.tmp 53), none⟩,
        ⟨some 55, .bin .lss (.tmp 52) (.tmp 54), none⟩]) (
     .cond (.tmp 55) (
      .skip) (
      .exit 2))) (
    .seq (.block 3 (
      .seq (.region [⟨some 58, .mov (.tmp 1), none⟩,
         ⟨some 59, .mov (.tmp 11), none⟩,
         ⟨some 60, .iadr (.tmp 58) (.tmp 59) 1, none⟩,
         ⟨some 61, .load1 (.tmp 60), none⟩,
         ⟨some 62, .call (.func 26) [(.tmp 61), (.const (.int .i64 20))], none⟩,
         ⟨some 12, .mov (.tmp 62), none⟩]) (
      .seq (.draw (
        .q ⟨some 63, .mov (.tmp 7), none⟩ (
        .q ⟨some 64, .mov (.tmp 12), none⟩ (
        .q ⟨some 66, .mov (.tmp 8), none⟩ (
        .q ⟨some 67, .mov (.tmp 12), none⟩ (
        .q ⟨some 68, .iadr (.tmp 66) (.tmp 67) 1, none⟩ (
        .q ⟨some 69, .load1 (.tmp 68), none⟩ (
        .alt ⟨some 65, .call (.func 31) [(.tmp 63), (.tmp 64)], none⟩ true (
         .q ⟨some 70, .eqb true (.tmp 65) (.tmp 69), none⟩ (
         .done)) (.noalt))))))))) (
      .cond (.tmp 70) (
       .seq (.region [⟨some 6, .mov (.const (.bool false)), none⟩]) (
       .ret)) (
       .skip))))) (
    .region [⟨some 56, .mov (.tmp 11), none⟩,
      ⟨some 57, .bin .add (.tmp 56) (.const (.int .i64 1)), none⟩,
      ⟨some 11, .mov (.tmp 57), none⟩])))))) (
 .seq (.seq (.region [⟨some 13, .mov (.const (.int .i64 0)), none⟩]) (
  .block 4 (
   .loop (
    .seq (.seq (.region [⟨some 71, .mov (.tmp 13), none⟩,
        ⟨some 72, .mov (.tmp 2), none⟩,
        ⟨some 73, .len (.tmp 72), none⟩,
        ⟨some 74, .bin .lss (.tmp 71) (.tmp 73), none⟩]) (
     .cond (.tmp 74) (
      .skip) (
      .exit 4))) (
    .seq (.block 5 (
      .seq (.region [⟨some 77, .mov (.tmp 2), none⟩,
         ⟨some 78, .mov (.tmp 13), none⟩,
         ⟨some 79, .iadr (.tmp 77) (.tmp 78) 1, none⟩,
         ⟨some 80, .load1 (.tmp 79), none⟩,
         ⟨some 81, .call (.func 26) [(.tmp 80), (.const (.int .i64 20))], none⟩,
         ⟨some 14, .mov (.tmp 81), none⟩]) (
      .seq (.seq (.draw (
         .q ⟨some 82, .mov (.tmp 7), none⟩ (
         .q ⟨some 83, .mov (.tmp 14), none⟩ (
         .q ⟨some 85, .mov (.tmp 8), none⟩ (
         .q ⟨some 86, .mov (.tmp 14), none⟩ (
         .q ⟨some 87, .iadr (.tmp 85) (.tmp 86) 1, none⟩ (
         .q ⟨some 88, .load1 (.tmp 87), none⟩ (
         .alt ⟨some 84, .call (.func 33) [(.tmp 82), (.tmp 83)], none⟩ true (
          .q ⟨some 89, .eqb true (.tmp 84) (.tmp 88), none⟩ (
          .done)) (.noalt))))))))) (
       .cond (.tmp 89) (
        .seq (.region [⟨some 6, .mov (.const (.bool false)), none⟩]) (
        .ret)) (
        .skip))) (
      .seq (.seq (.region [⟨some 90, .mov (.tmp 8), none⟩,
          ⟨some 91, .mov (.tmp 14), none⟩,
          ⟨some 92, .iadr (.tmp 90) (.tmp 91) 1, none⟩,
          ⟨some 93, .load1 (.tmp 92), none⟩]) (
       .cond (.tmp 93) (
        .region [⟨some 94, .mov (.tmp 9), none⟩,
          ⟨some 95, .bin .sub (.tmp 94) (.const (.int .i64 1)), none⟩,
          ⟨some 9, .mov (.tmp 95), none⟩]) (
        .skip))) (
      .seq (.region [⟨some 96, .mov (.tmp 8), none⟩,
         ⟨some 97, .mov (.tmp 14), none⟩,
         ⟨some 98, .iadr (.tmp 96) (.tmp 97) 1, none⟩,
         ⟨none, .store 1 (.tmp 98) (.const (.bool false)), none⟩]) (
      .seq (.region [⟨some 99, .mov (.tmp 7), none⟩,
         ⟨some 100, .mov (.tmp 14), none⟩,
         ⟨some 101, .call (.func 31) [(.tmp 99), (.tmp 100)], none⟩]) (
      .cond (.tmp 101) (
       .seq (.region [⟨some 6, .mov (.const (.bool false)), none⟩]) (
       .ret)) (
       .skip)))))))) (
    .region [⟨some 75, .mov (.tmp 13), none⟩,
      ⟨some 76, .bin .add (.tmp 75) (.const (.int .i64 1)), none⟩,
      ⟨some 13, .mov (.tmp 76), none⟩])))))) (
 .seq (.region [⟨some 103, .mov (.tmp 7), none⟩,
    ⟨some 104, .call (.func 35) [(.tmp 103)], none⟩,
    ⟨some 102, .mov (.tmp 104), none⟩,
    ⟨some 105, .ext (.tmp 102) 0, none⟩,
    ⟨some 106, .ext (.tmp 102) 1, none⟩,
    ⟨some 15, .mov (.tmp 105), none⟩,
    ⟨some 16, .mov (.tmp 106), none⟩]) (
 .seq (.region [⟨some 107, .mov (.tmp 7), none⟩,
    ⟨some 108, .call (.func 36) [(.tmp 107), (.const (.int .i64 (-1)))], none⟩,
    ⟨some 17, .mov (.tmp 108), none⟩]) (
 .seq (.seq (.region [⟨some 18, .mov (.const (.int .i64 0)), none⟩]) (
  .block 6 (
   .loop (
    .seq (.seq (.region [⟨some 109, .mov (.tmp 18), none⟩,
        ⟨some 110, .mov (.tmp 17), none⟩,
        ⟨some 111, .len (.tmp 110), none⟩,
        ⟨some 112, .bin .lss (.tmp 109) (.tmp 111), none⟩]) (
     .cond (.tmp 112) (
      .skip) (
      .exit 6))) (
    .seq (.block 7 (
      .seq (.seq (.region [⟨some 115, .mov (.tmp 17), none⟩,
          ⟨some 116, .mov (.tmp 18), none⟩,
          ⟨some 117, .iadr (.tmp 115) (.tmp 116) 1, none⟩,
          ⟨some 118, .load1 (.tmp 117), none⟩,
          ⟨some 119, .bin .lss (.tmp 118) (.const (.int .i64 0)), none⟩,
          ⟨some 120, .mov (.tmp 119), none⟩,
          ⟨some 121, .mov (.tmp 17), some (120, false)⟩,
          ⟨some 122, .mov (.tmp 18), some (120, false)⟩,
          ⟨some 123, .iadr (.tmp 121) (.tmp 122) 1, some (120, false)⟩,
          ⟨some 124, .load1 (.tmp 123), some (120, false)⟩,
          ⟨some 125, .bin .geq (.tmp 124) (.const (.int .i64 20)), some (120, false)⟩,
          ⟨some 126, .pick (.tmp 120) (.const (.bool true)) (.tmp 125), none⟩,
          ⟨some 127, .mov (.tmp 126), none⟩,
          ⟨some 128, .mov (.tmp 8), some (127, false)⟩,
          ⟨some 129, .mov (.tmp 17), some (127, false)⟩,
          ⟨some 130, .mov (.tmp 18), some (127, false)⟩,
          ⟨some 131, .iadr (.tmp 129) (.tmp 130) 1, some (127, false)⟩,
          ⟨some 132, .load1 (.tmp 131), some (127, false)⟩,
          ⟨some 133, .iadr (.tmp 128) (.tmp 132) 1, some (127, false)⟩,
          ⟨some 134, .load1 (.tmp 133), some (127, false)⟩,
          ⟨some 135, .un .not (.tmp 134), some (127, false)⟩,
          ⟨some 136, .pick (.tmp 127) (.const (.bool true)) (.tmp 135), none⟩]) (
       .cond (.tmp 136) (
        .seq (.region [⟨some 6, .mov (.const (.bool false)), none⟩]) (
        .ret)) (
        .skip))) (
      .region [⟨some 137, .mov (.tmp 8), none⟩,
        ⟨some 138, .mov (.tmp 17), none⟩,
        ⟨some 139, .mov (.tmp 18), none⟩,
        ⟨some 140, .iadr (.tmp 138) (.tmp 139) 1, none⟩,
        ⟨some 141, .load1 (.tmp 140), none⟩,
        ⟨some 142, .iadr (.tmp 137) (.tmp 141) 1, none⟩,
        ⟨none, .store 1 (.tmp 142) (.const (.bool false)), none⟩]))) (
    .region [⟨some 113, .mov (.tmp 18), none⟩,
      ⟨some 114, .bin .add (.tmp 113) (.const (.int .i64 1)), none⟩,
      ⟨some 18, .mov (.tmp 114), none⟩])))))) (
 .seq (.region [⟨some 143, .mov (.tmp 15), none⟩,
    ⟨some 144, .mov (.tmp 16), none⟩,
    ⟨some 145, .bin .add (.tmp 143) (.tmp 144), none⟩,
    ⟨some 146, .mov (.tmp 9), none⟩,
    ⟨some 147, .bin .eql (.tmp 145) (.tmp 146), none⟩,
    ⟨some 148, .mov (.tmp 147), none⟩,
    ⟨some 149, .mov (.tmp 17), some (148, true)⟩,
    ⟨some 150, .len (.tmp 149), some (148, true)⟩,
    ⟨some 151, .mov (.tmp 9), some (148, true)⟩,
    ⟨some 152, .bin .eql (.tmp 150) (.tmp 151), some (148, true)⟩,
    ⟨some 153, .pick (.tmp 148) (.tmp 152) (.const (.bool false)), none⟩,
    ⟨some 154, .mov (.tmp 153), none⟩,
    ⟨some 155, .mov (.tmp 16), some (154, true)⟩,
    ⟨some 156, .bin .leq (.tmp 155) (.const (.int .i64 3)), some (154, true)⟩,
    ⟨some 157, .pick (.tmp 154) (.tmp 156) (.const (.bool false)), none⟩,
    ⟨some 158, .mov (.tmp 157), none⟩,
    ⟨some 159, .call (.func 27) [], some (158, true)⟩,
    ⟨some 160, .pick (.tmp 158) (.tmp 159) (.const (.bool false)), none⟩,
    ⟨some 6, .mov (.tmp 160), none⟩]) (
 .ret)))))))))))))
theorem Try.fx13 : FnX Try.prog 13 161 #[.tmp 6] Try.x13 :=
  ⟨Try.f13, Try.func13, by kernel_rfl, by kernel_rfl, by kernel_rfl, by kernel_rfl⟩
/-- freshet/freshetlaw16.awake -/
def Try.x14 : XCode :=
 .seq (.region [⟨some 0, .mov (.const (.bool false)), none⟩]) (
 .seq (.region [⟨some 11, .call (.func 15) [(.const (.int .i64 2))], none⟩,
    ⟨some 1, .mov (.tmp 11), none⟩]) (
 .seq (.seq (.region [⟨some 12, .mov (.tmp 1), none⟩,
     ⟨some 13, .eqn 0 false (.tmp 12) (.const (.pointer none)), none⟩]) (
  .cond (.tmp 13) (
   .seq (.region [⟨some 0, .mov (.const (.bool false)), none⟩]) (
   .ret)) (
   .skip))) (
 .seq (.region [⟨some 14, .mov (.tmp 1), none⟩,
    ⟨some 15, .call (.func 18) [(.tmp 14), (.const (.int .i64 1)), (.const (.int .i64 5))], none⟩,
    ⟨some 16, .mov (.tmp 1), none⟩,
    ⟨some 17, .call (.func 18) [(.tmp 16), (.const (.int .i64 2)), (.const (.int .i64 3))], none⟩,
    ⟨some 18, .mov (.tmp 1), none⟩,
    ⟨some 19, .call (.func 18) [(.tmp 18), (.const (.int .i64 3)), (.const (.int .i64 1))], none⟩,
    ⟨some 20, .mov (.tmp 1), none⟩,
    ⟨some 21, .call (.func 18) [(.tmp 20), (.const (.int .i64 1)), (.const (.int .i64 4))], none⟩,
    ⟨some 2, .mov (.tmp 15), none⟩,
    ⟨some 3, .mov (.tmp 17), none⟩,
    ⟨some 4, .mov (.tmp 19), none⟩,
    ⟨some 5, .mov (.tmp 21), none⟩]) (
 .seq (.region [⟨some 23, .mov (.tmp 1), none⟩,
    ⟨some 24, .call (.func 24) [(.tmp 23)], none⟩,
    ⟨some 22, .mov (.tmp 24), none⟩,
    ⟨some 25, .ext (.tmp 22) 0, none⟩,
    ⟨some 26, .ext (.tmp 22) 1, none⟩,
    ⟨some 6, .mov (.tmp 25), none⟩,
    ⟨some 7, .mov (.tmp 26), none⟩]) (
 .seq (.region [⟨some 27, .mov (.tmp 1), none⟩,
    ⟨some 28, .call (.func 23) [(.tmp 27), (.const (.int .i64 3))], none⟩,
    ⟨some 8, .mov (.tmp 28), none⟩]) (
 .seq (.region [⟨some 29, .mov (.tmp 1), none⟩,
    ⟨some 30, .call (.func 20) [(.tmp 29), (.const (.int .i64 2))], none⟩,
    ⟨some 9, .mov (.tmp 30), none⟩]) (
 .seq (.region [⟨some 10, .mov (.const (.pointer none)), none⟩]) (
 .seq (.region [⟨some 31, .mov (.tmp 2), none⟩,
    ⟨some 32, .bin .eql (.tmp 31) (.const (.int .i64 0)), none⟩,
    ⟨some 33, .mov (.tmp 32), none⟩,
    ⟨some 34, .mov (.tmp 3), some (33, true)⟩,
    ⟨some 35, .bin .eql (.tmp 34) (.const (.int .i64 0)), some (33, true)⟩,
    ⟨some 36, .pick (.tmp 33) (.tmp 35) (.const (.bool false)), none⟩,
    ⟨some 37, .mov (.tmp 36), none⟩,
    ⟨some 38, .mov (.tmp 4), some (37, true)⟩,
    ⟨some 39, .bin .eql (.tmp 38) (.const (.int .i64 4)), some (37, true)⟩,
    ⟨some 40, .pick (.tmp 37) (.tmp 39) (.const (.bool false)), none⟩,
    ⟨some 41, .mov (.tmp 40), none⟩,
    ⟨some 42, .mov (.tmp 5), some (41, true)⟩,
    ⟨some 43, .bin .eql (.tmp 42) (.const (.int .i64 0)), some (41, true)⟩,
    ⟨some 44, .pick (.tmp 41) (.tmp 43) (.const (.bool false)), none⟩,
    ⟨some 45, .mov (.tmp 44), none⟩,
    ⟨some 46, .mov (.tmp 7), some (45, true)⟩,
    ⟨some 47, .pick (.tmp 45) (.tmp 46) (.const (.bool false)), none⟩,
    ⟨some 48, .mov (.tmp 47), none⟩,
    ⟨some 49, .mov (.tmp 6), some (48, true)⟩,
    ⟨some 50, .bin .eql (.tmp 49) (.const (.int .i64 3)), some (48, true)⟩,
    ⟨some 51, .pick (.tmp 48) (.tmp 50) (.const (.bool false)), none⟩,
    ⟨some 52, .mov (.tmp 51), none⟩,
    ⟨some 53, .mov (.tmp 8), some (52, true)⟩,
    ⟨some 54, .bsl 3 1 1 [(.int .i64 0)] [(0, (.const (.int .i64 2)))], some (52, true)⟩,
    ⟨some 55, .call (.func 22) [(.tmp 53), (.tmp 54)], some (52, true)⟩,
    ⟨some 56, .pick (.tmp 52) (.tmp 55) (.const (.bool false)), none⟩,
    ⟨some 57, .mov (.tmp 56), none⟩,
    ⟨some 58, .mov (.tmp 9), some (57, true)⟩,
    ⟨some 59, .bin .eql (.tmp 58) (.const (.int .i64 5)), some (57, true)⟩,
    ⟨some 60, .pick (.tmp 57) (.tmp 59) (.const (.bool false)), none⟩,
    ⟨some 61, .mov (.tmp 60), none⟩,
    ⟨some 62, .mov (.tmp 1), some (61, true)⟩,
    ⟨some 63, .call (.func 25) [(.tmp 62)], some (61, true)⟩,
    ⟨some 64, .bin .eql (.tmp 63) (.const (.int .i64 1)), some (61, true)⟩,
    ⟨some 65, .pick (.tmp 61) (.tmp 64) (.const (.bool false)), none⟩,
    ⟨some 66, .mov (.tmp 65), none⟩,
    ⟨some 67, .mov (.tmp 10), some (66, true)⟩,
    ⟨some 68, .call (.func 18) [(.tmp 67), (.const (.int .i64 1)), (.const (.int .i64 1))], some (66, true)⟩,
    ⟨some 69, .bin .eql (.tmp 68) (.const (.int .i64 4)), some (66, true)⟩,
    ⟨some 70, .pick (.tmp 66) (.tmp 69) (.const (.bool false)), none⟩,
    ⟨some 71, .mov (.tmp 70), none⟩,
    ⟨some 72, .mov (.tmp 10), some (71, true)⟩,
    ⟨some 73, .call (.func 23) [(.tmp 72), (.const (.int .i64 9))], some (71, true)⟩,
    ⟨some 74, .len (.tmp 73), some (71, true)⟩,
    ⟨some 75, .bin .eql (.tmp 74) (.const (.int .i64 0)), some (71, true)⟩,
    ⟨some 76, .pick (.tmp 71) (.tmp 75) (.const (.bool false)), none⟩,
    ⟨some 0, .mov (.tmp 76), none⟩]) (
 .ret)))))))))
theorem Try.fx14 : FnX Try.prog 14 77 #[.tmp 0] Try.x14 :=
  ⟨Try.f14, Try.func14, by kernel_rfl, by kernel_rfl, by kernel_rfl, by kernel_rfl⟩
/-- freshet/timer.New[int] -/
def Try.x15 : XCode :=
 .seq (.region [⟨some 2, .mov (.const (.pointer none)), none⟩]) (
 .seq (.region [⟨some 3, .mov (.tmp 0), none⟩,
    ⟨some 4, .max (.tmp 3) [(.const (.int .i64 0))], none⟩,
    ⟨some 5, .call (.func 38) [], none⟩,
    ⟨some 6, .build [(.int .i64 0), (.pointer none)] [(0, 1, (.tmp 4)), (1, 1, (.tmp 5))], none⟩,
    ⟨some 7, .box 78 (.tmp 6), none⟩,
    ⟨some 2, .mov (.tmp 7), none⟩]) (
 .ret))
theorem Try.fx15 : FnX Try.prog 15 8 #[.tmp 2] Try.x15 :=
  ⟨Try.f15, Try.func15, by kernel_rfl, by kernel_rfl, by kernel_rfl, by kernel_rfl⟩
/-- (*freshet/freshetref6.Due).At -/
def Try.x16 : XCode :=
 .seq (.region [⟨some 4, .mov (.const (.int .i64 0)), none⟩,
    ⟨some 5, .mov (.const (.bool false)), none⟩]) (
 .seq (.region [⟨some 7, .mov (.tmp 0), none⟩,
    ⟨some 8, .mov (.tmp 1), none⟩,
    ⟨some 9, .call (.func 46) [(.tmp 7), (.tmp 8)], none⟩,
    ⟨some 6, .mov (.tmp 9), none⟩]) (
 .seq (.seq (.region [⟨some 10, .mov (.tmp 6), none⟩,
     ⟨some 11, .bin .lss (.tmp 10) (.const (.int .i64 0)), none⟩]) (
  .cond (.tmp 11) (
   .seq (.region [⟨some 4, .mov (.const (.int .i64 0)), none⟩,
      ⟨some 5, .mov (.const (.bool false)), none⟩]) (
   .ret)) (
   .skip))) (
 .seq (.region [⟨some 12, .mov (.tmp 0), none⟩,
    ⟨some 13, .nilc (.tmp 12), none⟩,
    ⟨some 14, .fadr (.tmp 13) 0, none⟩,
    ⟨some 15, .load1 (.tmp 14), none⟩,
    ⟨some 16, .mov (.tmp 6), none⟩,
    ⟨some 17, .iadr (.tmp 15) (.tmp 16) 2, none⟩,
    ⟨some 18, .fadr (.tmp 17) 1, none⟩,
    ⟨some 19, .load1 (.tmp 18), none⟩,
    ⟨some 4, .mov (.tmp 19), none⟩,
    ⟨some 5, .mov (.const (.bool true)), none⟩]) (
 .ret))))
theorem Try.fx16 : FnX Try.prog 16 20 #[.tmp 4, .tmp 5] Try.x16 :=
  ⟨Try.f16, Try.func16, by kernel_rfl, by kernel_rfl, by kernel_rfl, by kernel_rfl⟩
/-- (*freshet/freshetref6.Due).Set -/
def Try.x17 : XCode :=
 .seq (.region [⟨some 6, .mov (.tmp 0), none⟩,
    ⟨some 7, .mov (.tmp 1), none⟩,
    ⟨some 8, .call (.func 19) [(.tmp 6), (.tmp 7)], none⟩]) (
 .region [⟨some 9, .mov (.tmp 0), none⟩,
   ⟨some 10, .bsl 42 0 2 [(.int .i64 0), (.int .i64 0)] [], none⟩,
   ⟨some 11, .mov (.tmp 0), none⟩,
   ⟨some 12, .nilc (.tmp 11), none⟩,
   ⟨some 13, .fadr (.tmp 12) 0, none⟩,
   ⟨some 14, .load1 (.tmp 13), none⟩,
   ⟨some 15, .app 42 2 16 [(.int .i64 0), (.int .i64 0)] (.tmp 10) (.tmp 14), none⟩,
   ⟨some 16, .mov (.tmp 1), none⟩,
   ⟨some 17, .mov (.tmp 2), none⟩,
   ⟨some 18, .build [(.int .i64 0), (.int .i64 0)] [(0, 1, (.tmp 16)), (1, 1, (.tmp 17))], none⟩,
   ⟨some 19, .bsl 42 1 2 [(.int .i64 0), (.int .i64 0)] [(0, (.tmp 18))], none⟩,
   ⟨some 20, .app 42 2 16 [(.int .i64 0), (.int .i64 0)] (.tmp 15) (.tmp 19), none⟩,
   ⟨some 21, .nilc (.tmp 9), none⟩,
   ⟨some 22, .fadr (.tmp 21) 0, none⟩,
   ⟨none, .store 1 (.tmp 22) (.tmp 20), none⟩])
theorem Try.fx17 : FnX Try.prog 17 23 #[] Try.x17 :=
  ⟨Try.f17, Try.func17, by kernel_rfl, by kernel_rfl, by kernel_rfl, by kernel_rfl⟩
/-- (*freshet/timer.Timers[int]).Set -/
def Try.x18 : XCode :=
 .seq (.region [⟨some 6, .mov (.const (.int .i64 0)), none⟩]) (
 .seq (.seq (.region [⟨some 9, .mov (.tmp 0), none⟩,
     ⟨some 10, .eqn 0 false (.tmp 9) (.const (.pointer none)), none⟩]) (
  .cond (.tmp 10) (
   .seq (.region [⟨some 6, .mov (.const (.int .i64 4)), none⟩]) (
   .ret)) (
   .skip))) (
 .seq (.seq (.region [⟨some 12, .mov (.tmp 0), none⟩,
     ⟨some 13, .nilc (.tmp 12), none⟩,
     ⟨some 14, .fadr (.tmp 13) 1, none⟩,
     ⟨some 15, .load1 (.tmp 14), none⟩,
     ⟨some 16, .mov (.tmp 1), none⟩,
     ⟨some 17, .call (.func 41) [(.tmp 15), (.tmp 16)], none⟩,
     ⟨some 11, .mov (.tmp 17), none⟩,
     ⟨some 18, .ext (.tmp 11) 0, none⟩,
     ⟨some 19, .ext (.tmp 11) 1, none⟩,
     ⟨some 7, .mov (.tmp 18), none⟩,
     ⟨some 8, .mov (.tmp 19), none⟩]) (
  .seq (.draw (
    .q ⟨some 20, .mov (.tmp 8), none⟩ (
    .q ⟨some 21, .un .not (.tmp 20), none⟩ (
    .q ⟨some 22, .mov (.tmp 21), none⟩ (
    .q ⟨some 23, .mov (.tmp 0), some (22, true)⟩ (
    .q ⟨some 25, .mov (.tmp 0), some (22, true)⟩ (
    .q ⟨some 26, .nilc (.tmp 25), some (22, true)⟩ (
    .q ⟨some 27, .fadr (.tmp 26) 0, some (22, true)⟩ (
    .q ⟨some 28, .load1 (.tmp 27), some (22, true)⟩ (
    .alt ⟨some 24, .call (.func 25) [(.tmp 23)], some (22, true)⟩ true (
     .q ⟨some 29, .bin .geq (.tmp 24) (.tmp 28), some (22, true)⟩ (
     .q ⟨some 30, .pick (.tmp 22) (.tmp 29) (.const (.bool false)), none⟩ (
     .done))) (.noalt))))))))))) (
  .cond (.tmp 30) (
   .seq (.region [⟨some 6, .mov (.const (.int .i64 4)), none⟩]) (
   .ret)) (
   .skip)))) (
 .seq (.region [⟨some 31, .mov (.tmp 0), none⟩,
    ⟨some 32, .nilc (.tmp 31), none⟩,
    ⟨some 33, .fadr (.tmp 32) 1, none⟩,
    ⟨some 34, .load1 (.tmp 33), none⟩,
    ⟨some 35, .mov (.tmp 1), none⟩,
    ⟨some 36, .mov (.tmp 2), none⟩,
    ⟨some 37, .call (.func 39) [(.tmp 34), (.tmp 35), (.tmp 36)], none⟩]) (
 .seq (.region [⟨some 6, .mov (.const (.int .i64 0)), none⟩]) (
 .ret)))))
theorem Try.fx18 : FnX Try.prog 18 38 #[.tmp 6] Try.x18 :=
  ⟨Try.f18, Try.func18, by kernel_rfl, by kernel_rfl, by kernel_rfl, by kernel_rfl⟩
/-- (*freshet/freshetref6.Due).Drop -/
def Try.x19 : XCode :=
 .seq (.region [⟨some 4, .mov (.const (.bool false)), none⟩]) (
 .seq (.region [⟨some 6, .mov (.tmp 0), none⟩,
    ⟨some 7, .mov (.tmp 1), none⟩,
    ⟨some 8, .call (.func 46) [(.tmp 6), (.tmp 7)], none⟩,
    ⟨some 5, .mov (.tmp 8), none⟩]) (
 .seq (.seq (.region [⟨some 9, .mov (.tmp 5), none⟩,
     ⟨some 10, .bin .lss (.tmp 9) (.const (.int .i64 0)), none⟩]) (
  .cond (.tmp 10) (
   .seq (.region [⟨some 4, .mov (.const (.bool false)), none⟩]) (
   .ret)) (
   .skip))) (
 .seq (.draw (
   .q ⟨some 11, .mov (.tmp 0), none⟩ (
   .q ⟨some 13, .mov (.tmp 0), none⟩ (
   .q ⟨some 14, .nilc (.tmp 13), none⟩ (
   .q ⟨some 15, .fadr (.tmp 14) 0, none⟩ (
   .q ⟨some 16, .load1 (.tmp 15), none⟩ (
   .q ⟨some 17, .mov (.tmp 5), none⟩ (
   .q ⟨some 18, .slc 2 (.tmp 16) none (some (.tmp 17)) none, none⟩ (
   .q ⟨some 20, .mov (.tmp 0), none⟩ (
   .q ⟨some 21, .nilc (.tmp 20), none⟩ (
   .q ⟨some 22, .fadr (.tmp 21) 0, none⟩ (
   .q ⟨some 23, .load1 (.tmp 22), none⟩ (
   .q ⟨some 24, .mov (.tmp 5), none⟩ (
   .q ⟨some 25, .bin .add (.tmp 24) (.const (.int .i64 1)), none⟩ (
   .q ⟨some 26, .slc 2 (.tmp 23) (some (.tmp 25)) none none, none⟩ (
   .alt ⟨some 12, .bsl 42 0 2 [(.int .i64 0), (.int .i64 0)] [], none⟩ true (
    .alt ⟨some 19, .app 42 2 16 [(.int .i64 0), (.int .i64 0)] (.tmp 12) (.tmp 18), none⟩ true (
     .alt ⟨some 27, .app 42 2 16 [(.int .i64 0), (.int .i64 0)] (.tmp 19) (.tmp 26), none⟩ false (
      .q ⟨some 28, .nilc (.tmp 11), none⟩ (
      .q ⟨some 29, .fadr (.tmp 28) 0, none⟩ (
      .alt ⟨none, .store 1 (.tmp 29) (.tmp 27), none⟩ false (
       .done) (.noalt)))) (.noalt)) (.noalt)) (.noalt))))))))))))))))) (
 .seq (.region [⟨some 4, .mov (.const (.bool true)), none⟩]) (
 .ret)))))
theorem Try.fx19 : FnX Try.prog 19 30 #[.tmp 4] Try.x19 :=
  ⟨Try.f19, Try.func19, by kernel_rfl, by kernel_rfl, by kernel_rfl, by kernel_rfl⟩
/-- (*freshet/timer.Timers[int]).Drop -/
def Try.x20 : XCode :=
 .seq (.region [⟨some 4, .mov (.const (.int .i64 0)), none⟩]) (
 .seq (.seq (.region [⟨some 5, .mov (.tmp 0), none⟩,
     ⟨some 6, .eqn 0 false (.tmp 5) (.const (.pointer none)), none⟩,
     ⟨some 7, .mov (.tmp 6), none⟩,
     ⟨some 8, .mov (.tmp 0), some (7, false)⟩,
     ⟨some 9, .nilc (.tmp 8), some (7, false)⟩,
     ⟨some 10, .fadr (.tmp 9) 1, some (7, false)⟩,
     ⟨some 11, .load1 (.tmp 10), some (7, false)⟩,
     ⟨some 12, .mov (.tmp 1), some (7, false)⟩,
     ⟨some 13, .call (.func 40) [(.tmp 11), (.tmp 12)], some (7, false)⟩,
     ⟨some 14, .un .not (.tmp 13), some (7, false)⟩,
     ⟨some 15, .pick (.tmp 7) (.const (.bool true)) (.tmp 14), none⟩]) (
  .cond (.tmp 15) (
   .seq (.region [⟨some 4, .mov (.const (.int .i64 5)), none⟩]) (
   .ret)) (
   .skip))) (
 .seq (.region [⟨some 4, .mov (.const (.int .i64 0)), none⟩]) (
 .ret)))
theorem Try.fx20 : FnX Try.prog 20 16 #[.tmp 4] Try.x20 :=
  ⟨Try.f20, Try.func20, by kernel_rfl, by kernel_rfl, by kernel_rfl, by kernel_rfl⟩
/-- (*freshet/freshetref6.Due).Upto -/
def Try.x21 : XCode :=
 .seq (.region [⟨some 4, .mov (.const (.slice none 0 0)), none⟩]) (
 .seq (.region [⟨some 5, .mov (.const (.slice none 0 0)), none⟩]) (
 .seq (.seq (.region [⟨some 6, .mov (.const (.int .i64 0)), none⟩]) (
  .block 0 (
   .loop (
    .seq (.seq (.region [⟨some 8, .mov (.tmp 6), none⟩,
        ⟨some 9, .mov (.tmp 0), none⟩,
        ⟨some 10, .nilc (.tmp 9), none⟩,
        ⟨some 11, .fadr (.tmp 10) 0, none⟩,
        ⟨some 12, .load1 (.tmp 11), none⟩,
        ⟨some 13, .len (.tmp 12), none⟩,
        ⟨some 14, .bin .lss (.tmp 8) (.tmp 13), none⟩]) (
     .cond (.tmp 14) (
      .skip) (
      .exit 0))) (
    .seq (.block 1 (
      .seq (.seq (.region [⟨some 17, .mov (.tmp 0), none⟩,
          ⟨some 18, .nilc (.tmp 17), none⟩,
          ⟨some 19, .fadr (.tmp 18) 0, none⟩,
          ⟨some 20, .load1 (.tmp 19), none⟩,
          ⟨some 21, .mov (.tmp 6), none⟩,
          ⟨some 22, .iadr (.tmp 20) (.tmp 21) 2, none⟩,
          ⟨some 23, .fadr (.tmp 22) 1, none⟩,
          ⟨some 24, .load1 (.tmp 23), none⟩,
          ⟨some 25, .mov (.tmp 1), none⟩,
          ⟨some 26, .bin .gtr (.tmp 24) (.tmp 25), none⟩]) (
       .cond (.tmp 26) (
        .exit 1) (
        .skip))) (
      .seq (.region [⟨some 27, .mov (.tmp 5), none⟩,
         ⟨some 28, .len (.tmp 27), none⟩,
         ⟨some 7, .mov (.tmp 28), none⟩]) (
      .seq (.block 2 (
        .loop (
         .seq (.seq (.draw (
            .q ⟨some 29, .mov (.tmp 7), none⟩ (
            .q ⟨some 30, .bin .gtr (.tmp 29) (.const (.int .i64 0)), none⟩ (
            .q ⟨some 31, .mov (.tmp 30), none⟩ (
            .q ⟨some 32, .mov (.tmp 5), some (31, true)⟩ (
            .q ⟨some 33, .mov (.tmp 7), some (31, true)⟩ (
            .q ⟨some 34, .bin .sub (.tmp 33) (.const (.int .i64 1)), some (31, true)⟩ (
            .q ⟨some 35, .iadr (.tmp 32) (.tmp 34) 2, some (31, true)⟩ (
            .q ⟨some 36, .fadr (.tmp 35) 1, some (31, true)⟩ (
            .q ⟨some 37, .load1 (.tmp 36), some (31, true)⟩ (
            .q ⟨some 38, .mov (.tmp 0), some (31, true)⟩ (
            .q ⟨some 39, .nilc (.tmp 38), some (31, true)⟩ (
            .q ⟨some 40, .fadr (.tmp 39) 0, some (31, true)⟩ (
            .q ⟨some 41, .load1 (.tmp 40), some (31, true)⟩ (
            .q ⟨some 42, .mov (.tmp 6), some (31, true)⟩ (
            .q ⟨some 43, .iadr (.tmp 41) (.tmp 42) 2, some (31, true)⟩ (
            .q ⟨some 44, .fadr (.tmp 43) 1, some (31, true)⟩ (
            .q ⟨some 45, .load1 (.tmp 44), some (31, true)⟩ (
            .q ⟨some 46, .bin .gtr (.tmp 37) (.tmp 45), some (31, true)⟩ (
            .q ⟨some 47, .pick (.tmp 31) (.tmp 46) (.const (.bool false)), none⟩ (
            .done))))))))))))))))))))) (
          .cond (.tmp 47) (
           .skip) (
           .exit 2))) (
         .block 3 (
          .region [⟨some 48, .mov (.tmp 7), none⟩,
            ⟨some 49, .bin .sub (.tmp 48) (.const (.int .i64 1)), none⟩,
            ⟨some 7, .mov (.tmp 49), none⟩]))))) (
      .draw (
       .q ⟨some 51, .mov (.tmp 5), none⟩ (
       .q ⟨some 52, .mov (.tmp 7), none⟩ (
       .q ⟨some 53, .slc 2 (.tmp 51) none (some (.tmp 52)) none, none⟩ (
       .q ⟨some 55, .mov (.tmp 0), none⟩ (
       .q ⟨some 56, .nilc (.tmp 55), none⟩ (
       .q ⟨some 57, .fadr (.tmp 56) 0, none⟩ (
       .q ⟨some 58, .load1 (.tmp 57), none⟩ (
       .q ⟨some 59, .mov (.tmp 6), none⟩ (
       .q ⟨some 60, .iadr (.tmp 58) (.tmp 59) 2, none⟩ (
       .q ⟨some 61, .loadN 2 (.tmp 60), none⟩ (
       .q ⟨some 64, .mov (.tmp 5), none⟩ (
       .q ⟨some 65, .mov (.tmp 7), none⟩ (
       .q ⟨some 66, .slc 2 (.tmp 64) (some (.tmp 65)) none none, none⟩ (
       .alt ⟨some 50, .bsl 42 0 2 [(.int .i64 0), (.int .i64 0)] [], none⟩ true (
        .alt ⟨some 54, .app 42 2 16 [(.int .i64 0), (.int .i64 0)] (.tmp 50) (.tmp 53), none⟩ true (
         .alt ⟨some 62, .bsl 42 1 2 [(.int .i64 0), (.int .i64 0)] [(0, (.tmp 61))], none⟩ false (
          .alt ⟨some 63, .app 42 2 16 [(.int .i64 0), (.int .i64 0)] (.tmp 54) (.tmp 62), none⟩ false (
           .alt ⟨some 67, .app 42 2 16 [(.int .i64 0), (.int .i64 0)] (.tmp 63) (.tmp 66), none⟩ false (
            .q ⟨some 5, .mov (.tmp 67), none⟩ (
            .done)) (.noalt)) (.noalt)) (.noalt)) (.alt ⟨some 62, .bsl 42 1 2 [(.int .i64 0), (.int .i64 0)] [(0, (.tmp 61))], none⟩ false (
         .alt ⟨some 54, .app 42 2 16 [(.int .i64 0), (.int .i64 0)] (.tmp 50) (.tmp 53), none⟩ true (
          .alt ⟨some 63, .app 42 2 16 [(.int .i64 0), (.int .i64 0)] (.tmp 54) (.tmp 62), none⟩ false (
           .alt ⟨some 67, .app 42 2 16 [(.int .i64 0), (.int .i64 0)] (.tmp 63) (.tmp 66), none⟩ false (
            .q ⟨some 5, .mov (.tmp 67), none⟩ (
            .done)) (.noalt)) (.noalt)) (.noalt)) (.noalt))) (.alt ⟨some 62, .bsl 42 1 2 [(.int .i64 0), (.int .i64 0)] [(0, (.tmp 61))], none⟩ false (
        .alt ⟨some 50, .bsl 42 0 2 [(.int .i64 0), (.int .i64 0)] [], none⟩ true (
         .alt ⟨some 54, .app 42 2 16 [(.int .i64 0), (.int .i64 0)] (.tmp 50) (.tmp 53), none⟩ true (
          .alt ⟨some 63, .app 42 2 16 [(.int .i64 0), (.int .i64 0)] (.tmp 54) (.tmp 62), none⟩ false (
           .alt ⟨some 67, .app 42 2 16 [(.int .i64 0), (.int .i64 0)] (.tmp 63) (.tmp 66), none⟩ false (
            .q ⟨some 5, .mov (.tmp 67), none⟩ (
            .done)) (.noalt)) (.noalt)) (.noalt)) (.noalt)) (.noalt))))))))))))))))))))) (
    .region [⟨some 15, .mov (.tmp 6), none⟩,
      ⟨some 16, .bin .add (.tmp 15) (.const (.int .i64 1)), none⟩,
      ⟨some 6, .mov (.tmp 16), none⟩])))))) (
 .seq (.region [⟨some 68, .mov (.tmp 5), none⟩,
    ⟨some 4, .mov (.tmp 68), none⟩]) (
 .ret))))
theorem Try.fx21 : FnX Try.prog 21 69 #[.tmp 4] Try.x21 :=
  ⟨Try.f21, Try.func21, by kernel_rfl, by kernel_rfl, by kernel_rfl, by kernel_rfl⟩
/-- freshet/freshetalike.Ints -/
def Try.x22 : XCode :=
 .seq (.region [⟨some 4, .mov (.const (.bool false)), none⟩]) (
 .seq (.seq (.region [⟨some 6, .mov (.tmp 0), none⟩,
     ⟨some 7, .len (.tmp 6), none⟩,
     ⟨some 8, .mov (.tmp 1), none⟩,
     ⟨some 9, .len (.tmp 8), none⟩,
     ⟨some 10, .bin .neq (.tmp 7) (.tmp 9), none⟩]) (
  .cond (.tmp 10) (
   .seq (.region [⟨some 4, .mov (.const (.bool false)), none⟩]) (
   .ret)) (
   .skip))) (
 .seq (.seq (.region [⟨some 5, .mov (.const (.int .i64 0)), none⟩]) (
  .block 0 (
   .loop (
    .seq (.seq (.region [⟨some 11, .mov (.tmp 5), none⟩,
        ⟨some 12, .mov (.tmp 0), none⟩,
        ⟨some 13, .len (.tmp 12), none⟩,
        ⟨some 14, .bin .lss (.tmp 11) (.tmp 13), none⟩]) (
     .cond (.tmp 14) (
      .skip) (
      .exit 0))) (
    .seq (.block 1 (
      .seq (.draw (
        .q ⟨some 17, .mov (.tmp 0), none⟩ (
        .q ⟨some 18, .mov (.tmp 5), none⟩ (
        .q ⟨some 19, .iadr (.tmp 17) (.tmp 18) 1, none⟩ (
        .q ⟨some 20, .load1 (.tmp 19), none⟩ (
        .q ⟨some 21, .mov (.tmp 1), none⟩ (
        .q ⟨some 22, .mov (.tmp 5), none⟩ (
        .q ⟨some 23, .iadr (.tmp 21) (.tmp 22) 1, none⟩ (
        .q ⟨some 24, .load1 (.tmp 23), none⟩ (
        .q ⟨some 25, .bin .neq (.tmp 20) (.tmp 24), none⟩ (
        .done))))))))))) (
      .cond (.tmp 25) (
       .seq (.region [⟨some 4, .mov (.const (.bool false)), none⟩]) (
       .ret)) (
       .skip)))) (
    .region [⟨some 15, .mov (.tmp 5), none⟩,
      ⟨some 16, .bin .add (.tmp 15) (.const (.int .i64 1)), none⟩,
      ⟨some 5, .mov (.tmp 16), none⟩])))))) (
 .seq (.region [⟨some 4, .mov (.const (.bool true)), none⟩]) (
 .ret))))
theorem Try.fx22 : FnX Try.prog 22 26 #[.tmp 4] Try.x22 :=
  ⟨Try.f22, Try.func22, by kernel_rfl, by kernel_rfl, by kernel_rfl, by kernel_rfl⟩
/-- (*freshet/timer.Timers[int]).Fire -/
def Try.x23 : XCode :=
 .seq (.region [⟨some 2, .box 24 (.tmp 0), none⟩,
    ⟨some 4, .alloc 40 [(.slice none 0 0)], none⟩]) (
 .seq (.seq (.region [⟨some 6, .load1 (.tmp 2), none⟩,
     ⟨some 7, .eqn 0 false (.tmp 6) (.const (.pointer none)), none⟩]) (
  .cond (.tmp 7) (
   .seq (.region [⟨none, .store 1 (.tmp 4) (.const (.slice none 0 0)), none⟩]) (
   .ret)) (
   .skip))) (
 .seq (.seq (.region [⟨some 8, .load1 (.tmp 2), none⟩,
     ⟨some 9, .nilc (.tmp 8), none⟩,
     ⟨some 10, .fadr (.tmp 9) 1, none⟩,
     ⟨some 11, .load1 (.tmp 10), none⟩,
     ⟨some 12, .mov (.tmp 1), none⟩,
     ⟨some 13, .call (.func 45) [(.tmp 11), (.tmp 12)], none⟩]) (
  .block 0 (
   .range (.tmp 13) [14, 15] (
    .region [⟨some 5, .mov (.tmp 14), none⟩]) (
    .block 1 (
     .seq (.region [⟨some 16, .load1 (.tmp 4), none⟩,
        ⟨some 17, .mov (.tmp 5), none⟩,
        ⟨some 18, .bsl 3 1 1 [(.int .i64 0)] [(0, (.tmp 17))], none⟩,
        ⟨some 19, .app 3 1 8 [(.int .i64 0)] (.tmp 16) (.tmp 18), none⟩,
        ⟨none, .store 1 (.tmp 4) (.tmp 19), none⟩]) (
     .region [⟨some 20, .load1 (.tmp 2), none⟩,
       ⟨some 21, .nilc (.tmp 20), none⟩,
       ⟨some 22, .fadr (.tmp 21) 1, none⟩,
       ⟨some 23, .load1 (.tmp 22), none⟩,
       ⟨some 24, .mov (.tmp 5), none⟩,
       ⟨some 25, .call (.func 40) [(.tmp 23), (.tmp 24)], none⟩])))))) (
 .seq (.region [⟨some 26, .load1 (.tmp 4), none⟩,
    ⟨none, .store 1 (.tmp 4) (.tmp 26), none⟩]) (
 .ret))))
theorem Try.fx23 : FnX Try.prog 23 27 #[.cell 4 40] Try.x23 :=
  ⟨Try.f23, Try.func23, by kernel_rfl, by kernel_rfl, by kernel_rfl, by kernel_rfl⟩
/-- (*freshet/timer.Timers[int]).Next -/
def Try.x24 : XCode :=
 .seq (.region [⟨some 2, .alloc 3 [(.int .i64 0)], none⟩,
    ⟨some 3, .alloc 4 [(.bool false)], none⟩]) (
 .seq (.seq (.region [⟨some 6, .mov (.tmp 0), none⟩,
     ⟨some 7, .eqn 0 false (.tmp 6) (.const (.pointer none)), none⟩]) (
  .cond (.tmp 7) (
   .seq (.region [⟨none, .store 1 (.tmp 2) (.const (.int .i64 0)), none⟩,
      ⟨none, .store 1 (.tmp 3) (.const (.bool false)), none⟩]) (
   .ret)) (
   .skip))) (
 .seq (.seq (.region [⟨some 8, .mov (.tmp 0), none⟩,
     ⟨some 9, .nilc (.tmp 8), none⟩,
     ⟨some 10, .fadr (.tmp 9) 1, none⟩,
     ⟨some 11, .load1 (.tmp 10), none⟩,
     ⟨some 12, .call (.func 45) [(.tmp 11), (.const (.int .i64 9223372036854775807))], none⟩]) (
  .block 0 (
   .range (.tmp 12) [13, 14] (
    .region [⟨some 5, .mov (.tmp 14), none⟩]) (
    .block 1 (
     .seq (.region [⟨some 15, .mov (.tmp 5), none⟩,
        ⟨none, .store 1 (.tmp 2) (.tmp 15), none⟩,
        ⟨none, .store 1 (.tmp 3) (.const (.bool true)), none⟩]) (
     .ret)))))) (
 .seq (.region [⟨none, .store 1 (.tmp 2) (.const (.int .i64 0)), none⟩,
    ⟨none, .store 1 (.tmp 3) (.const (.bool false)), none⟩]) (
 .ret))))
theorem Try.fx24 : FnX Try.prog 24 16 #[.cell 2 3, .cell 3 4] Try.x24 :=
  ⟨Try.f24, Try.func24, by kernel_rfl, by kernel_rfl, by kernel_rfl, by kernel_rfl⟩
/-- (*freshet/timer.Timers[int]).Len -/
def Try.x25 : XCode :=
 .seq (.region [⟨some 2, .mov (.const (.int .i64 0)), none⟩]) (
 .seq (.seq (.region [⟨some 3, .mov (.tmp 0), none⟩,
     ⟨some 4, .eqn 0 false (.tmp 3) (.const (.pointer none)), none⟩]) (
  .cond (.tmp 4) (
   .seq (.region [⟨some 2, .mov (.const (.int .i64 0)), none⟩]) (
   .ret)) (
   .skip))) (
 .seq (.region [⟨some 5, .mov (.tmp 0), none⟩,
    ⟨some 6, .nilc (.tmp 5), none⟩,
    ⟨some 7, .fadr (.tmp 6) 1, none⟩,
    ⟨some 8, .load1 (.tmp 7), none⟩,
    ⟨some 9, .call (.func 42) [(.tmp 8)], none⟩,
    ⟨some 2, .mov (.tmp 9), none⟩]) (
 .ret)))
theorem Try.fx25 : FnX Try.prog 25 10 #[.tmp 2] Try.x25 :=
  ⟨Try.f25, Try.func25, by kernel_rfl, by kernel_rfl, by kernel_rfl, by kernel_rfl⟩
/-- freshet/freshetalike.Round -/
def Try.x26 : XCode :=
 .seq (.region [⟨some 4, .mov (.const (.int .i64 0)), none⟩]) (
 .seq (.region [⟨some 5, .mov (.tmp 0), none⟩,
    ⟨some 6, .mov (.tmp 1), none⟩,
    ⟨some 7, .bin .rem (.tmp 5) (.tmp 6), none⟩,
    ⟨some 8, .mov (.tmp 1), none⟩,
    ⟨some 9, .bin .add (.tmp 7) (.tmp 8), none⟩,
    ⟨some 10, .mov (.tmp 1), none⟩,
    ⟨some 11, .bin .rem (.tmp 9) (.tmp 10), none⟩,
    ⟨some 4, .mov (.tmp 11), none⟩]) (
 .ret))
theorem Try.fx26 : FnX Try.prog 26 12 #[.tmp 4] Try.x26 :=
  ⟨Try.f26, Try.func26, by kernel_rfl, by kernel_rfl, by kernel_rfl, by kernel_rfl⟩
/-- freshet/freshetlaw9.awake -/
def Try.x27 : XCode :=
 .seq (.region [⟨some 0, .mov (.const (.bool false)), none⟩]) (
 .seq (.region [⟨some 10, .call (.func 28) [(.const (.int .i64 1))], none⟩,
    ⟨some 1, .mov (.tmp 10), none⟩]) (
 .seq (.region [⟨some 11, .call (.func 38) [], none⟩,
    ⟨some 2, .mov (.tmp 11), none⟩]) (
 .seq (.seq (.region [⟨some 12, .mov (.tmp 1), none⟩,
     ⟨some 13, .eqn 0 false (.tmp 12) (.const (.pointer none)), none⟩,
     ⟨some 14, .mov (.tmp 13), none⟩,
     ⟨some 15, .mov (.tmp 2), some (14, false)⟩,
     ⟨some 16, .eqn 0 false (.tmp 15) (.const (.pointer none)), some (14, false)⟩,
     ⟨some 17, .pick (.tmp 14) (.const (.bool true)) (.tmp 16), none⟩]) (
  .cond (.tmp 17) (
   .seq (.region [⟨some 0, .mov (.const (.bool false)), none⟩]) (
   .ret)) (
   .skip))) (
 .seq (.region [⟨some 18, .mov (.tmp 1), none⟩,
    ⟨some 19, .call (.func 29) [(.tmp 18), (.const (.int .i64 1))], none⟩]) (
 .seq (.region [⟨some 20, .mov (.tmp 1), none⟩,
    ⟨some 21, .call (.func 29) [(.tmp 20), (.const (.int .i64 2))], none⟩]) (
 .seq (.region [⟨some 22, .mov (.tmp 1), none⟩,
    ⟨some 23, .call (.func 31) [(.tmp 22), (.const (.int .i64 1))], none⟩,
    ⟨some 3, .mov (.tmp 23), none⟩]) (
 .seq (.region [⟨some 25, .mov (.tmp 1), none⟩,
    ⟨some 26, .call (.func 35) [(.tmp 25)], none⟩,
    ⟨some 24, .mov (.tmp 26), none⟩,
    ⟨some 27, .ext (.tmp 24) 0, none⟩,
    ⟨some 28, .ext (.tmp 24) 1, none⟩,
    ⟨some 4, .mov (.tmp 27), none⟩,
    ⟨some 5, .mov (.tmp 28), none⟩]) (
 .seq (.region [⟨some 29, .mov (.tmp 2), none⟩,
    ⟨some 30, .call (.func 39) [(.tmp 29), (.const (.int .i64 5)), (.const (.int .i64 9))], none⟩]) (
 .seq (.region [⟨some 31, .mov (.tmp 2), none⟩,
    ⟨some 32, .call (.func 39) [(.tmp 31), (.const (.int .i64 6)), (.const (.int .i64 3))], none⟩]) (
 .seq (.region [⟨some 34, .mov (.tmp 2), none⟩,
    ⟨some 35, .call (.func 41) [(.tmp 34), (.const (.int .i64 5))], none⟩,
    ⟨some 33, .mov (.tmp 35), none⟩,
    ⟨some 36, .ext (.tmp 33) 0, none⟩,
    ⟨some 37, .ext (.tmp 33) 1, none⟩,
    ⟨some 6, .mov (.tmp 36), none⟩,
    ⟨some 7, .mov (.tmp 37), none⟩]) (
 .seq (.region [⟨some 8, .mov (.const (.pointer none)), none⟩]) (
 .seq (.region [⟨some 9, .mov (.const (.pointer none)), none⟩]) (
 .seq (.region [⟨some 38, .mov (.tmp 8), none⟩,
    ⟨some 39, .call (.func 29) [(.tmp 38), (.const (.int .i64 1))], none⟩]) (
 .seq (.region [⟨some 40, .mov (.tmp 9), none⟩,
    ⟨some 41, .call (.func 39) [(.tmp 40), (.const (.int .i64 1)), (.const (.int .i64 1))], none⟩]) (
 .seq (.region [⟨some 42, .mov (.tmp 3), none⟩,
    ⟨some 43, .mov (.tmp 42), none⟩,
    ⟨some 44, .mov (.tmp 4), some (43, true)⟩,
    ⟨some 45, .bin .eql (.tmp 44) (.const (.int .i64 1)), some (43, true)⟩,
    ⟨some 46, .pick (.tmp 43) (.tmp 45) (.const (.bool false)), none⟩,
    ⟨some 47, .mov (.tmp 46), none⟩,
    ⟨some 48, .mov (.tmp 5), some (47, true)⟩,
    ⟨some 49, .bin .eql (.tmp 48) (.const (.int .i64 1)), some (47, true)⟩,
    ⟨some 50, .pick (.tmp 47) (.tmp 49) (.const (.bool false)), none⟩,
    ⟨some 51, .mov (.tmp 50), none⟩,
    ⟨some 52, .mov (.tmp 1), some (51, true)⟩,
    ⟨some 53, .call (.func 36) [(.tmp 52), (.const (.int .i64 (-1)))], some (51, true)⟩,
    ⟨some 54, .bsl 3 2 1 [(.int .i64 0)] [(0, (.const (.int .i64 2))), (1, (.const (.int .i64 1)))], some (51, true)⟩,
    ⟨some 55, .call (.func 22) [(.tmp 53), (.tmp 54)], some (51, true)⟩,
    ⟨some 56, .pick (.tmp 51) (.tmp 55) (.const (.bool false)), none⟩,
    ⟨some 57, .mov (.tmp 56), none⟩,
    ⟨some 58, .mov (.tmp 1), some (57, true)⟩,
    ⟨some 59, .call (.func 31) [(.tmp 58), (.const (.int .i64 9))], some (57, true)⟩,
    ⟨some 60, .un .not (.tmp 59), some (57, true)⟩,
    ⟨some 61, .pick (.tmp 57) (.tmp 60) (.const (.bool false)), none⟩,
    ⟨some 62, .mov (.tmp 61), none⟩,
    ⟨some 63, .mov (.tmp 1), some (62, true)⟩,
    ⟨some 64, .call (.func 33) [(.tmp 63), (.const (.int .i64 2))], some (62, true)⟩,
    ⟨some 65, .pick (.tmp 62) (.tmp 64) (.const (.bool false)), none⟩,
    ⟨some 66, .mov (.tmp 65), none⟩,
    ⟨some 67, .mov (.tmp 1), some (66, true)⟩,
    ⟨some 68, .call (.func 33) [(.tmp 67), (.const (.int .i64 2))], some (66, true)⟩,
    ⟨some 69, .un .not (.tmp 68), some (66, true)⟩,
    ⟨some 70, .pick (.tmp 66) (.tmp 69) (.const (.bool false)), none⟩,
    ⟨some 71, .mov (.tmp 70), none⟩,
    ⟨some 72, .mov (.tmp 6), some (71, true)⟩,
    ⟨some 73, .bin .eql (.tmp 72) (.const (.int .i64 9)), some (71, true)⟩,
    ⟨some 74, .pick (.tmp 71) (.tmp 73) (.const (.bool false)), none⟩,
    ⟨some 75, .mov (.tmp 74), none⟩,
    ⟨some 76, .mov (.tmp 7), some (75, true)⟩,
    ⟨some 77, .pick (.tmp 75) (.tmp 76) (.const (.bool false)), none⟩,
    ⟨some 78, .mov (.tmp 77), none⟩,
    ⟨some 79, .mov (.tmp 2), some (78, true)⟩,
    ⟨some 80, .call (.func 42) [(.tmp 79)], some (78, true)⟩,
    ⟨some 81, .bin .eql (.tmp 80) (.const (.int .i64 2)), some (78, true)⟩,
    ⟨some 82, .pick (.tmp 78) (.tmp 81) (.const (.bool false)), none⟩,
    ⟨some 83, .mov (.tmp 82), none⟩,
    ⟨some 84, .mov (.tmp 2), some (83, true)⟩,
    ⟨some 85, .call (.func 44) [(.tmp 84), (.const (.int .i64 9)), (.const (.int .i64 (-1)))], some (83, true)⟩,
    ⟨some 86, .build [(.int .i64 0), (.int .i64 0)] [(0, 1, (.const (.int .i64 6))), (1, 1, (.const (.int .i64 3)))], some (83, true)⟩,
    ⟨some 87, .build [(.int .i64 0), (.int .i64 0)] [(0, 1, (.const (.int .i64 5))), (1, 1, (.const (.int .i64 9)))], some (83, true)⟩,
    ⟨some 88, .bsl 42 2 2 [(.int .i64 0), (.int .i64 0)] [(0, (.tmp 86)), (1, (.tmp 87))], some (83, true)⟩,
    ⟨some 89, .call (.func 43) [(.tmp 85), (.tmp 88)], some (83, true)⟩,
    ⟨some 90, .pick (.tmp 83) (.tmp 89) (.const (.bool false)), none⟩,
    ⟨some 91, .mov (.tmp 90), none⟩,
    ⟨some 92, .mov (.tmp 8), some (91, true)⟩,
    ⟨some 93, .call (.func 31) [(.tmp 92), (.const (.int .i64 1))], some (91, true)⟩,
    ⟨some 94, .un .not (.tmp 93), some (91, true)⟩,
    ⟨some 95, .pick (.tmp 91) (.tmp 94) (.const (.bool false)), none⟩,
    ⟨some 96, .mov (.tmp 95), none⟩,
    ⟨some 97, .mov (.tmp 9), some (96, true)⟩,
    ⟨some 98, .call (.func 42) [(.tmp 97)], some (96, true)⟩,
    ⟨some 99, .bin .eql (.tmp 98) (.const (.int .i64 0)), some (96, true)⟩,
    ⟨some 100, .pick (.tmp 96) (.tmp 99) (.const (.bool false)), none⟩,
    ⟨some 0, .mov (.tmp 100), none⟩]) (
 .ret))))))))))))))))
theorem Try.fx27 : FnX Try.prog 27 101 #[.tmp 0] Try.x27 :=
  ⟨Try.f27, Try.func27, by kernel_rfl, by kernel_rfl, by kernel_rfl, by kernel_rfl⟩
/-- freshet/lists.NewLRU[int] -/
def Try.x28 : XCode :=
 .seq (.region [⟨some 2, .mov (.const (.pointer none)), none⟩]) (
 .seq (.region [⟨some 3, .mov (.tmp 0), none⟩,
    ⟨some 4, .max (.tmp 3) [(.const (.int .i64 0))], none⟩,
    ⟨some 5, .build [(.int .i64 0), (.slice none 0 0), (.slice none 0 0)] [(0, 1, (.tmp 4))], none⟩,
    ⟨some 6, .box 81 (.tmp 5), none⟩,
    ⟨some 2, .mov (.tmp 6), none⟩]) (
 .ret))
theorem Try.fx28 : FnX Try.prog 28 7 #[.tmp 2] Try.x28 :=
  ⟨Try.f28, Try.func28, by kernel_rfl, by kernel_rfl, by kernel_rfl, by kernel_rfl⟩
/-- (*freshet/lists.LRU[int]).Add -/
def Try.x29 : XCode :=
 .seq (.region [⟨some 4, .mov (.tmp 0), none⟩,
    ⟨some 5, .eqn 0 true (.tmp 4) (.const (.pointer none)), none⟩,
    ⟨some 6, .mov (.tmp 5), none⟩,
    ⟨some 7, .mov (.tmp 0), some (6, true)⟩,
    ⟨some 8, .nilc (.tmp 7), some (6, true)⟩,
    ⟨some 9, .fadr (.tmp 8) 1, some (6, true)⟩,
    ⟨some 10, .load1 (.tmp 9), some (6, true)⟩,
    ⟨some 11, .mov (.tmp 1), some (6, true)⟩,
    ⟨some 12, .call (.func 47) [(.tmp 10), (.tmp 11)], some (6, true)⟩,
    ⟨some 13, .un .not (.tmp 12), some (6, true)⟩,
    ⟨some 14, .pick (.tmp 6) (.tmp 13) (.const (.bool false)), none⟩,
    ⟨some 15, .mov (.tmp 14), none⟩,
    ⟨some 16, .mov (.tmp 0), some (15, true)⟩,
    ⟨some 17, .nilc (.tmp 16), some (15, true)⟩,
    ⟨some 18, .fadr (.tmp 17) 2, some (15, true)⟩,
    ⟨some 19, .load1 (.tmp 18), some (15, true)⟩,
    ⟨some 20, .mov (.tmp 1), some (15, true)⟩,
    ⟨some 21, .call (.func 47) [(.tmp 19), (.tmp 20)], some (15, true)⟩,
    ⟨some 22, .un .not (.tmp 21), some (15, true)⟩,
    ⟨some 23, .pick (.tmp 15) (.tmp 22) (.const (.bool false)), none⟩]) (
 .cond (.tmp 23) (
  .region [⟨some 24, .mov (.tmp 0), none⟩,
    ⟨some 25, .mov (.tmp 0), none⟩,
    ⟨some 26, .nilc (.tmp 25), none⟩,
    ⟨some 27, .fadr (.tmp 26) 1, none⟩,
    ⟨some 28, .load1 (.tmp 27), none⟩,
    ⟨some 29, .mov (.tmp 1), none⟩,
    ⟨some 30, .bsl 3 1 1 [(.int .i64 0)] [(0, (.tmp 29))], none⟩,
    ⟨some 31, .app 3 1 8 [(.int .i64 0)] (.tmp 28) (.tmp 30), none⟩,
    ⟨some 32, .nilc (.tmp 24), none⟩,
    ⟨some 33, .fadr (.tmp 32) 1, none⟩,
    ⟨none, .store 1 (.tmp 33) (.tmp 31), none⟩]) (
  .skip))
theorem Try.fx29 : FnX Try.prog 29 34 #[] Try.x29 :=
  ⟨Try.f29, Try.func29, by kernel_rfl, by kernel_rfl, by kernel_rfl, by kernel_rfl⟩
/-- (*freshet/freshetref6.LRU).Add -/
def Try.x30 : XCode :=
 .seq (.region [⟨some 4, .mov (.tmp 0), none⟩,
    ⟨some 5, .nilc (.tmp 4), none⟩,
    ⟨some 6, .fadr (.tmp 5) 1, none⟩,
    ⟨some 7, .load1 (.tmp 6), none⟩,
    ⟨some 8, .mov (.tmp 1), none⟩,
    ⟨some 9, .call (.func 48) [(.tmp 7), (.tmp 8)], none⟩,
    ⟨some 10, .bin .lss (.tmp 9) (.const (.int .i64 0)), none⟩,
    ⟨some 11, .mov (.tmp 10), none⟩,
    ⟨some 12, .mov (.tmp 0), some (11, true)⟩,
    ⟨some 13, .nilc (.tmp 12), some (11, true)⟩,
    ⟨some 14, .fadr (.tmp 13) 2, some (11, true)⟩,
    ⟨some 15, .load1 (.tmp 14), some (11, true)⟩,
    ⟨some 16, .mov (.tmp 1), some (11, true)⟩,
    ⟨some 17, .call (.func 48) [(.tmp 15), (.tmp 16)], some (11, true)⟩,
    ⟨some 18, .bin .lss (.tmp 17) (.const (.int .i64 0)), some (11, true)⟩,
    ⟨some 19, .pick (.tmp 11) (.tmp 18) (.const (.bool false)), none⟩]) (
 .cond (.tmp 19) (
  .region [⟨some 20, .mov (.tmp 0), none⟩,
    ⟨some 21, .bsl 3 0 1 [(.int .i64 0)] [], none⟩,
    ⟨some 22, .mov (.tmp 0), none⟩,
    ⟨some 23, .nilc (.tmp 22), none⟩,
    ⟨some 24, .fadr (.tmp 23) 1, none⟩,
    ⟨some 25, .load1 (.tmp 24), none⟩,
    ⟨some 26, .app 3 1 8 [(.int .i64 0)] (.tmp 21) (.tmp 25), none⟩,
    ⟨some 27, .mov (.tmp 1), none⟩,
    ⟨some 28, .bsl 3 1 1 [(.int .i64 0)] [(0, (.tmp 27))], none⟩,
    ⟨some 29, .app 3 1 8 [(.int .i64 0)] (.tmp 26) (.tmp 28), none⟩,
    ⟨some 30, .nilc (.tmp 20), none⟩,
    ⟨some 31, .fadr (.tmp 30) 1, none⟩,
    ⟨none, .store 1 (.tmp 31) (.tmp 29), none⟩]) (
  .skip))
theorem Try.fx30 : FnX Try.prog 30 32 #[] Try.x30 :=
  ⟨Try.f30, Try.func30, by kernel_rfl, by kernel_rfl, by kernel_rfl, by kernel_rfl⟩
/-- (*freshet/lists.LRU[int]).Touch -/
def Try.x31 : XCode :=
 .seq (.region [⟨some 4, .mov (.const (.bool false)), none⟩]) (
 .seq (.seq (.region [⟨some 5, .mov (.tmp 0), none⟩,
     ⟨some 6, .mov (.tmp 1), none⟩,
     ⟨some 7, .call (.func 33) [(.tmp 5), (.tmp 6)], none⟩,
     ⟨some 8, .un .not (.tmp 7), none⟩]) (
  .cond (.tmp 8) (
   .seq (.region [⟨some 4, .mov (.const (.bool false)), none⟩]) (
   .ret)) (
   .skip))) (
 .seq (.region [⟨some 9, .mov (.tmp 0), none⟩,
    ⟨some 10, .mov (.tmp 0), none⟩,
    ⟨some 11, .nilc (.tmp 10), none⟩,
    ⟨some 12, .fadr (.tmp 11) 2, none⟩,
    ⟨some 13, .load1 (.tmp 12), none⟩,
    ⟨some 14, .mov (.tmp 1), none⟩,
    ⟨some 15, .bsl 3 1 1 [(.int .i64 0)] [(0, (.tmp 14))], none⟩,
    ⟨some 16, .app 3 1 8 [(.int .i64 0)] (.tmp 13) (.tmp 15), none⟩,
    ⟨some 17, .nilc (.tmp 9), none⟩,
    ⟨some 18, .fadr (.tmp 17) 2, none⟩,
    ⟨none, .store 1 (.tmp 18) (.tmp 16), none⟩]) (
 .seq (.seq (.draw (
    .q ⟨some 19, .mov (.tmp 0), none⟩ (
    .q ⟨some 20, .nilc (.tmp 19), none⟩ (
    .q ⟨some 21, .fadr (.tmp 20) 2, none⟩ (
    .q ⟨some 22, .load1 (.tmp 21), none⟩ (
    .q ⟨some 23, .len (.tmp 22), none⟩ (
    .q ⟨some 24, .mov (.tmp 0), none⟩ (
    .q ⟨some 25, .nilc (.tmp 24), none⟩ (
    .q ⟨some 26, .fadr (.tmp 25) 0, none⟩ (
    .q ⟨some 27, .load1 (.tmp 26), none⟩ (
    .q ⟨some 28, .bin .gtr (.tmp 23) (.tmp 27), none⟩ (
    .done)))))))))))) (
  .cond (.tmp 28) (
   .seq (.draw (
     .q ⟨some 29, .mov (.tmp 0), none⟩ (
     .q ⟨some 30, .mov (.tmp 0), none⟩ (
     .q ⟨some 31, .nilc (.tmp 30), none⟩ (
     .q ⟨some 32, .fadr (.tmp 31) 1, none⟩ (
     .q ⟨some 33, .load1 (.tmp 32), none⟩ (
     .q ⟨some 34, .mov (.tmp 0), none⟩ (
     .q ⟨some 35, .nilc (.tmp 34), none⟩ (
     .q ⟨some 36, .fadr (.tmp 35) 2, none⟩ (
     .q ⟨some 37, .load1 (.tmp 36), none⟩ (
     .q ⟨some 38, .iadr (.tmp 37) (.const (.int .i64 0)) 1, none⟩ (
     .q ⟨some 39, .load1 (.tmp 38), none⟩ (
     .alt ⟨some 40, .bsl 3 1 1 [(.int .i64 0)] [(0, (.tmp 39))], none⟩ true (
      .alt ⟨some 41, .app 3 1 8 [(.int .i64 0)] (.tmp 33) (.tmp 40), none⟩ false (
       .q ⟨some 42, .nilc (.tmp 29), none⟩ (
       .q ⟨some 43, .fadr (.tmp 42) 1, none⟩ (
       .alt ⟨none, .store 1 (.tmp 43) (.tmp 41), none⟩ false (
        .done) (.noalt)))) (.noalt)) (.noalt)))))))))))))) (
   .region [⟨some 44, .mov (.tmp 0), none⟩,
     ⟨some 45, .mov (.tmp 0), none⟩,
     ⟨some 46, .nilc (.tmp 45), none⟩,
     ⟨some 47, .fadr (.tmp 46) 2, none⟩,
     ⟨some 48, .load1 (.tmp 47), none⟩,
     ⟨some 49, .call (.func 49) [(.tmp 48), (.const (.int .i64 0)), (.const (.int .i64 1))], none⟩,
     ⟨some 50, .nilc (.tmp 44), none⟩,
     ⟨some 51, .fadr (.tmp 50) 2, none⟩,
     ⟨none, .store 1 (.tmp 51) (.tmp 49), none⟩])) (
   .skip))) (
 .seq (.region [⟨some 4, .mov (.const (.bool true)), none⟩]) (
 .ret)))))
theorem Try.fx31 : FnX Try.prog 31 52 #[.tmp 4] Try.x31 :=
  ⟨Try.f31, Try.func31, by kernel_rfl, by kernel_rfl, by kernel_rfl, by kernel_rfl⟩
/-- (*freshet/freshetref6.LRU).Touch -/
def Try.x32 : XCode :=
 .seq (.region [⟨some 4, .mov (.const (.bool false)), none⟩]) (
 .seq (.region [⟨some 6, .mov (.tmp 0), none⟩,
    ⟨some 7, .nilc (.tmp 6), none⟩,
    ⟨some 8, .fadr (.tmp 7) 2, none⟩,
    ⟨some 9, .load1 (.tmp 8), none⟩,
    ⟨some 10, .mov (.tmp 1), none⟩,
    ⟨some 11, .call (.func 48) [(.tmp 9), (.tmp 10)], none⟩,
    ⟨some 5, .mov (.tmp 11), none⟩]) (
 .seq (.seq (.region [⟨some 12, .mov (.tmp 5), none⟩,
     ⟨some 13, .bin .geq (.tmp 12) (.const (.int .i64 0)), none⟩]) (
  .cond (.tmp 13) (
   .seq (.region [⟨some 14, .mov (.tmp 0), none⟩,
      ⟨some 15, .mov (.tmp 0), none⟩,
      ⟨some 16, .nilc (.tmp 15), none⟩,
      ⟨some 17, .fadr (.tmp 16) 2, none⟩,
      ⟨some 18, .load1 (.tmp 17), none⟩,
      ⟨some 19, .mov (.tmp 5), none⟩,
      ⟨some 20, .call (.func 50) [(.tmp 18), (.tmp 19)], none⟩,
      ⟨some 21, .mov (.tmp 1), none⟩,
      ⟨some 22, .bsl 3 1 1 [(.int .i64 0)] [(0, (.tmp 21))], none⟩,
      ⟨some 23, .app 3 1 8 [(.int .i64 0)] (.tmp 20) (.tmp 22), none⟩,
      ⟨some 24, .nilc (.tmp 14), none⟩,
      ⟨some 25, .fadr (.tmp 24) 2, none⟩,
      ⟨none, .store 1 (.tmp 25) (.tmp 23), none⟩]) (
   .seq (.region [⟨some 4, .mov (.const (.bool true)), none⟩]) (
   .ret))) (
   .skip))) (
 .seq (.region [⟨some 26, .mov (.tmp 0), none⟩,
    ⟨some 27, .nilc (.tmp 26), none⟩,
    ⟨some 28, .fadr (.tmp 27) 1, none⟩,
    ⟨some 29, .load1 (.tmp 28), none⟩,
    ⟨some 30, .mov (.tmp 1), none⟩,
    ⟨some 31, .call (.func 48) [(.tmp 29), (.tmp 30)], none⟩,
    ⟨some 5, .mov (.tmp 31), none⟩]) (
 .seq (.seq (.region [⟨some 32, .mov (.tmp 5), none⟩,
     ⟨some 33, .bin .lss (.tmp 32) (.const (.int .i64 0)), none⟩]) (
  .cond (.tmp 33) (
   .seq (.region [⟨some 4, .mov (.const (.bool false)), none⟩]) (
   .ret)) (
   .skip))) (
 .seq (.region [⟨some 34, .mov (.tmp 0), none⟩,
    ⟨some 35, .mov (.tmp 0), none⟩,
    ⟨some 36, .nilc (.tmp 35), none⟩,
    ⟨some 37, .fadr (.tmp 36) 1, none⟩,
    ⟨some 38, .load1 (.tmp 37), none⟩,
    ⟨some 39, .mov (.tmp 5), none⟩,
    ⟨some 40, .call (.func 50) [(.tmp 38), (.tmp 39)], none⟩,
    ⟨some 41, .nilc (.tmp 34), none⟩,
    ⟨some 42, .fadr (.tmp 41) 1, none⟩,
    ⟨none, .store 1 (.tmp 42) (.tmp 40), none⟩]) (
 .seq (.region [⟨some 43, .mov (.tmp 0), none⟩,
    ⟨some 44, .bsl 3 0 1 [(.int .i64 0)] [], none⟩,
    ⟨some 45, .mov (.tmp 0), none⟩,
    ⟨some 46, .nilc (.tmp 45), none⟩,
    ⟨some 47, .fadr (.tmp 46) 2, none⟩,
    ⟨some 48, .load1 (.tmp 47), none⟩,
    ⟨some 49, .app 3 1 8 [(.int .i64 0)] (.tmp 44) (.tmp 48), none⟩,
    ⟨some 50, .mov (.tmp 1), none⟩,
    ⟨some 51, .bsl 3 1 1 [(.int .i64 0)] [(0, (.tmp 50))], none⟩,
    ⟨some 52, .app 3 1 8 [(.int .i64 0)] (.tmp 49) (.tmp 51), none⟩,
    ⟨some 53, .nilc (.tmp 43), none⟩,
    ⟨some 54, .fadr (.tmp 53) 2, none⟩,
    ⟨none, .store 1 (.tmp 54) (.tmp 52), none⟩]) (
 .seq (.seq (.draw (
    .q ⟨some 55, .mov (.tmp 0), none⟩ (
    .q ⟨some 56, .nilc (.tmp 55), none⟩ (
    .q ⟨some 57, .fadr (.tmp 56) 2, none⟩ (
    .q ⟨some 58, .load1 (.tmp 57), none⟩ (
    .q ⟨some 59, .len (.tmp 58), none⟩ (
    .q ⟨some 60, .mov (.tmp 0), none⟩ (
    .q ⟨some 61, .nilc (.tmp 60), none⟩ (
    .q ⟨some 62, .fadr (.tmp 61) 0, none⟩ (
    .q ⟨some 63, .load1 (.tmp 62), none⟩ (
    .q ⟨some 64, .max (.tmp 63) [(.const (.int .i64 0))], none⟩ (
    .q ⟨some 65, .bin .gtr (.tmp 59) (.tmp 64), none⟩ (
    .done))))))))))))) (
  .cond (.tmp 65) (
   .seq (.draw (
     .q ⟨some 66, .mov (.tmp 0), none⟩ (
     .q ⟨some 67, .mov (.tmp 0), none⟩ (
     .q ⟨some 68, .nilc (.tmp 67), none⟩ (
     .q ⟨some 69, .fadr (.tmp 68) 1, none⟩ (
     .q ⟨some 70, .load1 (.tmp 69), none⟩ (
     .q ⟨some 71, .mov (.tmp 0), none⟩ (
     .q ⟨some 72, .nilc (.tmp 71), none⟩ (
     .q ⟨some 73, .fadr (.tmp 72) 2, none⟩ (
     .q ⟨some 74, .load1 (.tmp 73), none⟩ (
     .q ⟨some 75, .iadr (.tmp 74) (.const (.int .i64 0)) 1, none⟩ (
     .q ⟨some 76, .load1 (.tmp 75), none⟩ (
     .alt ⟨some 77, .bsl 3 1 1 [(.int .i64 0)] [(0, (.tmp 76))], none⟩ true (
      .alt ⟨some 78, .app 3 1 8 [(.int .i64 0)] (.tmp 70) (.tmp 77), none⟩ false (
       .q ⟨some 79, .nilc (.tmp 66), none⟩ (
       .q ⟨some 80, .fadr (.tmp 79) 1, none⟩ (
       .alt ⟨none, .store 1 (.tmp 80) (.tmp 78), none⟩ false (
        .done) (.noalt)))) (.noalt)) (.noalt)))))))))))))) (
   .region [⟨some 81, .mov (.tmp 0), none⟩,
     ⟨some 82, .bsl 3 0 1 [(.int .i64 0)] [], none⟩,
     ⟨some 83, .mov (.tmp 0), none⟩,
     ⟨some 84, .nilc (.tmp 83), none⟩,
     ⟨some 85, .fadr (.tmp 84) 2, none⟩,
     ⟨some 86, .load1 (.tmp 85), none⟩,
     ⟨some 87, .slc 1 (.tmp 86) (some (.const (.int .i64 1))) none none, none⟩,
     ⟨some 88, .app 3 1 8 [(.int .i64 0)] (.tmp 82) (.tmp 87), none⟩,
     ⟨some 89, .nilc (.tmp 81), none⟩,
     ⟨some 90, .fadr (.tmp 89) 2, none⟩,
     ⟨none, .store 1 (.tmp 90) (.tmp 88), none⟩])) (
   .skip))) (
 .seq (.region [⟨some 4, .mov (.const (.bool true)), none⟩]) (
 .ret)))))))))
theorem Try.fx32 : FnX Try.prog 32 91 #[.tmp 4] Try.x32 :=
  ⟨Try.f32, Try.func32, by kernel_rfl, by kernel_rfl, by kernel_rfl, by kernel_rfl⟩
/-- (*freshet/lists.LRU[int]).Drop -/
def Try.x33 : XCode :=
 .seq (.region [⟨some 4, .mov (.const (.bool false)), none⟩]) (
 .seq (.seq (.region [⟨some 7, .mov (.tmp 0), none⟩,
     ⟨some 8, .eqn 0 false (.tmp 7) (.const (.pointer none)), none⟩]) (
  .cond (.tmp 8) (
   .seq (.region [⟨some 4, .mov (.const (.bool false)), none⟩]) (
   .ret)) (
   .skip))) (
 .seq (.region [⟨some 5, .mov (.const (.bool false)), none⟩,
    ⟨some 6, .mov (.const (.bool false)), none⟩]) (
 .seq (.region [⟨some 10, .mov (.tmp 0), none⟩,
    ⟨some 11, .mov (.tmp 0), none⟩,
    ⟨some 12, .nilc (.tmp 11), none⟩,
    ⟨some 13, .fadr (.tmp 12) 1, none⟩,
    ⟨some 14, .load1 (.tmp 13), none⟩,
    ⟨some 15, .mov (.tmp 1), none⟩,
    ⟨some 16, .call (.func 51) [(.tmp 14), (.tmp 15)], none⟩,
    ⟨some 9, .mov (.tmp 16), none⟩,
    ⟨some 17, .ext (.tmp 9) 0, none⟩,
    ⟨some 18, .ext (.tmp 9) 1, none⟩,
    ⟨some 19, .nilc (.tmp 10), none⟩,
    ⟨some 20, .fadr (.tmp 19) 1, none⟩,
    ⟨none, .store 1 (.tmp 20) (.tmp 17), none⟩,
    ⟨some 5, .mov (.tmp 18), none⟩]) (
 .seq (.region [⟨some 22, .mov (.tmp 0), none⟩,
    ⟨some 23, .mov (.tmp 0), none⟩,
    ⟨some 24, .nilc (.tmp 23), none⟩,
    ⟨some 25, .fadr (.tmp 24) 2, none⟩,
    ⟨some 26, .load1 (.tmp 25), none⟩,
    ⟨some 27, .mov (.tmp 1), none⟩,
    ⟨some 28, .call (.func 51) [(.tmp 26), (.tmp 27)], none⟩,
    ⟨some 21, .mov (.tmp 28), none⟩,
    ⟨some 29, .ext (.tmp 21) 0, none⟩,
    ⟨some 30, .ext (.tmp 21) 1, none⟩,
    ⟨some 31, .nilc (.tmp 22), none⟩,
    ⟨some 32, .fadr (.tmp 31) 2, none⟩,
    ⟨none, .store 1 (.tmp 32) (.tmp 29), none⟩,
    ⟨some 6, .mov (.tmp 30), none⟩]) (
 .seq (.region [⟨some 33, .mov (.tmp 5), none⟩,
    ⟨some 34, .mov (.tmp 33), none⟩,
    ⟨some 35, .mov (.tmp 6), some (34, false)⟩,
    ⟨some 36, .pick (.tmp 34) (.const (.bool true)) (.tmp 35), none⟩,
    ⟨some 4, .mov (.tmp 36), none⟩]) (
 .ret))))))
theorem Try.fx33 : FnX Try.prog 33 37 #[.tmp 4] Try.x33 :=
  ⟨Try.f33, Try.func33, by kernel_rfl, by kernel_rfl, by kernel_rfl, by kernel_rfl⟩
/-- (*freshet/freshetref6.LRU).Drop -/
def Try.x34 : XCode :=
 .seq (.region [⟨some 4, .mov (.const (.bool false)), none⟩]) (
 .seq (.draw (
   .q ⟨some 7, .mov (.tmp 0), none⟩ (
   .q ⟨some 8, .nilc (.tmp 7), none⟩ (
   .q ⟨some 9, .fadr (.tmp 8) 1, none⟩ (
   .q ⟨some 10, .load1 (.tmp 9), none⟩ (
   .q ⟨some 11, .mov (.tmp 1), none⟩ (
   .q ⟨some 13, .mov (.tmp 0), none⟩ (
   .q ⟨some 14, .nilc (.tmp 13), none⟩ (
   .q ⟨some 15, .fadr (.tmp 14) 2, none⟩ (
   .q ⟨some 16, .load1 (.tmp 15), none⟩ (
   .q ⟨some 17, .mov (.tmp 1), none⟩ (
   .alt ⟨some 12, .call (.func 48) [(.tmp 10), (.tmp 11)], none⟩ true (
    .alt ⟨some 18, .call (.func 48) [(.tmp 16), (.tmp 17)], none⟩ false (
     .q ⟨some 5, .mov (.tmp 12), none⟩ (
     .q ⟨some 6, .mov (.tmp 18), none⟩ (
     .done))) (.noalt)) (.noalt))))))))))))) (
 .seq (.seq (.region [⟨some 19, .mov (.tmp 5), none⟩,
     ⟨some 20, .bin .geq (.tmp 19) (.const (.int .i64 0)), none⟩]) (
  .cond (.tmp 20) (
   .region [⟨some 21, .mov (.tmp 0), none⟩,
     ⟨some 22, .mov (.tmp 0), none⟩,
     ⟨some 23, .nilc (.tmp 22), none⟩,
     ⟨some 24, .fadr (.tmp 23) 1, none⟩,
     ⟨some 25, .load1 (.tmp 24), none⟩,
     ⟨some 26, .mov (.tmp 5), none⟩,
     ⟨some 27, .call (.func 50) [(.tmp 25), (.tmp 26)], none⟩,
     ⟨some 28, .nilc (.tmp 21), none⟩,
     ⟨some 29, .fadr (.tmp 28) 1, none⟩,
     ⟨none, .store 1 (.tmp 29) (.tmp 27), none⟩]) (
   .skip))) (
 .seq (.seq (.region [⟨some 30, .mov (.tmp 6), none⟩,
     ⟨some 31, .bin .geq (.tmp 30) (.const (.int .i64 0)), none⟩]) (
  .cond (.tmp 31) (
   .region [⟨some 32, .mov (.tmp 0), none⟩,
     ⟨some 33, .mov (.tmp 0), none⟩,
     ⟨some 34, .nilc (.tmp 33), none⟩,
     ⟨some 35, .fadr (.tmp 34) 2, none⟩,
     ⟨some 36, .load1 (.tmp 35), none⟩,
     ⟨some 37, .mov (.tmp 6), none⟩,
     ⟨some 38, .call (.func 50) [(.tmp 36), (.tmp 37)], none⟩,
     ⟨some 39, .nilc (.tmp 32), none⟩,
     ⟨some 40, .fadr (.tmp 39) 2, none⟩,
     ⟨none, .store 1 (.tmp 40) (.tmp 38), none⟩]) (
   .skip))) (
 .seq (.region [⟨some 41, .mov (.tmp 5), none⟩,
    ⟨some 42, .bin .geq (.tmp 41) (.const (.int .i64 0)), none⟩,
    ⟨some 43, .mov (.tmp 42), none⟩,
    ⟨some 44, .mov (.tmp 6), some (43, false)⟩,
    ⟨some 45, .bin .geq (.tmp 44) (.const (.int .i64 0)), some (43, false)⟩,
    ⟨some 46, .pick (.tmp 43) (.const (.bool true)) (.tmp 45), none⟩,
    ⟨some 4, .mov (.tmp 46), none⟩]) (
 .ret)))))
theorem Try.fx34 : FnX Try.prog 34 47 #[.tmp 4] Try.x34 :=
  ⟨Try.f34, Try.func34, by kernel_rfl, by kernel_rfl, by kernel_rfl, by kernel_rfl⟩
/-- (*freshet/lists.LRU[int]).Len -/
def Try.x35 : XCode :=
 .seq (.region [⟨some 2, .mov (.const (.int .i64 0)), none⟩,
    ⟨some 3, .mov (.const (.int .i64 0)), none⟩]) (
 .seq (.seq (.region [⟨some 4, .mov (.tmp 0), none⟩,
     ⟨some 5, .eqn 0 false (.tmp 4) (.const (.pointer none)), none⟩]) (
  .cond (.tmp 5) (
   .seq (.region [⟨some 2, .mov (.const (.int .i64 0)), none⟩,
      ⟨some 3, .mov (.const (.int .i64 0)), none⟩]) (
   .ret)) (
   .skip))) (
 .seq (.draw (
   .q ⟨some 6, .mov (.tmp 0), none⟩ (
   .q ⟨some 7, .nilc (.tmp 6), none⟩ (
   .q ⟨some 8, .fadr (.tmp 7) 1, none⟩ (
   .q ⟨some 9, .load1 (.tmp 8), none⟩ (
   .q ⟨some 10, .len (.tmp 9), none⟩ (
   .q ⟨some 11, .mov (.tmp 0), none⟩ (
   .q ⟨some 12, .nilc (.tmp 11), none⟩ (
   .q ⟨some 13, .fadr (.tmp 12) 2, none⟩ (
   .q ⟨some 14, .load1 (.tmp 13), none⟩ (
   .q ⟨some 15, .len (.tmp 14), none⟩ (
   .q ⟨some 2, .mov (.tmp 10), none⟩ (
   .q ⟨some 3, .mov (.tmp 15), none⟩ (
   .done)))))))))))))) (
 .ret)))
theorem Try.fx35 : FnX Try.prog 35 16 #[.tmp 2, .tmp 3] Try.x35 :=
  ⟨Try.f35, Try.func35, by kernel_rfl, by kernel_rfl, by kernel_rfl, by kernel_rfl⟩
/-- freshet/freshetlaw9.order -/
def Try.x36 : XCode :=
 .seq (.region [⟨some 3, .box 3 (.tmp 1), none⟩,
    ⟨some 4, .mov (.const (.slice none 0 0)), none⟩]) (
 .seq (.region [⟨some 5, .alloc 40 [(.slice none 0 0)], none⟩]) (
 .seq (.region [⟨some 8, .mov (.tmp 0), none⟩,
    ⟨some 9, .call (.func 52) [(.tmp 8)], none⟩,
    ⟨some 6, .mov (.tmp 9), none⟩]) (
 .seq (.seq (.region [⟨some 10, .mov (.tmp 6), none⟩,
     ⟨some 11, .eqn 3 false (.tmp 10) (.const .nilFunc), none⟩]) (
  .cond (.tmp 11) (
   .seq (.region [⟨some 4, .mov (.const (.slice none 0 0)), none⟩]) (
   .ret)) (
   .skip))) (
 .seq (.seq (.region [⟨some 12, .mov (.tmp 6), none⟩]) (
  .block 0 (
   .range (.tmp 12) [13] (
    .region [⟨some 7, .mov (.tmp 13), none⟩]) (
    .block 1 (
     .seq (.region [⟨some 14, .load1 (.tmp 5), none⟩,
        ⟨some 15, .mov (.tmp 7), none⟩,
        ⟨some 16, .bsl 3 1 1 [(.int .i64 0)] [(0, (.tmp 15))], none⟩,
        ⟨some 17, .app 3 1 8 [(.int .i64 0)] (.tmp 14) (.tmp 16), none⟩,
        ⟨none, .store 1 (.tmp 5) (.tmp 17), none⟩]) (
     .seq (.region [⟨some 18, .load1 (.tmp 5), none⟩,
        ⟨some 19, .len (.tmp 18), none⟩,
        ⟨some 20, .load1 (.tmp 3), none⟩,
        ⟨some 21, .bin .eql (.tmp 19) (.tmp 20), none⟩]) (
     .cond (.tmp 21) (
      .exit 0) (
      .skip)))))))) (
 .seq (.region [⟨some 22, .load1 (.tmp 5), none⟩,
    ⟨some 4, .mov (.tmp 22), none⟩]) (
 .ret))))))
theorem Try.fx36 : FnX Try.prog 36 23 #[.tmp 4] Try.x36 :=
  ⟨Try.f36, Try.func36, by kernel_rfl, by kernel_rfl, by kernel_rfl, by kernel_rfl⟩
/-- (*freshet/freshetref6.LRU).Order -/
def Try.x37 : XCode :=
 .seq (.region [⟨some 2, .mov (.const (.slice none 0 0)), none⟩]) (
 .seq (.draw (
   .q ⟨some 4, .mov (.tmp 0), none⟩ (
   .q ⟨some 5, .nilc (.tmp 4), none⟩ (
   .q ⟨some 6, .fadr (.tmp 5) 1, none⟩ (
   .q ⟨some 7, .load1 (.tmp 6), none⟩ (
   .q ⟨some 9, .mov (.tmp 0), none⟩ (
   .q ⟨some 10, .nilc (.tmp 9), none⟩ (
   .q ⟨some 11, .fadr (.tmp 10) 2, none⟩ (
   .q ⟨some 12, .load1 (.tmp 11), none⟩ (
   .alt ⟨some 3, .bsl 3 0 1 [(.int .i64 0)] [], none⟩ true (
    .alt ⟨some 8, .app 3 1 8 [(.int .i64 0)] (.tmp 3) (.tmp 7), none⟩ true (
     .alt ⟨some 13, .app 3 1 8 [(.int .i64 0)] (.tmp 8) (.tmp 12), none⟩ false (
      .q ⟨some 2, .mov (.tmp 13), none⟩ (
      .done)) (.noalt)) (.noalt)) (.noalt))))))))))) (
 .ret))
theorem Try.fx37 : FnX Try.prog 37 14 #[.tmp 2] Try.x37 :=
  ⟨Try.f37, Try.func37, by kernel_rfl, by kernel_rfl, by kernel_rfl, by kernel_rfl⟩
/-- freshet/lists.NewDue[int] -/
def Try.x38 : XCode :=
 .seq (.region [⟨some 0, .mov (.const (.pointer none)), none⟩]) (
 .seq (.region [⟨some 1, .build [(.slice none 0 0)] [], none⟩,
    ⟨some 2, .box 91 (.tmp 1), none⟩,
    ⟨some 0, .mov (.tmp 2), none⟩]) (
 .ret))
theorem Try.fx38 : FnX Try.prog 38 3 #[.tmp 0] Try.x38 :=
  ⟨Try.f38, Try.func38, by kernel_rfl, by kernel_rfl, by kernel_rfl, by kernel_rfl⟩
/-- (*freshet/lists.Due[int]).Set -/
def Try.x39 : XCode :=
 .seq (.seq (.region [⟨some 6, .mov (.tmp 0), none⟩,
     ⟨some 7, .eqn 0 false (.tmp 6) (.const (.pointer none)), none⟩]) (
  .cond (.tmp 7) (
   .ret) (
   .skip))) (
 .seq (.region [⟨some 8, .mov (.tmp 0), none⟩,
    ⟨some 9, .mov (.tmp 1), none⟩,
    ⟨some 10, .call (.func 40) [(.tmp 8), (.tmp 9)], none⟩]) (
 .region [⟨some 11, .mov (.tmp 0), none⟩,
   ⟨some 12, .mov (.tmp 0), none⟩,
   ⟨some 13, .nilc (.tmp 12), none⟩,
   ⟨some 14, .fadr (.tmp 13) 0, none⟩,
   ⟨some 15, .load1 (.tmp 14), none⟩,
   ⟨some 16, .mov (.tmp 1), none⟩,
   ⟨some 17, .mov (.tmp 2), none⟩,
   ⟨some 18, .build [(.int .i64 0), (.int .i64 0)] [(0, 1, (.tmp 16)), (1, 1, (.tmp 17))], none⟩,
   ⟨some 19, .bsl 93 1 2 [(.int .i64 0), (.int .i64 0)] [(0, (.tmp 18))], none⟩,
   ⟨some 20, .app 93 2 16 [(.int .i64 0), (.int .i64 0)] (.tmp 15) (.tmp 19), none⟩,
   ⟨some 21, .nilc (.tmp 11), none⟩,
   ⟨some 22, .fadr (.tmp 21) 0, none⟩,
   ⟨none, .store 1 (.tmp 22) (.tmp 20), none⟩]))
theorem Try.fx39 : FnX Try.prog 39 23 #[] Try.x39 :=
  ⟨Try.f39, Try.func39, by kernel_rfl, by kernel_rfl, by kernel_rfl, by kernel_rfl⟩
/-- (*freshet/lists.Due[int]).Drop -/
def Try.x40 : XCode :=
 .seq (.region [⟨some 4, .mov (.const (.bool false)), none⟩]) (
 .seq (.region [⟨some 6, .mov (.tmp 0), none⟩,
    ⟨some 7, .mov (.tmp 1), none⟩,
    ⟨some 8, .call (.func 53) [(.tmp 6), (.tmp 7)], none⟩,
    ⟨some 5, .mov (.tmp 8), none⟩]) (
 .seq (.seq (.region [⟨some 9, .mov (.tmp 5), none⟩,
     ⟨some 10, .bin .lss (.tmp 9) (.const (.int .i64 0)), none⟩]) (
  .cond (.tmp 10) (
   .seq (.region [⟨some 4, .mov (.const (.bool false)), none⟩]) (
   .ret)) (
   .skip))) (
 .seq (.region [⟨some 11, .mov (.tmp 0), none⟩,
    ⟨some 12, .mov (.tmp 0), none⟩,
    ⟨some 13, .nilc (.tmp 12), none⟩,
    ⟨some 14, .fadr (.tmp 13) 0, none⟩,
    ⟨some 15, .load1 (.tmp 14), none⟩,
    ⟨some 16, .mov (.tmp 5), none⟩,
    ⟨some 17, .mov (.tmp 5), none⟩,
    ⟨some 18, .bin .add (.tmp 17) (.const (.int .i64 1)), none⟩,
    ⟨some 19, .call (.func 54) [(.tmp 15), (.tmp 16), (.tmp 18)], none⟩,
    ⟨some 20, .nilc (.tmp 11), none⟩,
    ⟨some 21, .fadr (.tmp 20) 0, none⟩,
    ⟨none, .store 1 (.tmp 21) (.tmp 19), none⟩]) (
 .seq (.region [⟨some 4, .mov (.const (.bool true)), none⟩]) (
 .ret)))))
theorem Try.fx40 : FnX Try.prog 40 22 #[.tmp 4] Try.x40 :=
  ⟨Try.f40, Try.func40, by kernel_rfl, by kernel_rfl, by kernel_rfl, by kernel_rfl⟩
/-- (*freshet/lists.Due[int]).At -/
def Try.x41 : XCode :=
 .seq (.region [⟨some 4, .mov (.const (.int .i64 0)), none⟩,
    ⟨some 5, .mov (.const (.bool false)), none⟩]) (
 .seq (.region [⟨some 7, .mov (.tmp 0), none⟩,
    ⟨some 8, .mov (.tmp 1), none⟩,
    ⟨some 9, .call (.func 53) [(.tmp 7), (.tmp 8)], none⟩,
    ⟨some 6, .mov (.tmp 9), none⟩]) (
 .seq (.seq (.region [⟨some 10, .mov (.tmp 6), none⟩,
     ⟨some 11, .bin .lss (.tmp 10) (.const (.int .i64 0)), none⟩]) (
  .cond (.tmp 11) (
   .seq (.region [⟨some 4, .mov (.const (.int .i64 0)), none⟩,
      ⟨some 5, .mov (.const (.bool false)), none⟩]) (
   .ret)) (
   .skip))) (
 .seq (.region [⟨some 12, .mov (.tmp 0), none⟩,
    ⟨some 13, .nilc (.tmp 12), none⟩,
    ⟨some 14, .fadr (.tmp 13) 0, none⟩,
    ⟨some 15, .load1 (.tmp 14), none⟩,
    ⟨some 16, .mov (.tmp 6), none⟩,
    ⟨some 17, .iadr (.tmp 15) (.tmp 16) 2, none⟩,
    ⟨some 18, .fadr (.tmp 17) 1, none⟩,
    ⟨some 19, .load1 (.tmp 18), none⟩,
    ⟨some 4, .mov (.tmp 19), none⟩,
    ⟨some 5, .mov (.const (.bool true)), none⟩]) (
 .ret))))
theorem Try.fx41 : FnX Try.prog 41 20 #[.tmp 4, .tmp 5] Try.x41 :=
  ⟨Try.f41, Try.func41, by kernel_rfl, by kernel_rfl, by kernel_rfl, by kernel_rfl⟩
/-- (*freshet/lists.Due[int]).Len -/
def Try.x42 : XCode :=
 .seq (.region [⟨some 2, .mov (.const (.int .i64 0)), none⟩]) (
 .seq (.seq (.region [⟨some 3, .mov (.tmp 0), none⟩,
     ⟨some 4, .eqn 0 false (.tmp 3) (.const (.pointer none)), none⟩]) (
  .cond (.tmp 4) (
   .seq (.region [⟨some 2, .mov (.const (.int .i64 0)), none⟩]) (
   .ret)) (
   .skip))) (
 .seq (.region [⟨some 5, .mov (.tmp 0), none⟩,
    ⟨some 6, .nilc (.tmp 5), none⟩,
    ⟨some 7, .fadr (.tmp 6) 0, none⟩,
    ⟨some 8, .load1 (.tmp 7), none⟩,
    ⟨some 9, .len (.tmp 8), none⟩,
    ⟨some 2, .mov (.tmp 9), none⟩]) (
 .ret)))
theorem Try.fx42 : FnX Try.prog 42 10 #[.tmp 2] Try.x42 :=
  ⟨Try.f42, Try.func42, by kernel_rfl, by kernel_rfl, by kernel_rfl, by kernel_rfl⟩
/-- freshet/freshetlaw9.same -/
def Try.x43 : XCode :=
 .seq (.region [⟨some 4, .mov (.const (.bool false)), none⟩]) (
 .seq (.seq (.region [⟨some 6, .mov (.tmp 0), none⟩,
     ⟨some 7, .len (.tmp 6), none⟩,
     ⟨some 8, .mov (.tmp 1), none⟩,
     ⟨some 9, .len (.tmp 8), none⟩,
     ⟨some 10, .bin .neq (.tmp 7) (.tmp 9), none⟩]) (
  .cond (.tmp 10) (
   .seq (.region [⟨some 4, .mov (.const (.bool false)), none⟩]) (
   .ret)) (
   .skip))) (
 .seq (.seq (.region [⟨some 5, .mov (.const (.int .i64 0)), none⟩]) (
  .block 0 (
   .loop (
    .seq (.seq (.region [⟨some 11, .mov (.tmp 5), none⟩,
        ⟨some 12, .mov (.tmp 0), none⟩,
        ⟨some 13, .len (.tmp 12), none⟩,
        ⟨some 14, .bin .lss (.tmp 11) (.tmp 13), none⟩]) (
     .cond (.tmp 14) (
      .skip) (
      .exit 0))) (
    .seq (.block 1 (
      .seq (.draw (
        .q ⟨some 17, .mov (.tmp 0), none⟩ (
        .q ⟨some 18, .mov (.tmp 5), none⟩ (
        .q ⟨some 19, .iadr (.tmp 17) (.tmp 18) 2, none⟩ (
        .q ⟨some 20, .loadN 2 (.tmp 19), none⟩ (
        .q ⟨some 21, .mov (.tmp 1), none⟩ (
        .q ⟨some 22, .mov (.tmp 5), none⟩ (
        .q ⟨some 23, .iadr (.tmp 21) (.tmp 22) 2, none⟩ (
        .q ⟨some 24, .loadN 2 (.tmp 23), none⟩ (
        .q ⟨some 25, .eqs true [(0, 0), (1, 0)] (.tmp 20) (.tmp 24), none⟩ (
        .done))))))))))) (
      .cond (.tmp 25) (
       .seq (.region [⟨some 4, .mov (.const (.bool false)), none⟩]) (
       .ret)) (
       .skip)))) (
    .region [⟨some 15, .mov (.tmp 5), none⟩,
      ⟨some 16, .bin .add (.tmp 15) (.const (.int .i64 1)), none⟩,
      ⟨some 5, .mov (.tmp 16), none⟩])))))) (
 .seq (.region [⟨some 4, .mov (.const (.bool true)), none⟩]) (
 .ret))))
theorem Try.fx43 : FnX Try.prog 43 26 #[.tmp 4] Try.x43 :=
  ⟨Try.f43, Try.func43, by kernel_rfl, by kernel_rfl, by kernel_rfl, by kernel_rfl⟩
/-- freshet/freshetlaw9.upto -/
def Try.x44 : XCode :=
 .seq (.region [⟨some 5, .box 3 (.tmp 2), none⟩,
    ⟨some 6, .mov (.const (.slice none 0 0)), none⟩]) (
 .seq (.region [⟨some 7, .alloc 27 [(.slice none 0 0)], none⟩]) (
 .seq (.region [⟨some 11, .mov (.tmp 0), none⟩,
    ⟨some 12, .mov (.tmp 1), none⟩,
    ⟨some 13, .call (.func 45) [(.tmp 11), (.tmp 12)], none⟩,
    ⟨some 8, .mov (.tmp 13), none⟩]) (
 .seq (.seq (.region [⟨some 14, .mov (.tmp 8), none⟩,
     ⟨some 15, .eqn 3 false (.tmp 14) (.const .nilFunc), none⟩]) (
  .cond (.tmp 15) (
   .seq (.region [⟨some 6, .mov (.const (.slice none 0 0)), none⟩]) (
   .ret)) (
   .skip))) (
 .seq (.seq (.region [⟨some 16, .mov (.tmp 8), none⟩]) (
  .block 0 (
   .range (.tmp 16) [17, 18] (
    .seq (.region [⟨some 9, .mov (.tmp 17), none⟩]) (
    .region [⟨some 10, .mov (.tmp 18), none⟩])) (
    .block 1 (
     .seq (.region [⟨some 19, .load1 (.tmp 7), none⟩,
        ⟨some 20, .mov (.tmp 9), none⟩,
        ⟨some 21, .mov (.tmp 10), none⟩,
        ⟨some 22, .build [(.int .i64 0), (.int .i64 0)] [(0, 1, (.tmp 20)), (1, 1, (.tmp 21))], none⟩,
        ⟨some 23, .bsl 42 1 2 [(.int .i64 0), (.int .i64 0)] [(0, (.tmp 22))], none⟩,
        ⟨some 24, .app 42 2 16 [(.int .i64 0), (.int .i64 0)] (.tmp 19) (.tmp 23), none⟩,
        ⟨none, .store 1 (.tmp 7) (.tmp 24), none⟩]) (
     .seq (.region [⟨some 25, .load1 (.tmp 7), none⟩,
        ⟨some 26, .len (.tmp 25), none⟩,
        ⟨some 27, .load1 (.tmp 5), none⟩,
        ⟨some 28, .bin .eql (.tmp 26) (.tmp 27), none⟩]) (
     .cond (.tmp 28) (
      .exit 0) (
      .skip)))))))) (
 .seq (.region [⟨some 29, .load1 (.tmp 7), none⟩,
    ⟨some 6, .mov (.tmp 29), none⟩]) (
 .ret))))))
theorem Try.fx44 : FnX Try.prog 44 30 #[.tmp 6] Try.x44 :=
  ⟨Try.f44, Try.func44, by kernel_rfl, by kernel_rfl, by kernel_rfl, by kernel_rfl⟩
/-- (*freshet/lists.Due[int]).Upto -/
def Try.x45 : XCode :=
 .seq (.region [⟨some 2, .box 65 (.tmp 0), none⟩,
    ⟨some 3, .box 3 (.tmp 1), none⟩,
    ⟨some 4, .mov (.const .nilFunc), none⟩]) (
 .seq (.region [⟨some 5, .mkf (.func 55) [] [(.tmp 2), (.tmp 3)], none⟩,
    ⟨some 4, .mov (.tmp 5), none⟩]) (
 .ret))
theorem Try.fx45 : FnX Try.prog 45 6 #[.tmp 4] Try.x45 :=
  ⟨Try.f45, Try.func45, by kernel_rfl, by kernel_rfl, by kernel_rfl, by kernel_rfl⟩
/-- (*freshet/freshetref6.Due).where -/
def Try.x46 : XCode :=
 .seq (.region [⟨some 4, .mov (.const (.int .i64 0)), none⟩]) (
 .seq (.seq (.region [⟨some 5, .mov (.const (.int .i64 0)), none⟩]) (
  .block 0 (
   .loop (
    .seq (.seq (.region [⟨some 6, .mov (.tmp 5), none⟩,
        ⟨some 7, .mov (.tmp 0), none⟩,
        ⟨some 8, .nilc (.tmp 7), none⟩,
        ⟨some 9, .fadr (.tmp 8) 0, none⟩,
        ⟨some 10, .load1 (.tmp 9), none⟩,
        ⟨some 11, .len (.tmp 10), none⟩,
        ⟨some 12, .bin .lss (.tmp 6) (.tmp 11), none⟩]) (
     .cond (.tmp 12) (
      .skip) (
      .exit 0))) (
    .seq (.block 1 (
      .seq (.region [⟨some 15, .mov (.tmp 0), none⟩,
         ⟨some 16, .nilc (.tmp 15), none⟩,
         ⟨some 17, .fadr (.tmp 16) 0, none⟩,
         ⟨some 18, .load1 (.tmp 17), none⟩,
         ⟨some 19, .mov (.tmp 5), none⟩,
         ⟨some 20, .iadr (.tmp 18) (.tmp 19) 2, none⟩,
         ⟨some 21, .fadr (.tmp 20) 0, none⟩,
         ⟨some 22, .load1 (.tmp 21), none⟩,
         ⟨some 23, .mov (.tmp 1), none⟩,
         ⟨some 24, .bin .eql (.tmp 22) (.tmp 23), none⟩]) (
      .cond (.tmp 24) (
       .seq (.region [⟨some 25, .mov (.tmp 5), none⟩,
          ⟨some 4, .mov (.tmp 25), none⟩]) (
       .ret)) (
       .skip)))) (
    .region [⟨some 13, .mov (.tmp 5), none⟩,
      ⟨some 14, .bin .add (.tmp 13) (.const (.int .i64 1)), none⟩,
      ⟨some 5, .mov (.tmp 14), none⟩])))))) (
 .seq (.region [⟨some 4, .mov (.const (.int .i64 (-1))), none⟩]) (
 .ret)))
theorem Try.fx46 : FnX Try.prog 46 26 #[.tmp 4] Try.x46 :=
  ⟨Try.f46, Try.func46, by kernel_rfl, by kernel_rfl, by kernel_rfl, by kernel_rfl⟩
/-- slices.Contains[[]int,int] -/
def Try.x47 : XCode :=
 .seq (.region [⟨some 4, .mov (.const (.bool false)), none⟩]) (
 .seq (.region [⟨some 5, .mov (.tmp 0), none⟩,
    ⟨some 6, .mov (.tmp 1), none⟩,
    ⟨some 7, .call (.func 60) [(.tmp 5), (.tmp 6)], none⟩,
    ⟨some 8, .bin .geq (.tmp 7) (.const (.int .i64 0)), none⟩,
    ⟨some 4, .mov (.tmp 8), none⟩]) (
 .ret))
theorem Try.fx47 : FnX Try.prog 47 9 #[.tmp 4] Try.x47 :=
  ⟨Try.f47, Try.func47, by kernel_rfl, by kernel_rfl, by kernel_rfl, by kernel_rfl⟩
/-- freshet/freshetref6.place -/
def Try.x48 : XCode :=
 .seq (.region [⟨some 4, .mov (.const (.int .i64 0)), none⟩]) (
 .seq (.seq (.region [⟨some 5, .mov (.const (.int .i64 0)), none⟩]) (
  .block 0 (
   .loop (
    .seq (.seq (.region [⟨some 6, .mov (.tmp 5), none⟩,
        ⟨some 7, .mov (.tmp 0), none⟩,
        ⟨some 8, .len (.tmp 7), none⟩,
        ⟨some 9, .bin .lss (.tmp 6) (.tmp 8), none⟩]) (
     .cond (.tmp 9) (
      .skip) (
      .exit 0))) (
    .seq (.block 1 (
      .seq (.region [⟨some 12, .mov (.tmp 0), none⟩,
         ⟨some 13, .mov (.tmp 5), none⟩,
         ⟨some 14, .iadr (.tmp 12) (.tmp 13) 1, none⟩,
         ⟨some 15, .load1 (.tmp 14), none⟩,
         ⟨some 16, .mov (.tmp 1), none⟩,
         ⟨some 17, .bin .eql (.tmp 15) (.tmp 16), none⟩]) (
      .cond (.tmp 17) (
       .seq (.region [⟨some 18, .mov (.tmp 5), none⟩,
          ⟨some 4, .mov (.tmp 18), none⟩]) (
       .ret)) (
       .skip)))) (
    .region [⟨some 10, .mov (.tmp 5), none⟩,
      ⟨some 11, .bin .add (.tmp 10) (.const (.int .i64 1)), none⟩,
      ⟨some 5, .mov (.tmp 11), none⟩])))))) (
 .seq (.region [⟨some 4, .mov (.const (.int .i64 (-1))), none⟩]) (
 .ret)))
theorem Try.fx48 : FnX Try.prog 48 19 #[.tmp 4] Try.x48 :=
  ⟨Try.f48, Try.func48, by kernel_rfl, by kernel_rfl, by kernel_rfl, by kernel_rfl⟩
/-- slices.Delete[[]int,int] -/
def Try.x49 : XCode :=
 .seq (.region [⟨some 6, .mov (.const (.slice none 0 0)), none⟩]) (
 .seq (.region [⟨some 8, .mov (.tmp 0), none⟩,
    ⟨some 9, .mov (.tmp 1), none⟩,
    ⟨some 10, .mov (.tmp 2), none⟩,
    ⟨some 11, .mov (.tmp 0), none⟩,
    ⟨some 12, .len (.tmp 11), none⟩,
    ⟨some 13, .slc 1 (.tmp 8) (some (.tmp 9)) (some (.tmp 10)) (some (.tmp 12)), none⟩]) (
 .seq (.seq (.region [⟨some 14, .mov (.tmp 1), none⟩,
     ⟨some 15, .mov (.tmp 2), none⟩,
     ⟨some 16, .bin .eql (.tmp 14) (.tmp 15), none⟩]) (
  .cond (.tmp 16) (
   .seq (.region [⟨some 17, .mov (.tmp 0), none⟩,
      ⟨some 6, .mov (.tmp 17), none⟩]) (
   .ret)) (
   .skip))) (
 .seq (.region [⟨some 18, .mov (.tmp 0), none⟩,
    ⟨some 19, .len (.tmp 18), none⟩,
    ⟨some 7, .mov (.tmp 19), none⟩]) (
 .seq (.draw (
   .q ⟨some 20, .mov (.tmp 0), none⟩ (
   .q ⟨some 21, .mov (.tmp 1), none⟩ (
   .q ⟨some 22, .slc 1 (.tmp 20) none (some (.tmp 21)) none, none⟩ (
   .q ⟨some 23, .mov (.tmp 0), none⟩ (
   .q ⟨some 24, .mov (.tmp 2), none⟩ (
   .q ⟨some 25, .slc 1 (.tmp 23) (some (.tmp 24)) none none, none⟩ (
   .alt ⟨some 26, .app 3 1 8 [(.int .i64 0)] (.tmp 22) (.tmp 25), none⟩ false (
    .q ⟨some 0, .mov (.tmp 26), none⟩ (
    .done)) (.noalt))))))))) (
 .seq (.region [⟨some 27, .mov (.tmp 0), none⟩,
    ⟨some 28, .mov (.tmp 0), none⟩,
    ⟨some 29, .len (.tmp 28), none⟩,
    ⟨some 30, .mov (.tmp 7), none⟩,
    ⟨some 31, .slc 1 (.tmp 27) (some (.tmp 29)) (some (.tmp 30)) none, none⟩,
    ⟨none, .clr [(.int .i64 0)] (.tmp 31), none⟩]) (
 .seq (.region [⟨some 32, .mov (.tmp 0), none⟩,
    ⟨some 6, .mov (.tmp 32), none⟩]) (
 .ret)))))))
theorem Try.fx49 : FnX Try.prog 49 33 #[.tmp 6] Try.x49 :=
  ⟨Try.f49, Try.func49, by kernel_rfl, by kernel_rfl, by kernel_rfl, by kernel_rfl⟩
/-- freshet/freshetref6.out -/
def Try.x50 : XCode :=
 .seq (.region [⟨some 4, .mov (.const (.slice none 0 0)), none⟩]) (
 .seq (.draw (
   .q ⟨some 6, .mov (.tmp 0), none⟩ (
   .q ⟨some 7, .mov (.tmp 1), none⟩ (
   .q ⟨some 8, .slc 1 (.tmp 6) none (some (.tmp 7)) none, none⟩ (
   .q ⟨some 10, .mov (.tmp 0), none⟩ (
   .q ⟨some 11, .mov (.tmp 1), none⟩ (
   .q ⟨some 12, .bin .add (.tmp 11) (.const (.int .i64 1)), none⟩ (
   .q ⟨some 13, .slc 1 (.tmp 10) (some (.tmp 12)) none none, none⟩ (
   .alt ⟨some 5, .bsl 3 0 1 [(.int .i64 0)] [], none⟩ false (
    .alt ⟨some 9, .app 3 1 8 [(.int .i64 0)] (.tmp 5) (.tmp 8), none⟩ false (
     .alt ⟨some 14, .app 3 1 8 [(.int .i64 0)] (.tmp 9) (.tmp 13), none⟩ false (
      .q ⟨some 4, .mov (.tmp 14), none⟩ (
      .done)) (.noalt)) (.noalt)) (.noalt)))))))))) (
 .ret))
theorem Try.fx50 : FnX Try.prog 50 15 #[.tmp 4] Try.x50 :=
  ⟨Try.f50, Try.func50, by kernel_rfl, by kernel_rfl, by kernel_rfl, by kernel_rfl⟩
/-- freshet/lists.cut[int] -/
def Try.x51 : XCode :=
 .seq (.region [⟨some 4, .mov (.const (.slice none 0 0)), none⟩,
    ⟨some 5, .mov (.const (.bool false)), none⟩]) (
 .seq (.region [⟨some 7, .mov (.tmp 0), none⟩,
    ⟨some 8, .mov (.tmp 1), none⟩,
    ⟨some 9, .call (.func 60) [(.tmp 7), (.tmp 8)], none⟩,
    ⟨some 6, .mov (.tmp 9), none⟩]) (
 .seq (.seq (.region [⟨some 10, .mov (.tmp 6), none⟩,
     ⟨some 11, .bin .lss (.tmp 10) (.const (.int .i64 0)), none⟩]) (
  .cond (.tmp 11) (
   .seq (.region [⟨some 12, .mov (.tmp 0), none⟩,
      ⟨some 4, .mov (.tmp 12), none⟩,
      ⟨some 5, .mov (.const (.bool false)), none⟩]) (
   .ret)) (
   .skip))) (
 .seq (.region [⟨some 13, .mov (.tmp 0), none⟩,
    ⟨some 14, .mov (.tmp 6), none⟩,
    ⟨some 15, .mov (.tmp 6), none⟩,
    ⟨some 16, .bin .add (.tmp 15) (.const (.int .i64 1)), none⟩,
    ⟨some 17, .call (.func 49) [(.tmp 13), (.tmp 14), (.tmp 16)], none⟩,
    ⟨some 4, .mov (.tmp 17), none⟩,
    ⟨some 5, .mov (.const (.bool true)), none⟩]) (
 .ret))))
theorem Try.fx51 : FnX Try.prog 51 18 #[.tmp 4, .tmp 5] Try.x51 :=
  ⟨Try.f51, Try.func51, by kernel_rfl, by kernel_rfl, by kernel_rfl, by kernel_rfl⟩
/-- (*freshet/lists.LRU[int]).Order -/
def Try.x52 : XCode :=
 .seq (.region [⟨some 1, .box 53 (.tmp 0), none⟩,
    ⟨some 2, .mov (.const .nilFunc), none⟩]) (
 .seq (.region [⟨some 3, .mkf (.func 61) [] [(.tmp 1)], none⟩,
    ⟨some 2, .mov (.tmp 3), none⟩]) (
 .ret))
theorem Try.fx52 : FnX Try.prog 52 4 #[.tmp 2] Try.x52 :=
  ⟨Try.f52, Try.func52, by kernel_rfl, by kernel_rfl, by kernel_rfl, by kernel_rfl⟩
/-- (*freshet/lists.Due[int]).place -/
def Try.x53 : XCode :=
 .seq (.region [⟨some 3, .box 3 (.tmp 1), none⟩,
    ⟨some 4, .mov (.const (.int .i64 0)), none⟩]) (
 .seq (.seq (.region [⟨some 5, .mov (.tmp 0), none⟩,
     ⟨some 6, .eqn 0 false (.tmp 5) (.const (.pointer none)), none⟩]) (
  .cond (.tmp 6) (
   .seq (.region [⟨some 4, .mov (.const (.int .i64 (-1))), none⟩]) (
   .ret)) (
   .skip))) (
 .seq (.region [⟨some 7, .mov (.tmp 0), none⟩,
    ⟨some 8, .nilc (.tmp 7), none⟩,
    ⟨some 9, .fadr (.tmp 8) 0, none⟩,
    ⟨some 10, .load1 (.tmp 9), none⟩,
    ⟨some 11, .mkf (.func 64) [] [(.tmp 3)], none⟩,
    ⟨some 12, .call (.func 63) [(.tmp 10), (.tmp 11)], none⟩,
    ⟨some 4, .mov (.tmp 12), none⟩]) (
 .ret)))
theorem Try.fx53 : FnX Try.prog 53 13 #[.tmp 4] Try.x53 :=
  ⟨Try.f53, Try.func53, by kernel_rfl, by kernel_rfl, by kernel_rfl, by kernel_rfl⟩
/-- slices.Delete[[]freshet/lists.entry[int],freshet/lists.entry[int]] -/
def Try.x54 : XCode :=
 .seq (.region [⟨some 6, .mov (.const (.slice none 0 0)), none⟩]) (
 .seq (.region [⟨some 8, .mov (.tmp 0), none⟩,
    ⟨some 9, .mov (.tmp 1), none⟩,
    ⟨some 10, .mov (.tmp 2), none⟩,
    ⟨some 11, .mov (.tmp 0), none⟩,
    ⟨some 12, .len (.tmp 11), none⟩,
    ⟨some 13, .slc 2 (.tmp 8) (some (.tmp 9)) (some (.tmp 10)) (some (.tmp 12)), none⟩]) (
 .seq (.seq (.region [⟨some 14, .mov (.tmp 1), none⟩,
     ⟨some 15, .mov (.tmp 2), none⟩,
     ⟨some 16, .bin .eql (.tmp 14) (.tmp 15), none⟩]) (
  .cond (.tmp 16) (
   .seq (.region [⟨some 17, .mov (.tmp 0), none⟩,
      ⟨some 6, .mov (.tmp 17), none⟩]) (
   .ret)) (
   .skip))) (
 .seq (.region [⟨some 18, .mov (.tmp 0), none⟩,
    ⟨some 19, .len (.tmp 18), none⟩,
    ⟨some 7, .mov (.tmp 19), none⟩]) (
 .seq (.draw (
   .q ⟨some 20, .mov (.tmp 0), none⟩ (
   .q ⟨some 21, .mov (.tmp 1), none⟩ (
   .q ⟨some 22, .slc 2 (.tmp 20) none (some (.tmp 21)) none, none⟩ (
   .q ⟨some 23, .mov (.tmp 0), none⟩ (
   .q ⟨some 24, .mov (.tmp 2), none⟩ (
   .q ⟨some 25, .slc 2 (.tmp 23) (some (.tmp 24)) none none, none⟩ (
   .alt ⟨some 26, .app 93 2 16 [(.int .i64 0), (.int .i64 0)] (.tmp 22) (.tmp 25), none⟩ false (
    .q ⟨some 0, .mov (.tmp 26), none⟩ (
    .done)) (.noalt))))))))) (
 .seq (.region [⟨some 27, .mov (.tmp 0), none⟩,
    ⟨some 28, .mov (.tmp 0), none⟩,
    ⟨some 29, .len (.tmp 28), none⟩,
    ⟨some 30, .mov (.tmp 7), none⟩,
    ⟨some 31, .slc 2 (.tmp 27) (some (.tmp 29)) (some (.tmp 30)) none, none⟩,
    ⟨none, .clr [(.int .i64 0), (.int .i64 0)] (.tmp 31), none⟩]) (
 .seq (.region [⟨some 32, .mov (.tmp 0), none⟩,
    ⟨some 6, .mov (.tmp 32), none⟩]) (
 .ret)))))))
theorem Try.fx54 : FnX Try.prog 54 33 #[.tmp 6] Try.x54 :=
  ⟨Try.f54, Try.func54, by kernel_rfl, by kernel_rfl, by kernel_rfl, by kernel_rfl⟩
/-- (*freshet/lists.Due[int]).Upto$1 -/
def Try.x55 : XCode :=
 .seq (.seq (.region [⟨some 7, .load1 (.tmp 1), none⟩,
     ⟨some 8, .eqn 0 false (.tmp 7) (.const (.pointer none)), none⟩]) (
  .cond (.tmp 8) (
   .ret) (
   .skip))) (
 .seq (.region [⟨some 9, .load1 (.tmp 1), none⟩,
    ⟨some 10, .nilc (.tmp 9), none⟩,
    ⟨some 11, .fadr (.tmp 10) 0, none⟩,
    ⟨some 12, .load1 (.tmp 11), none⟩,
    ⟨some 13, .call (.func 56) [(.tmp 12)], none⟩,
    ⟨some 4, .mov (.tmp 13), none⟩]) (
 .seq (.region [⟨some 14, .mov (.tmp 4), none⟩,
    ⟨some 15, .call (.func 57) [(.tmp 14), (.func 58)], none⟩]) (
 .seq (.region [⟨some 16, .mov (.tmp 4), none⟩,
    ⟨some 17, .len (.tmp 16), none⟩,
    ⟨some 18, .mov (.const (.int .i64 0)), none⟩]) (
 .block 0 (
  .loop (
   .seq (.region [⟨some 19, .bin .lss (.tmp 18) (.tmp 17), none⟩]) (
   .seq (.cond (.tmp 19) (
     .skip) (
     .exit 0)) (
   .seq (.block 1 (
     .seq (.region [⟨some 20, .iadr (.tmp 16) (.tmp 18) 2, none⟩,
        ⟨some 21, .loadN 2 (.tmp 20), none⟩,
        ⟨some 6, .alloc 93 [(.int .i64 0), (.int .i64 0)], none⟩,
        ⟨none, .store 2 (.tmp 6) (.tmp 21), none⟩]) (
     .seq (.region [⟨some 22, .fadr (.tmp 6) 1, none⟩,
        ⟨some 23, .load1 (.tmp 22), none⟩,
        ⟨some 24, .load1 (.tmp 2), none⟩,
        ⟨some 25, .bin .gtr (.tmp 23) (.tmp 24), none⟩,
        ⟨some 26, .mov (.tmp 25), none⟩,
        ⟨some 27, .mov (.tmp 0), some (26, false)⟩,
        ⟨some 28, .fadr (.tmp 6) 0, some (26, false)⟩,
        ⟨some 29, .load1 (.tmp 28), some (26, false)⟩,
        ⟨some 30, .fadr (.tmp 6) 1, some (26, false)⟩,
        ⟨some 31, .load1 (.tmp 30), some (26, false)⟩,
        ⟨some 32, .call (.tmp 27) [(.tmp 29), (.tmp 31)], some (26, false)⟩,
        ⟨some 33, .un .not (.tmp 32), some (26, false)⟩,
        ⟨some 34, .pick (.tmp 26) (.const (.bool true)) (.tmp 33), none⟩]) (
     .cond (.tmp 34) (
      .ret) (
      .skip))))) (
   .region [⟨some 35, .bin .add (.tmp 18) (.const (.int .i64 1)), none⟩,
     ⟨some 18, .mov (.tmp 35), none⟩])))))))))
theorem Try.fx55 : FnX Try.prog 55 36 #[] Try.x55 :=
  ⟨Try.f55, Try.func55, by kernel_rfl, by kernel_rfl, by kernel_rfl, by kernel_rfl⟩
/-- slices.Clone[[]freshet/lists.entry[int],freshet/lists.entry[int]] -/
def Try.x56 : XCode :=
 .seq (.region [⟨some 2, .mov (.const (.slice none 0 0)), none⟩]) (
 .seq (.seq (.region [⟨some 3, .mov (.tmp 0), none⟩,
     ⟨some 4, .eqn 1 false (.tmp 3) (.const (.slice none 0 0)), none⟩]) (
  .cond (.tmp 4) (
   .seq (.region [⟨some 2, .mov (.const (.slice none 0 0)), none⟩]) (
   .ret)) (
   .skip))) (
 .seq (.region [⟨some 5, .bsl 93 0 2 [(.int .i64 0), (.int .i64 0)] [], none⟩,
    ⟨some 6, .mov (.tmp 0), none⟩,
    ⟨some 7, .app 93 2 16 [(.int .i64 0), (.int .i64 0)] (.tmp 5) (.tmp 6), none⟩,
    ⟨some 2, .mov (.tmp 7), none⟩]) (
 .ret)))
theorem Try.fx56 : FnX Try.prog 56 8 #[.tmp 2] Try.x56 :=
  ⟨Try.f56, Try.func56, by kernel_rfl, by kernel_rfl, by kernel_rfl, by kernel_rfl⟩
/-- slices.SortStableFunc[[]freshet/lists.entry[int],freshet/lists.entry[int]] -/
def Try.x57 : XCode :=
 .region [⟨some 4, .mov (.tmp 0), none⟩,
   ⟨some 5, .mov (.tmp 0), none⟩,
   ⟨some 6, .len (.tmp 5), none⟩,
   ⟨some 7, .mov (.tmp 1), none⟩,
   ⟨some 8, .call (.func 65) [(.tmp 4), (.tmp 6), (.tmp 7)], none⟩]
theorem Try.fx57 : FnX Try.prog 57 9 #[] Try.x57 :=
  ⟨Try.f57, Try.func57, by kernel_rfl, by kernel_rfl, by kernel_rfl, by kernel_rfl⟩
/-- (*freshet/lists.Due[int]).Upto$1$1 -/
def Try.x58 : XCode :=
 .seq (.region [⟨some 2, .box 93 (.tmp 0), none⟩,
    ⟨some 3, .box 93 (.tmp 1), none⟩,
    ⟨some 4, .mov (.const (.int .i64 0)), none⟩]) (
 .seq (.region [⟨some 5, .fadr (.tmp 2) 1, none⟩,
    ⟨some 6, .load1 (.tmp 5), none⟩,
    ⟨some 7, .fadr (.tmp 3) 1, none⟩,
    ⟨some 8, .load1 (.tmp 7), none⟩,
    ⟨some 9, .call (.func 59) [(.tmp 6), (.tmp 8)], none⟩,
    ⟨some 4, .mov (.tmp 9), none⟩]) (
 .ret))
theorem Try.fx58 : FnX Try.prog 58 10 #[.tmp 4] Try.x58 :=
  ⟨Try.f58, Try.func58, by kernel_rfl, by kernel_rfl, by kernel_rfl, by kernel_rfl⟩
/-- cmp.Compare[int] -/
def Try.x59 : XCode :=
 .seq (.region [⟨some 4, .mov (.const (.int .i64 0)), none⟩]) (
 .seq (.region [⟨some 7, .mov (.tmp 0), none⟩,
    ⟨some 8, .call (.func 66) [(.tmp 7)], none⟩,
    ⟨some 5, .mov (.tmp 8), none⟩]) (
 .seq (.region [⟨some 9, .mov (.tmp 1), none⟩,
    ⟨some 10, .call (.func 66) [(.tmp 9)], none⟩,
    ⟨some 6, .mov (.tmp 10), none⟩]) (
 .seq (.seq (.region [⟨some 11, .mov (.tmp 5), none⟩]) (
  .cond (.tmp 11) (
   .seq (.seq (.region [⟨some 12, .mov (.tmp 6), none⟩]) (
    .cond (.tmp 12) (
     .seq (.region [⟨some 4, .mov (.const (.int .i64 0)), none⟩]) (
     .ret)) (
     .skip))) (
   .seq (.region [⟨some 4, .mov (.const (.int .i64 (-1))), none⟩]) (
   .ret))) (
   .skip))) (
 .seq (.seq (.region [⟨some 13, .mov (.tmp 6), none⟩]) (
  .cond (.tmp 13) (
   .seq (.region [⟨some 4, .mov (.const (.int .i64 1)), none⟩]) (
   .ret)) (
   .skip))) (
 .seq (.seq (.region [⟨some 14, .mov (.tmp 0), none⟩,
     ⟨some 15, .mov (.tmp 1), none⟩,
     ⟨some 16, .bin .lss (.tmp 14) (.tmp 15), none⟩]) (
  .cond (.tmp 16) (
   .seq (.region [⟨some 4, .mov (.const (.int .i64 (-1))), none⟩]) (
   .ret)) (
   .skip))) (
 .seq (.seq (.region [⟨some 17, .mov (.tmp 0), none⟩,
     ⟨some 18, .mov (.tmp 1), none⟩,
     ⟨some 19, .bin .gtr (.tmp 17) (.tmp 18), none⟩]) (
  .cond (.tmp 19) (
   .seq (.region [⟨some 4, .mov (.const (.int .i64 1)), none⟩]) (
   .ret)) (
   .skip))) (
 .seq (.region [⟨some 4, .mov (.const (.int .i64 0)), none⟩]) (
 .ret))))))))
theorem Try.fx59 : FnX Try.prog 59 20 #[.tmp 4] Try.x59 :=
  ⟨Try.f59, Try.func59, by kernel_rfl, by kernel_rfl, by kernel_rfl, by kernel_rfl⟩
/-- slices.Index[[]int,int] -/
def Try.x60 : XCode :=
 .seq (.region [⟨some 4, .mov (.const (.int .i64 0)), none⟩]) (
 .seq (.seq (.region [⟨some 6, .mov (.tmp 0), none⟩,
     ⟨some 7, .len (.tmp 6), none⟩,
     ⟨some 8, .mov (.const (.int .i64 0)), none⟩]) (
  .block 0 (
   .loop (
    .seq (.region [⟨some 9, .bin .lss (.tmp 8) (.tmp 7), none⟩]) (
    .seq (.cond (.tmp 9) (
      .skip) (
      .exit 0)) (
    .seq (.block 1 (
      .seq (.region [⟨some 10, .mov (.tmp 8), none⟩,
         ⟨some 5, .mov (.tmp 10), none⟩]) (
      .seq (.region [⟨some 11, .mov (.tmp 1), none⟩,
         ⟨some 12, .mov (.tmp 0), none⟩,
         ⟨some 13, .mov (.tmp 5), none⟩,
         ⟨some 14, .iadr (.tmp 12) (.tmp 13) 1, none⟩,
         ⟨some 15, .load1 (.tmp 14), none⟩,
         ⟨some 16, .bin .eql (.tmp 11) (.tmp 15), none⟩]) (
      .cond (.tmp 16) (
       .seq (.region [⟨some 17, .mov (.tmp 5), none⟩,
          ⟨some 4, .mov (.tmp 17), none⟩]) (
       .ret)) (
       .skip))))) (
    .region [⟨some 18, .bin .add (.tmp 8) (.const (.int .i64 1)), none⟩,
      ⟨some 8, .mov (.tmp 18), none⟩]))))))) (
 .seq (.region [⟨some 4, .mov (.const (.int .i64 (-1))), none⟩]) (
 .ret)))
theorem Try.fx60 : FnX Try.prog 60 19 #[.tmp 4] Try.x60 :=
  ⟨Try.f60, Try.func60, by kernel_rfl, by kernel_rfl, by kernel_rfl, by kernel_rfl⟩
/-- (*freshet/lists.LRU[int]).Order$1 -/
def Try.x61 : XCode :=
 .seq (.seq (.region [⟨some 5, .load1 (.tmp 1), none⟩,
     ⟨some 6, .eqn 0 false (.tmp 5) (.const (.pointer none)), none⟩]) (
  .cond (.tmp 6) (
   .ret) (
   .skip))) (
 .seq (.draw (
   .q ⟨some 7, .load1 (.tmp 1), none⟩ (
   .q ⟨some 8, .nilc (.tmp 7), none⟩ (
   .q ⟨some 9, .fadr (.tmp 8) 1, none⟩ (
   .q ⟨some 10, .load1 (.tmp 9), none⟩ (
   .q ⟨some 11, .load1 (.tmp 1), none⟩ (
   .q ⟨some 12, .nilc (.tmp 11), none⟩ (
   .q ⟨some 13, .fadr (.tmp 12) 2, none⟩ (
   .q ⟨some 14, .load1 (.tmp 13), none⟩ (
   .q ⟨some 18, .mov (.const (.int .i64 0)), none⟩ (
   .alt ⟨some 15, .bsl 40 2 1 [(.slice none 0 0)] [(0, (.tmp 10)), (1, (.tmp 14))], none⟩ false (
    .alt ⟨some 16, .call (.func 62) [(.tmp 15)], none⟩ false (
     .q ⟨some 17, .len (.tmp 16), none⟩ (
     .done)) (.noalt)) (.noalt)))))))))))) (
 .block 0 (
  .loop (
   .seq (.region [⟨some 19, .bin .lss (.tmp 18) (.tmp 17), none⟩]) (
   .seq (.cond (.tmp 19) (
     .skip) (
     .exit 0)) (
   .seq (.block 1 (
     .seq (.region [⟨some 20, .iadr (.tmp 16) (.tmp 18) 1, none⟩,
        ⟨some 21, .load1 (.tmp 20), none⟩,
        ⟨some 4, .mov (.tmp 21), none⟩]) (
     .seq (.region [⟨some 22, .mov (.tmp 0), none⟩,
        ⟨some 23, .mov (.tmp 4), none⟩,
        ⟨some 24, .call (.tmp 22) [(.tmp 23)], none⟩,
        ⟨some 25, .un .not (.tmp 24), none⟩]) (
     .cond (.tmp 25) (
      .ret) (
      .skip))))) (
   .region [⟨some 26, .bin .add (.tmp 18) (.const (.int .i64 1)), none⟩,
     ⟨some 18, .mov (.tmp 26), none⟩])))))))
theorem Try.fx61 : FnX Try.prog 61 27 #[] Try.x61 :=
  ⟨Try.f61, Try.func61, by kernel_rfl, by kernel_rfl, by kernel_rfl, by kernel_rfl⟩
/-- slices.Concat[[]int,int] -/
def Try.x62 : XCode :=
 .seq (.region [⟨some 2, .mov (.const (.slice none 0 0)), none⟩]) (
 .seq (.region [⟨some 3, .mov (.const (.int .i64 0)), none⟩]) (
 .seq (.seq (.region [⟨some 9, .mov (.tmp 0), none⟩,
     ⟨some 10, .len (.tmp 9), none⟩,
     ⟨some 11, .mov (.const (.int .i64 0)), none⟩]) (
  .block 0 (
   .loop (
    .seq (.region [⟨some 12, .bin .lss (.tmp 11) (.tmp 10), none⟩]) (
    .seq (.cond (.tmp 12) (
      .skip) (
      .exit 0)) (
    .seq (.block 1 (
      .seq (.region [⟨some 13, .iadr (.tmp 9) (.tmp 11) 1, none⟩,
         ⟨some 14, .load1 (.tmp 13), none⟩,
         ⟨some 5, .mov (.tmp 14), none⟩]) (
      .seq (.region [⟨some 15, .mov (.tmp 3), none⟩,
         ⟨some 16, .mov (.tmp 5), none⟩,
         ⟨some 17, .len (.tmp 16), none⟩,
         ⟨some 18, .bin .add (.tmp 15) (.tmp 17), none⟩,
         ⟨some 3, .mov (.tmp 18), none⟩]) (
      .seq (.region [⟨some 19, .mov (.tmp 3), none⟩,
         ⟨some 20, .bin .lss (.tmp 19) (.const (.int .i64 0)), none⟩]) (
      .cond (.tmp 20) (
       .region [⟨some 21, .raw (.makeInterface 9 (.const (.string ⟨#[108, 101, 110, 32, 111, 117, 116, 32, 111, 102, 32, 114, 97, 110, 103, 101]⟩))) 20, none⟩,
         ⟨none, .raw (.panic (.tmp 21)) 0, none⟩]) (
       .skip)))))) (
    .region [⟨some 22, .bin .add (.tmp 11) (.const (.int .i64 1)), none⟩,
      ⟨some 11, .mov (.tmp 22), none⟩]))))))) (
 .seq (.region [⟨some 23, .mov (.tmp 3), none⟩,
    ⟨some 24, .call (.func 67) [(.const (.slice none 0 0)), (.tmp 23)], none⟩,
    ⟨some 6, .mov (.tmp 24), none⟩]) (
 .seq (.seq (.region [⟨some 25, .mov (.tmp 0), none⟩,
     ⟨some 26, .len (.tmp 25), none⟩,
     ⟨some 27, .mov (.const (.int .i64 0)), none⟩]) (
  .block 2 (
   .loop (
    .seq (.region [⟨some 28, .bin .lss (.tmp 27) (.tmp 26), none⟩]) (
    .seq (.cond (.tmp 28) (
      .skip) (
      .exit 2)) (
    .seq (.block 3 (
      .seq (.region [⟨some 29, .iadr (.tmp 25) (.tmp 27) 1, none⟩,
         ⟨some 30, .load1 (.tmp 29), none⟩,
         ⟨some 8, .mov (.tmp 30), none⟩]) (
      .region [⟨some 31, .mov (.tmp 6), none⟩,
        ⟨some 32, .mov (.tmp 8), none⟩,
        ⟨some 33, .app 3 1 8 [(.int .i64 0)] (.tmp 31) (.tmp 32), none⟩,
        ⟨some 6, .mov (.tmp 33), none⟩]))) (
    .region [⟨some 34, .bin .add (.tmp 27) (.const (.int .i64 1)), none⟩,
      ⟨some 27, .mov (.tmp 34), none⟩]))))))) (
 .seq (.region [⟨some 35, .mov (.tmp 6), none⟩,
    ⟨some 2, .mov (.tmp 35), none⟩]) (
 .ret))))))
theorem Try.fx62 : FnX Try.prog 62 36 #[.tmp 2] Try.x62 :=
  ⟨Try.f62, Try.func62, by kernel_rfl, by kernel_rfl, by kernel_rfl, by kernel_rfl⟩
/-- slices.IndexFunc[[]freshet/lists.entry[int],freshet/lists.entry[int]] -/
def Try.x63 : XCode :=
 .seq (.region [⟨some 4, .mov (.const (.int .i64 0)), none⟩]) (
 .seq (.seq (.region [⟨some 6, .mov (.tmp 0), none⟩,
     ⟨some 7, .len (.tmp 6), none⟩,
     ⟨some 8, .mov (.const (.int .i64 0)), none⟩]) (
  .block 0 (
   .loop (
    .seq (.region [⟨some 9, .bin .lss (.tmp 8) (.tmp 7), none⟩]) (
    .seq (.cond (.tmp 9) (
      .skip) (
      .exit 0)) (
    .seq (.block 1 (
      .seq (.region [⟨some 10, .mov (.tmp 8), none⟩,
         ⟨some 5, .mov (.tmp 10), none⟩]) (
      .seq (.region [⟨some 11, .mov (.tmp 1), none⟩,
         ⟨some 12, .mov (.tmp 0), none⟩,
         ⟨some 13, .mov (.tmp 5), none⟩,
         ⟨some 14, .iadr (.tmp 12) (.tmp 13) 2, none⟩,
         ⟨some 15, .loadN 2 (.tmp 14), none⟩,
         ⟨some 16, .call (.tmp 11) [(.tmp 15)], none⟩]) (
      .cond (.tmp 16) (
       .seq (.region [⟨some 17, .mov (.tmp 5), none⟩,
          ⟨some 4, .mov (.tmp 17), none⟩]) (
       .ret)) (
       .skip))))) (
    .region [⟨some 18, .bin .add (.tmp 8) (.const (.int .i64 1)), none⟩,
      ⟨some 8, .mov (.tmp 18), none⟩]))))))) (
 .seq (.region [⟨some 4, .mov (.const (.int .i64 (-1))), none⟩]) (
 .ret)))
theorem Try.fx63 : FnX Try.prog 63 19 #[.tmp 4] Try.x63 :=
  ⟨Try.f63, Try.func63, by kernel_rfl, by kernel_rfl, by kernel_rfl, by kernel_rfl⟩
/-- (*freshet/lists.Due[int]).place$1 -/
def Try.x64 : XCode :=
 .seq (.region [⟨some 2, .box 93 (.tmp 0), none⟩,
    ⟨some 3, .mov (.const (.bool false)), none⟩]) (
 .seq (.region [⟨some 4, .fadr (.tmp 2) 0, none⟩,
    ⟨some 5, .load1 (.tmp 4), none⟩,
    ⟨some 6, .load1 (.tmp 1), none⟩,
    ⟨some 7, .bin .eql (.tmp 5) (.tmp 6), none⟩,
    ⟨some 3, .mov (.tmp 7), none⟩]) (
 .ret))
theorem Try.fx64 : FnX Try.prog 64 8 #[.tmp 3] Try.x64 :=
  ⟨Try.f64, Try.func64, by kernel_rfl, by kernel_rfl, by kernel_rfl, by kernel_rfl⟩
/-- slices.stableCmpFunc[freshet/lists.entry[int]] -/
def Try.x65 : XCode :=
 .seq (.region [⟨some 6, .mov (.const (.int .i64 20)), none⟩]) (
 .seq (.region [⟨some 10, .mov (.tmp 6), none⟩,
    ⟨some 7, .mov (.const (.int .i64 0)), none⟩,
    ⟨some 8, .mov (.tmp 10), none⟩]) (
 .seq (.block 0 (
   .loop (
    .seq (.seq (.region [⟨some 11, .mov (.tmp 8), none⟩,
        ⟨some 12, .mov (.tmp 1), none⟩,
        ⟨some 13, .bin .leq (.tmp 11) (.tmp 12), none⟩]) (
     .cond (.tmp 13) (
      .skip) (
      .exit 0))) (
    .block 1 (
     .seq (.region [⟨some 14, .mov (.tmp 0), none⟩,
        ⟨some 15, .mov (.tmp 7), none⟩,
        ⟨some 16, .mov (.tmp 8), none⟩,
        ⟨some 17, .mov (.tmp 2), none⟩,
        ⟨some 18, .call (.func 68) [(.tmp 14), (.tmp 15), (.tmp 16), (.tmp 17)], none⟩]) (
     .seq (.region [⟨some 19, .mov (.tmp 8), none⟩,
        ⟨some 7, .mov (.tmp 19), none⟩]) (
     .region [⟨some 20, .mov (.tmp 8), none⟩,
       ⟨some 21, .mov (.tmp 6), none⟩,
       ⟨some 22, .bin .add (.tmp 20) (.tmp 21), none⟩,
       ⟨some 8, .mov (.tmp 22), none⟩]))))))) (
 .seq (.region [⟨some 23, .mov (.tmp 0), none⟩,
    ⟨some 24, .mov (.tmp 7), none⟩,
    ⟨some 25, .mov (.tmp 1), none⟩,
    ⟨some 26, .mov (.tmp 2), none⟩,
    ⟨some 27, .call (.func 68) [(.tmp 23), (.tmp 24), (.tmp 25), (.tmp 26)], none⟩]) (
 .block 2 (
  .loop (
   .seq (.seq (.region [⟨some 28, .mov (.tmp 6), none⟩,
       ⟨some 29, .mov (.tmp 1), none⟩,
       ⟨some 30, .bin .lss (.tmp 28) (.tmp 29), none⟩]) (
    .cond (.tmp 30) (
     .skip) (
     .exit 2))) (
   .block 3 (
    .seq (.region [⟨some 31, .mov (.tmp 6), none⟩,
       ⟨some 32, .bin .mul (.const (.int .i64 2)) (.tmp 31), none⟩,
       ⟨some 7, .mov (.const (.int .i64 0)), none⟩,
       ⟨some 8, .mov (.tmp 32), none⟩]) (
    .seq (.block 4 (
      .loop (
       .seq (.seq (.region [⟨some 33, .mov (.tmp 8), none⟩,
           ⟨some 34, .mov (.tmp 1), none⟩,
           ⟨some 35, .bin .leq (.tmp 33) (.tmp 34), none⟩]) (
        .cond (.tmp 35) (
         .skip) (
         .exit 4))) (
       .block 5 (
        .seq (.region [⟨some 36, .mov (.tmp 0), none⟩,
           ⟨some 37, .mov (.tmp 7), none⟩,
           ⟨some 38, .mov (.tmp 7), none⟩,
           ⟨some 39, .mov (.tmp 6), none⟩,
           ⟨some 40, .bin .add (.tmp 38) (.tmp 39), none⟩,
           ⟨some 41, .mov (.tmp 8), none⟩,
           ⟨some 42, .mov (.tmp 2), none⟩,
           ⟨some 43, .call (.func 69) [(.tmp 36), (.tmp 37), (.tmp 40), (.tmp 41), (.tmp 42)], none⟩]) (
        .seq (.region [⟨some 44, .mov (.tmp 8), none⟩,
           ⟨some 7, .mov (.tmp 44), none⟩]) (
        .region [⟨some 45, .mov (.tmp 8), none⟩,
          ⟨some 46, .mov (.tmp 6), none⟩,
          ⟨some 47, .bin .mul (.const (.int .i64 2)) (.tmp 46), none⟩,
          ⟨some 48, .bin .add (.tmp 45) (.tmp 47), none⟩,
          ⟨some 8, .mov (.tmp 48), none⟩]))))))) (
    .seq (.seq (.region [⟨some 49, .mov (.tmp 7), none⟩,
        ⟨some 50, .mov (.tmp 6), none⟩,
        ⟨some 51, .bin .add (.tmp 49) (.tmp 50), none⟩,
        ⟨some 9, .mov (.tmp 51), none⟩]) (
     .seq (.region [⟨some 52, .mov (.tmp 9), none⟩,
        ⟨some 53, .mov (.tmp 1), none⟩,
        ⟨some 54, .bin .lss (.tmp 52) (.tmp 53), none⟩]) (
     .cond (.tmp 54) (
      .region [⟨some 55, .mov (.tmp 0), none⟩,
        ⟨some 56, .mov (.tmp 7), none⟩,
        ⟨some 57, .mov (.tmp 9), none⟩,
        ⟨some 58, .mov (.tmp 1), none⟩,
        ⟨some 59, .mov (.tmp 2), none⟩,
        ⟨some 60, .call (.func 69) [(.tmp 55), (.tmp 56), (.tmp 57), (.tmp 58), (.tmp 59)], none⟩]) (
      .skip)))) (
    .region [⟨some 61, .mov (.tmp 6), none⟩,
      ⟨some 62, .bin .mul (.tmp 61) (.const (.int .i64 2)), none⟩,
      ⟨some 6, .mov (.tmp 62), none⟩])))))))))))
theorem Try.fx65 : FnX Try.prog 65 63 #[] Try.x65 :=
  ⟨Try.f65, Try.func65, by kernel_rfl, by kernel_rfl, by kernel_rfl, by kernel_rfl⟩
/-- cmp.isNaN[int] -/
def Try.x66 : XCode :=
 .seq (.region [⟨some 2, .mov (.const (.bool false)), none⟩]) (
 .seq (.region [⟨some 3, .mov (.tmp 0), none⟩,
    ⟨some 4, .mov (.tmp 0), none⟩,
    ⟨some 5, .bin .neq (.tmp 3) (.tmp 4), none⟩,
    ⟨some 2, .mov (.tmp 5), none⟩]) (
 .ret))
theorem Try.fx66 : FnX Try.prog 66 6 #[.tmp 2] Try.x66 :=
  ⟨Try.f66, Try.func66, by kernel_rfl, by kernel_rfl, by kernel_rfl, by kernel_rfl⟩
/-- slices.Grow[[]int,int] -/
def Try.x67 : XCode :=
 .seq (.region [⟨some 4, .mov (.const (.slice none 0 0)), none⟩]) (
 .seq (.seq (.region [⟨some 5, .mov (.tmp 1), none⟩,
     ⟨some 6, .bin .lss (.tmp 5) (.const (.int .i64 0)), none⟩]) (
  .cond (.tmp 6) (
   .region [⟨some 7, .raw (.makeInterface 9 (.const (.string ⟨#[99, 97, 110, 110, 111, 116, 32, 98, 101, 32, 110, 101, 103, 97, 116, 105, 118, 101]⟩))) 20, none⟩,
     ⟨none, .raw (.panic (.tmp 7)) 0, none⟩]) (
   .skip))) (
 .seq (.seq (.region [⟨some 8, .mov (.tmp 1), none⟩,
     ⟨some 9, .mov (.tmp 0), none⟩,
     ⟨some 10, .cap (.tmp 9), none⟩,
     ⟨some 11, .mov (.tmp 0), none⟩,
     ⟨some 12, .len (.tmp 11), none⟩,
     ⟨some 13, .bin .sub (.tmp 10) (.tmp 12), none⟩,
     ⟨some 14, .bin .sub (.tmp 8) (.tmp 13), none⟩,
     ⟨some 1, .mov (.tmp 14), none⟩]) (
  .seq (.region [⟨some 15, .mov (.tmp 1), none⟩,
     ⟨some 16, .bin .gtr (.tmp 15) (.const (.int .i64 0)), none⟩]) (
  .cond (.tmp 16) (
   .region [⟨some 17, .mov (.tmp 0), none⟩,
     ⟨some 18, .mov (.tmp 0), none⟩,
     ⟨some 19, .cap (.tmp 18), none⟩,
     ⟨some 20, .slc 1 (.tmp 17) none (some (.tmp 19)) none, none⟩,
     ⟨some 21, .mov (.tmp 1), none⟩,
     ⟨some 22, .raw (.call ⟨.builtin .append, #[(.tmp 20), (.tmp 21)], #[40, 3]⟩) 40, none⟩,
     ⟨some 23, .mov (.tmp 0), none⟩,
     ⟨some 24, .len (.tmp 23), none⟩,
     ⟨some 25, .slc 1 (.tmp 22) none (some (.tmp 24)) none, none⟩,
     ⟨some 0, .mov (.tmp 25), none⟩]) (
   .skip)))) (
 .seq (.region [⟨some 26, .mov (.tmp 0), none⟩,
    ⟨some 4, .mov (.tmp 26), none⟩]) (
 .ret))))
theorem Try.fx67 : FnX Try.prog 67 27 #[.tmp 4] Try.x67 :=
  ⟨Try.f67, Try.func67, by kernel_rfl, by kernel_rfl, by kernel_rfl, by kernel_rfl⟩
/-- slices.insertionSortCmpFunc[freshet/lists.entry[int]] -/
def Try.x68 : XCode :=
 .seq (.region [⟨some 10, .mov (.tmp 1), none⟩,
    ⟨some 11, .bin .add (.tmp 10) (.const (.int .i64 1)), none⟩,
    ⟨some 8, .mov (.tmp 11), none⟩]) (
 .block 0 (
  .loop (
   .seq (.seq (.region [⟨some 12, .mov (.tmp 8), none⟩,
       ⟨some 13, .mov (.tmp 2), none⟩,
       ⟨some 14, .bin .lss (.tmp 12) (.tmp 13), none⟩]) (
    .cond (.tmp 14) (
     .skip) (
     .exit 0))) (
   .seq (.block 1 (
     .seq (.region [⟨some 17, .mov (.tmp 8), none⟩,
        ⟨some 9, .mov (.tmp 17), none⟩]) (
     .block 2 (
      .loop (
       .seq (.seq (.draw (
          .q ⟨some 18, .mov (.tmp 9), none⟩ (
          .q ⟨some 19, .mov (.tmp 1), none⟩ (
          .q ⟨some 20, .bin .gtr (.tmp 18) (.tmp 19), none⟩ (
          .q ⟨some 21, .mov (.tmp 20), none⟩ (
          .q ⟨some 22, .mov (.tmp 3), some (21, true)⟩ (
          .q ⟨some 23, .mov (.tmp 0), some (21, true)⟩ (
          .q ⟨some 24, .mov (.tmp 9), some (21, true)⟩ (
          .q ⟨some 25, .iadr (.tmp 23) (.tmp 24) 2, some (21, true)⟩ (
          .q ⟨some 26, .loadN 2 (.tmp 25), some (21, true)⟩ (
          .q ⟨some 27, .mov (.tmp 0), some (21, true)⟩ (
          .q ⟨some 28, .mov (.tmp 9), some (21, true)⟩ (
          .q ⟨some 29, .bin .sub (.tmp 28) (.const (.int .i64 1)), some (21, true)⟩ (
          .q ⟨some 30, .iadr (.tmp 27) (.tmp 29) 2, some (21, true)⟩ (
          .q ⟨some 31, .loadN 2 (.tmp 30), some (21, true)⟩ (
          .alt ⟨some 32, .call (.tmp 22) [(.tmp 26), (.tmp 31)], some (21, true)⟩ false (
           .q ⟨some 33, .bin .lss (.tmp 32) (.const (.int .i64 0)), some (21, true)⟩ (
           .q ⟨some 34, .pick (.tmp 21) (.tmp 33) (.const (.bool false)), none⟩ (
           .done))) (.noalt))))))))))))))))) (
        .cond (.tmp 34) (
         .skip) (
         .exit 2))) (
       .seq (.block 3 (
         .draw (
          .q ⟨some 37, .mov (.tmp 0), none⟩ (
          .q ⟨some 38, .mov (.tmp 9), none⟩ (
          .q ⟨some 39, .mov (.tmp 0), none⟩ (
          .q ⟨some 40, .mov (.tmp 9), none⟩ (
          .q ⟨some 41, .bin .sub (.tmp 40) (.const (.int .i64 1)), none⟩ (
          .q ⟨some 42, .mov (.tmp 0), none⟩ (
          .q ⟨some 43, .mov (.tmp 9), none⟩ (
          .q ⟨some 44, .bin .sub (.tmp 43) (.const (.int .i64 1)), none⟩ (
          .q ⟨some 45, .iadr (.tmp 42) (.tmp 44) 2, none⟩ (
          .q ⟨some 46, .loadN 2 (.tmp 45), none⟩ (
          .q ⟨some 47, .mov (.tmp 0), none⟩ (
          .q ⟨some 48, .mov (.tmp 9), none⟩ (
          .q ⟨some 49, .iadr (.tmp 47) (.tmp 48) 2, none⟩ (
          .q ⟨some 50, .loadN 2 (.tmp 49), none⟩ (
          .q ⟨some 51, .iadr (.tmp 37) (.tmp 38) 2, none⟩ (
          .alt ⟨none, .store 2 (.tmp 51) (.tmp 46), none⟩ false (
           .q ⟨some 52, .iadr (.tmp 39) (.tmp 41) 2, none⟩ (
           .alt ⟨none, .store 2 (.tmp 52) (.tmp 50), none⟩ false (
            .done) (.noalt))) (.noalt))))))))))))))))))) (
       .region [⟨some 35, .mov (.tmp 9), none⟩,
         ⟨some 36, .bin .sub (.tmp 35) (.const (.int .i64 1)), none⟩,
         ⟨some 9, .mov (.tmp 36), none⟩]))))))) (
   .region [⟨some 15, .mov (.tmp 8), none⟩,
     ⟨some 16, .bin .add (.tmp 15) (.const (.int .i64 1)), none⟩,
     ⟨some 8, .mov (.tmp 16), none⟩])))))
theorem Try.fx68 : FnX Try.prog 68 53 #[] Try.x68 :=
  ⟨Try.f68, Try.func68, by kernel_rfl, by kernel_rfl, by kernel_rfl, by kernel_rfl⟩
/-- slices.symMergeCmpFunc[freshet/lists.entry[int]] -/
def Try.x69 : XCode :=
 .seq (.seq (.region [⟨some 25, .mov (.tmp 2), none⟩,
     ⟨some 26, .mov (.tmp 1), none⟩,
     ⟨some 27, .bin .sub (.tmp 25) (.tmp 26), none⟩,
     ⟨some 28, .bin .eql (.tmp 27) (.const (.int .i64 1)), none⟩]) (
  .cond (.tmp 28) (
   .seq (.region [⟨some 29, .mov (.tmp 2), none⟩,
      ⟨some 10, .mov (.tmp 29), none⟩]) (
   .seq (.region [⟨some 30, .mov (.tmp 3), none⟩,
      ⟨some 11, .mov (.tmp 30), none⟩]) (
   .seq (.block 0 (
     .loop (
      .seq (.seq (.region [⟨some 31, .mov (.tmp 10), none⟩,
          ⟨some 32, .mov (.tmp 11), none⟩,
          ⟨some 33, .bin .lss (.tmp 31) (.tmp 32), none⟩]) (
       .cond (.tmp 33) (
        .skip) (
        .exit 0))) (
      .block 1 (
       .seq (.region [⟨some 34, .mov (.tmp 10), none⟩,
          ⟨some 35, .mov (.tmp 11), none⟩,
          ⟨some 36, .bin .add (.tmp 34) (.tmp 35), none⟩,
          ⟨some 37, .conv .u64 (.tmp 36), none⟩,
          ⟨some 38, .bin .shr (.tmp 37) (.const (.int .u64 1)), none⟩,
          ⟨some 39, .conv .i64 (.tmp 38), none⟩,
          ⟨some 12, .mov (.tmp 39), none⟩]) (
       .seq (.draw (
         .q ⟨some 40, .mov (.tmp 4), none⟩ (
         .q ⟨some 41, .mov (.tmp 0), none⟩ (
         .q ⟨some 42, .mov (.tmp 12), none⟩ (
         .q ⟨some 43, .iadr (.tmp 41) (.tmp 42) 2, none⟩ (
         .q ⟨some 44, .loadN 2 (.tmp 43), none⟩ (
         .q ⟨some 45, .mov (.tmp 0), none⟩ (
         .q ⟨some 46, .mov (.tmp 1), none⟩ (
         .q ⟨some 47, .iadr (.tmp 45) (.tmp 46) 2, none⟩ (
         .q ⟨some 48, .loadN 2 (.tmp 47), none⟩ (
         .alt ⟨some 49, .call (.tmp 40) [(.tmp 44), (.tmp 48)], none⟩ false (
          .q ⟨some 50, .bin .lss (.tmp 49) (.const (.int .i64 0)), none⟩ (
          .done)) (.noalt)))))))))))) (
       .cond (.tmp 50) (
        .region [⟨some 51, .mov (.tmp 12), none⟩,
          ⟨some 52, .bin .add (.tmp 51) (.const (.int .i64 1)), none⟩,
          ⟨some 10, .mov (.tmp 52), none⟩]) (
        .region [⟨some 53, .mov (.tmp 12), none⟩,
          ⟨some 11, .mov (.tmp 53), none⟩])))))))) (
   .seq (.seq (.region [⟨some 54, .mov (.tmp 1), none⟩,
       ⟨some 13, .mov (.tmp 54), none⟩]) (
    .block 2 (
     .loop (
      .seq (.seq (.region [⟨some 55, .mov (.tmp 13), none⟩,
          ⟨some 56, .mov (.tmp 10), none⟩,
          ⟨some 57, .bin .sub (.tmp 56) (.const (.int .i64 1)), none⟩,
          ⟨some 58, .bin .lss (.tmp 55) (.tmp 57), none⟩]) (
       .cond (.tmp 58) (
        .skip) (
        .exit 2))) (
      .seq (.block 3 (
        .draw (
         .q ⟨some 61, .mov (.tmp 0), none⟩ (
         .q ⟨some 62, .mov (.tmp 13), none⟩ (
         .q ⟨some 63, .mov (.tmp 0), none⟩ (
         .q ⟨some 64, .mov (.tmp 13), none⟩ (
         .q ⟨some 65, .bin .add (.tmp 64) (.const (.int .i64 1)), none⟩ (
         .q ⟨some 66, .mov (.tmp 0), none⟩ (
         .q ⟨some 67, .mov (.tmp 13), none⟩ (
         .q ⟨some 68, .bin .add (.tmp 67) (.const (.int .i64 1)), none⟩ (
         .q ⟨some 69, .iadr (.tmp 66) (.tmp 68) 2, none⟩ (
         .q ⟨some 70, .loadN 2 (.tmp 69), none⟩ (
         .q ⟨some 71, .mov (.tmp 0), none⟩ (
         .q ⟨some 72, .mov (.tmp 13), none⟩ (
         .q ⟨some 73, .iadr (.tmp 71) (.tmp 72) 2, none⟩ (
         .q ⟨some 74, .loadN 2 (.tmp 73), none⟩ (
         .q ⟨some 75, .iadr (.tmp 61) (.tmp 62) 2, none⟩ (
         .alt ⟨none, .store 2 (.tmp 75) (.tmp 70), none⟩ false (
          .q ⟨some 76, .iadr (.tmp 63) (.tmp 65) 2, none⟩ (
          .alt ⟨none, .store 2 (.tmp 76) (.tmp 74), none⟩ false (
           .done) (.noalt))) (.noalt))))))))))))))))))) (
      .region [⟨some 59, .mov (.tmp 13), none⟩,
        ⟨some 60, .bin .add (.tmp 59) (.const (.int .i64 1)), none⟩,
        ⟨some 13, .mov (.tmp 60), none⟩])))))) (
   .ret))))) (
   .skip))) (
 .seq (.seq (.region [⟨some 77, .mov (.tmp 3), none⟩,
     ⟨some 78, .mov (.tmp 2), none⟩,
     ⟨some 79, .bin .sub (.tmp 77) (.tmp 78), none⟩,
     ⟨some 80, .bin .eql (.tmp 79) (.const (.int .i64 1)), none⟩]) (
  .cond (.tmp 80) (
   .seq (.region [⟨some 81, .mov (.tmp 1), none⟩,
      ⟨some 14, .mov (.tmp 81), none⟩]) (
   .seq (.region [⟨some 82, .mov (.tmp 2), none⟩,
      ⟨some 15, .mov (.tmp 82), none⟩]) (
   .seq (.block 4 (
     .loop (
      .seq (.seq (.region [⟨some 83, .mov (.tmp 14), none⟩,
          ⟨some 84, .mov (.tmp 15), none⟩,
          ⟨some 85, .bin .lss (.tmp 83) (.tmp 84), none⟩]) (
       .cond (.tmp 85) (
        .skip) (
        .exit 4))) (
      .block 5 (
       .seq (.region [⟨some 86, .mov (.tmp 14), none⟩,
          ⟨some 87, .mov (.tmp 15), none⟩,
          ⟨some 88, .bin .add (.tmp 86) (.tmp 87), none⟩,
          ⟨some 89, .conv .u64 (.tmp 88), none⟩,
          ⟨some 90, .bin .shr (.tmp 89) (.const (.int .u64 1)), none⟩,
          ⟨some 91, .conv .i64 (.tmp 90), none⟩,
          ⟨some 16, .mov (.tmp 91), none⟩]) (
       .seq (.draw (
         .q ⟨some 92, .mov (.tmp 4), none⟩ (
         .q ⟨some 93, .mov (.tmp 0), none⟩ (
         .q ⟨some 94, .mov (.tmp 2), none⟩ (
         .q ⟨some 95, .iadr (.tmp 93) (.tmp 94) 2, none⟩ (
         .q ⟨some 96, .loadN 2 (.tmp 95), none⟩ (
         .q ⟨some 97, .mov (.tmp 0), none⟩ (
         .q ⟨some 98, .mov (.tmp 16), none⟩ (
         .q ⟨some 99, .iadr (.tmp 97) (.tmp 98) 2, none⟩ (
         .q ⟨some 100, .loadN 2 (.tmp 99), none⟩ (
         .alt ⟨some 101, .call (.tmp 92) [(.tmp 96), (.tmp 100)], none⟩ false (
          .q ⟨some 102, .bin .lss (.tmp 101) (.const (.int .i64 0)), none⟩ (
          .q ⟨some 103, .un .not (.tmp 102), none⟩ (
          .done))) (.noalt)))))))))))) (
       .cond (.tmp 103) (
        .region [⟨some 104, .mov (.tmp 16), none⟩,
          ⟨some 105, .bin .add (.tmp 104) (.const (.int .i64 1)), none⟩,
          ⟨some 14, .mov (.tmp 105), none⟩]) (
        .region [⟨some 106, .mov (.tmp 16), none⟩,
          ⟨some 15, .mov (.tmp 106), none⟩])))))))) (
   .seq (.seq (.region [⟨some 107, .mov (.tmp 2), none⟩,
       ⟨some 17, .mov (.tmp 107), none⟩]) (
    .block 6 (
     .loop (
      .seq (.seq (.region [⟨some 108, .mov (.tmp 17), none⟩,
          ⟨some 109, .mov (.tmp 14), none⟩,
          ⟨some 110, .bin .gtr (.tmp 108) (.tmp 109), none⟩]) (
       .cond (.tmp 110) (
        .skip) (
        .exit 6))) (
      .seq (.block 7 (
        .draw (
         .q ⟨some 113, .mov (.tmp 0), none⟩ (
         .q ⟨some 114, .mov (.tmp 17), none⟩ (
         .q ⟨some 115, .mov (.tmp 0), none⟩ (
         .q ⟨some 116, .mov (.tmp 17), none⟩ (
         .q ⟨some 117, .bin .sub (.tmp 116) (.const (.int .i64 1)), none⟩ (
         .q ⟨some 118, .mov (.tmp 0), none⟩ (
         .q ⟨some 119, .mov (.tmp 17), none⟩ (
         .q ⟨some 120, .bin .sub (.tmp 119) (.const (.int .i64 1)), none⟩ (
         .q ⟨some 121, .iadr (.tmp 118) (.tmp 120) 2, none⟩ (
         .q ⟨some 122, .loadN 2 (.tmp 121), none⟩ (
         .q ⟨some 123, .mov (.tmp 0), none⟩ (
         .q ⟨some 124, .mov (.tmp 17), none⟩ (
         .q ⟨some 125, .iadr (.tmp 123) (.tmp 124) 2, none⟩ (
         .q ⟨some 126, .loadN 2 (.tmp 125), none⟩ (
         .q ⟨some 127, .iadr (.tmp 113) (.tmp 114) 2, none⟩ (
         .alt ⟨none, .store 2 (.tmp 127) (.tmp 122), none⟩ false (
          .q ⟨some 128, .iadr (.tmp 115) (.tmp 117) 2, none⟩ (
          .alt ⟨none, .store 2 (.tmp 128) (.tmp 126), none⟩ false (
           .done) (.noalt))) (.noalt))))))))))))))))))) (
      .region [⟨some 111, .mov (.tmp 17), none⟩,
        ⟨some 112, .bin .sub (.tmp 111) (.const (.int .i64 1)), none⟩,
        ⟨some 17, .mov (.tmp 112), none⟩])))))) (
   .ret))))) (
   .skip))) (
 .seq (.region [⟨some 129, .mov (.tmp 1), none⟩,
    ⟨some 130, .mov (.tmp 3), none⟩,
    ⟨some 131, .bin .add (.tmp 129) (.tmp 130), none⟩,
    ⟨some 132, .conv .u64 (.tmp 131), none⟩,
    ⟨some 133, .bin .shr (.tmp 132) (.const (.int .u64 1)), none⟩,
    ⟨some 134, .conv .i64 (.tmp 133), none⟩,
    ⟨some 18, .mov (.tmp 134), none⟩]) (
 .seq (.region [⟨some 135, .mov (.tmp 18), none⟩,
    ⟨some 136, .mov (.tmp 2), none⟩,
    ⟨some 137, .bin .add (.tmp 135) (.tmp 136), none⟩,
    ⟨some 19, .mov (.tmp 137), none⟩]) (
 .seq (.region [⟨some 20, .mov (.const (.int .i64 0)), none⟩,
    ⟨some 21, .mov (.const (.int .i64 0)), none⟩]) (
 .seq (.seq (.region [⟨some 138, .mov (.tmp 2), none⟩,
     ⟨some 139, .mov (.tmp 18), none⟩,
     ⟨some 140, .bin .gtr (.tmp 138) (.tmp 139), none⟩]) (
  .cond (.tmp 140) (
   .seq (.region [⟨some 141, .mov (.tmp 19), none⟩,
      ⟨some 142, .mov (.tmp 3), none⟩,
      ⟨some 143, .bin .sub (.tmp 141) (.tmp 142), none⟩,
      ⟨some 20, .mov (.tmp 143), none⟩]) (
   .region [⟨some 144, .mov (.tmp 18), none⟩,
     ⟨some 21, .mov (.tmp 144), none⟩])) (
   .seq (.region [⟨some 145, .mov (.tmp 1), none⟩,
      ⟨some 20, .mov (.tmp 145), none⟩]) (
   .region [⟨some 146, .mov (.tmp 2), none⟩,
     ⟨some 21, .mov (.tmp 146), none⟩])))) (
 .seq (.region [⟨some 147, .mov (.tmp 19), none⟩,
    ⟨some 148, .bin .sub (.tmp 147) (.const (.int .i64 1)), none⟩,
    ⟨some 22, .mov (.tmp 148), none⟩]) (
 .seq (.block 8 (
   .loop (
    .seq (.seq (.region [⟨some 149, .mov (.tmp 20), none⟩,
        ⟨some 150, .mov (.tmp 21), none⟩,
        ⟨some 151, .bin .lss (.tmp 149) (.tmp 150), none⟩]) (
     .cond (.tmp 151) (
      .skip) (
      .exit 8))) (
    .block 9 (
     .seq (.region [⟨some 152, .mov (.tmp 20), none⟩,
        ⟨some 153, .mov (.tmp 21), none⟩,
        ⟨some 154, .bin .add (.tmp 152) (.tmp 153), none⟩,
        ⟨some 155, .conv .u64 (.tmp 154), none⟩,
        ⟨some 156, .bin .shr (.tmp 155) (.const (.int .u64 1)), none⟩,
        ⟨some 157, .conv .i64 (.tmp 156), none⟩,
        ⟨some 23, .mov (.tmp 157), none⟩]) (
     .seq (.draw (
       .q ⟨some 158, .mov (.tmp 4), none⟩ (
       .q ⟨some 159, .mov (.tmp 0), none⟩ (
       .q ⟨some 160, .mov (.tmp 22), none⟩ (
       .q ⟨some 161, .mov (.tmp 23), none⟩ (
       .q ⟨some 162, .bin .sub (.tmp 160) (.tmp 161), none⟩ (
       .q ⟨some 163, .iadr (.tmp 159) (.tmp 162) 2, none⟩ (
       .q ⟨some 164, .loadN 2 (.tmp 163), none⟩ (
       .q ⟨some 165, .mov (.tmp 0), none⟩ (
       .q ⟨some 166, .mov (.tmp 23), none⟩ (
       .q ⟨some 167, .iadr (.tmp 165) (.tmp 166) 2, none⟩ (
       .q ⟨some 168, .loadN 2 (.tmp 167), none⟩ (
       .alt ⟨some 169, .call (.tmp 158) [(.tmp 164), (.tmp 168)], none⟩ false (
        .q ⟨some 170, .bin .lss (.tmp 169) (.const (.int .i64 0)), none⟩ (
        .q ⟨some 171, .un .not (.tmp 170), none⟩ (
        .done))) (.noalt)))))))))))))) (
     .cond (.tmp 171) (
      .region [⟨some 172, .mov (.tmp 23), none⟩,
        ⟨some 173, .bin .add (.tmp 172) (.const (.int .i64 1)), none⟩,
        ⟨some 20, .mov (.tmp 173), none⟩]) (
      .region [⟨some 174, .mov (.tmp 23), none⟩,
        ⟨some 21, .mov (.tmp 174), none⟩])))))))) (
 .seq (.region [⟨some 175, .mov (.tmp 19), none⟩,
    ⟨some 176, .mov (.tmp 20), none⟩,
    ⟨some 177, .bin .sub (.tmp 175) (.tmp 176), none⟩,
    ⟨some 24, .mov (.tmp 177), none⟩]) (
 .seq (.seq (.region [⟨some 178, .mov (.tmp 20), none⟩,
     ⟨some 179, .mov (.tmp 2), none⟩,
     ⟨some 180, .bin .lss (.tmp 178) (.tmp 179), none⟩,
     ⟨some 181, .mov (.tmp 180), none⟩,
     ⟨some 182, .mov (.tmp 2), some (181, true)⟩,
     ⟨some 183, .mov (.tmp 24), some (181, true)⟩,
     ⟨some 184, .bin .lss (.tmp 182) (.tmp 183), some (181, true)⟩,
     ⟨some 185, .pick (.tmp 181) (.tmp 184) (.const (.bool false)), none⟩]) (
  .cond (.tmp 185) (
   .region [⟨some 186, .mov (.tmp 0), none⟩,
     ⟨some 187, .mov (.tmp 20), none⟩,
     ⟨some 188, .mov (.tmp 2), none⟩,
     ⟨some 189, .mov (.tmp 24), none⟩,
     ⟨some 190, .mov (.tmp 4), none⟩,
     ⟨some 191, .call (.func 70) [(.tmp 186), (.tmp 187), (.tmp 188), (.tmp 189), (.tmp 190)], none⟩]) (
   .skip))) (
 .seq (.seq (.region [⟨some 192, .mov (.tmp 1), none⟩,
     ⟨some 193, .mov (.tmp 20), none⟩,
     ⟨some 194, .bin .lss (.tmp 192) (.tmp 193), none⟩,
     ⟨some 195, .mov (.tmp 194), none⟩,
     ⟨some 196, .mov (.tmp 20), some (195, true)⟩,
     ⟨some 197, .mov (.tmp 18), some (195, true)⟩,
     ⟨some 198, .bin .lss (.tmp 196) (.tmp 197), some (195, true)⟩,
     ⟨some 199, .pick (.tmp 195) (.tmp 198) (.const (.bool false)), none⟩]) (
  .cond (.tmp 199) (
   .region [⟨some 200, .mov (.tmp 0), none⟩,
     ⟨some 201, .mov (.tmp 1), none⟩,
     ⟨some 202, .mov (.tmp 20), none⟩,
     ⟨some 203, .mov (.tmp 18), none⟩,
     ⟨some 204, .mov (.tmp 4), none⟩,
     ⟨some 205, .call (.func 69) [(.tmp 200), (.tmp 201), (.tmp 202), (.tmp 203), (.tmp 204)], none⟩]) (
   .skip))) (
 .seq (.region [⟨some 206, .mov (.tmp 18), none⟩,
    ⟨some 207, .mov (.tmp 24), none⟩,
    ⟨some 208, .bin .lss (.tmp 206) (.tmp 207), none⟩,
    ⟨some 209, .mov (.tmp 208), none⟩,
    ⟨some 210, .mov (.tmp 24), some (209, true)⟩,
    ⟨some 211, .mov (.tmp 3), some (209, true)⟩,
    ⟨some 212, .bin .lss (.tmp 210) (.tmp 211), some (209, true)⟩,
    ⟨some 213, .pick (.tmp 209) (.tmp 212) (.const (.bool false)), none⟩]) (
 .cond (.tmp 213) (
  .region [⟨some 214, .mov (.tmp 0), none⟩,
    ⟨some 215, .mov (.tmp 18), none⟩,
    ⟨some 216, .mov (.tmp 24), none⟩,
    ⟨some 217, .mov (.tmp 3), none⟩,
    ⟨some 218, .mov (.tmp 4), none⟩,
    ⟨some 219, .call (.func 69) [(.tmp 214), (.tmp 215), (.tmp 216), (.tmp 217), (.tmp 218)], none⟩]) (
  .skip)))))))))))))
theorem Try.fx69 : FnX Try.prog 69 220 #[] Try.x69 :=
  ⟨Try.f69, Try.func69, by kernel_rfl, by kernel_rfl, by kernel_rfl, by kernel_rfl⟩
/-- slices.rotateCmpFunc[freshet/lists.entry[int]] -/
def Try.x70 : XCode :=
 .seq (.region [⟨some 12, .mov (.tmp 2), none⟩,
    ⟨some 13, .mov (.tmp 1), none⟩,
    ⟨some 14, .bin .sub (.tmp 12) (.tmp 13), none⟩,
    ⟨some 10, .mov (.tmp 14), none⟩]) (
 .seq (.region [⟨some 15, .mov (.tmp 3), none⟩,
    ⟨some 16, .mov (.tmp 2), none⟩,
    ⟨some 17, .bin .sub (.tmp 15) (.tmp 16), none⟩,
    ⟨some 11, .mov (.tmp 17), none⟩]) (
 .seq (.block 0 (
   .loop (
    .seq (.seq (.region [⟨some 18, .mov (.tmp 10), none⟩,
        ⟨some 19, .mov (.tmp 11), none⟩,
        ⟨some 20, .bin .neq (.tmp 18) (.tmp 19), none⟩]) (
     .cond (.tmp 20) (
      .skip) (
      .exit 0))) (
    .block 1 (
     .seq (.region [⟨some 21, .mov (.tmp 10), none⟩,
        ⟨some 22, .mov (.tmp 11), none⟩,
        ⟨some 23, .bin .gtr (.tmp 21) (.tmp 22), none⟩]) (
     .cond (.tmp 23) (
      .seq (.region [⟨some 24, .mov (.tmp 0), none⟩,
         ⟨some 25, .mov (.tmp 2), none⟩,
         ⟨some 26, .mov (.tmp 10), none⟩,
         ⟨some 27, .bin .sub (.tmp 25) (.tmp 26), none⟩,
         ⟨some 28, .mov (.tmp 2), none⟩,
         ⟨some 29, .mov (.tmp 11), none⟩,
         ⟨some 30, .mov (.tmp 4), none⟩,
         ⟨some 31, .call (.func 71) [(.tmp 24), (.tmp 27), (.tmp 28), (.tmp 29), (.tmp 30)], none⟩]) (
      .region [⟨some 32, .mov (.tmp 10), none⟩,
        ⟨some 33, .mov (.tmp 11), none⟩,
        ⟨some 34, .bin .sub (.tmp 32) (.tmp 33), none⟩,
        ⟨some 10, .mov (.tmp 34), none⟩])) (
      .seq (.region [⟨some 35, .mov (.tmp 0), none⟩,
         ⟨some 36, .mov (.tmp 2), none⟩,
         ⟨some 37, .mov (.tmp 10), none⟩,
         ⟨some 38, .bin .sub (.tmp 36) (.tmp 37), none⟩,
         ⟨some 39, .mov (.tmp 2), none⟩,
         ⟨some 40, .mov (.tmp 11), none⟩,
         ⟨some 41, .bin .add (.tmp 39) (.tmp 40), none⟩,
         ⟨some 42, .mov (.tmp 10), none⟩,
         ⟨some 43, .bin .sub (.tmp 41) (.tmp 42), none⟩,
         ⟨some 44, .mov (.tmp 10), none⟩,
         ⟨some 45, .mov (.tmp 4), none⟩,
         ⟨some 46, .call (.func 71) [(.tmp 35), (.tmp 38), (.tmp 43), (.tmp 44), (.tmp 45)], none⟩]) (
      .region [⟨some 47, .mov (.tmp 11), none⟩,
        ⟨some 48, .mov (.tmp 10), none⟩,
        ⟨some 49, .bin .sub (.tmp 47) (.tmp 48), none⟩,
        ⟨some 11, .mov (.tmp 49), none⟩])))))))) (
 .region [⟨some 50, .mov (.tmp 0), none⟩,
   ⟨some 51, .mov (.tmp 2), none⟩,
   ⟨some 52, .mov (.tmp 10), none⟩,
   ⟨some 53, .bin .sub (.tmp 51) (.tmp 52), none⟩,
   ⟨some 54, .mov (.tmp 2), none⟩,
   ⟨some 55, .mov (.tmp 10), none⟩,
   ⟨some 56, .mov (.tmp 4), none⟩,
   ⟨some 57, .call (.func 71) [(.tmp 50), (.tmp 53), (.tmp 54), (.tmp 55), (.tmp 56)], none⟩])))
theorem Try.fx70 : FnX Try.prog 70 58 #[] Try.x70 :=
  ⟨Try.f70, Try.func70, by kernel_rfl, by kernel_rfl, by kernel_rfl, by kernel_rfl⟩
/-- slices.swapRangeCmpFunc[freshet/lists.entry[int]] -/
def Try.x71 : XCode :=
 .seq (.region [⟨some 10, .mov (.const (.int .i64 0)), none⟩]) (
 .block 0 (
  .loop (
   .seq (.seq (.region [⟨some 11, .mov (.tmp 10), none⟩,
       ⟨some 12, .mov (.tmp 3), none⟩,
       ⟨some 13, .bin .lss (.tmp 11) (.tmp 12), none⟩]) (
    .cond (.tmp 13) (
     .skip) (
     .exit 0))) (
   .seq (.block 1 (
     .draw (
      .q ⟨some 16, .mov (.tmp 0), none⟩ (
      .q ⟨some 17, .mov (.tmp 1), none⟩ (
      .q ⟨some 18, .mov (.tmp 10), none⟩ (
      .q ⟨some 19, .bin .add (.tmp 17) (.tmp 18), none⟩ (
      .q ⟨some 20, .mov (.tmp 0), none⟩ (
      .q ⟨some 21, .mov (.tmp 2), none⟩ (
      .q ⟨some 22, .mov (.tmp 10), none⟩ (
      .q ⟨some 23, .bin .add (.tmp 21) (.tmp 22), none⟩ (
      .q ⟨some 24, .mov (.tmp 0), none⟩ (
      .q ⟨some 25, .mov (.tmp 2), none⟩ (
      .q ⟨some 26, .mov (.tmp 10), none⟩ (
      .q ⟨some 27, .bin .add (.tmp 25) (.tmp 26), none⟩ (
      .q ⟨some 28, .iadr (.tmp 24) (.tmp 27) 2, none⟩ (
      .q ⟨some 29, .loadN 2 (.tmp 28), none⟩ (
      .q ⟨some 30, .mov (.tmp 0), none⟩ (
      .q ⟨some 31, .mov (.tmp 1), none⟩ (
      .q ⟨some 32, .mov (.tmp 10), none⟩ (
      .q ⟨some 33, .bin .add (.tmp 31) (.tmp 32), none⟩ (
      .q ⟨some 34, .iadr (.tmp 30) (.tmp 33) 2, none⟩ (
      .q ⟨some 35, .loadN 2 (.tmp 34), none⟩ (
      .q ⟨some 36, .iadr (.tmp 16) (.tmp 19) 2, none⟩ (
      .alt ⟨none, .store 2 (.tmp 36) (.tmp 29), none⟩ false (
       .q ⟨some 37, .iadr (.tmp 20) (.tmp 23) 2, none⟩ (
       .alt ⟨none, .store 2 (.tmp 37) (.tmp 35), none⟩ false (
        .done) (.noalt))) (.noalt))))))))))))))))))))))))) (
   .region [⟨some 14, .mov (.tmp 10), none⟩,
     ⟨some 15, .bin .add (.tmp 14) (.const (.int .i64 1)), none⟩,
     ⟨some 10, .mov (.tmp 15), none⟩])))))
theorem Try.fx71 : FnX Try.prog 71 38 #[] Try.x71 :=
  ⟨Try.f71, Try.func71, by kernel_rfl, by kernel_rfl, by kernel_rfl, by kernel_rfl⟩
end Go.Proofs.Ytmgiamagocefcaa
