/- The compiled code of some of the program's functions, printed by a program, and that it is what the compiler of these texts makes of them. -/
import Derived.Test.YtkdbajfaaifkaaaB1
import Derived.Test.YtkdbajfaaifkaaaProg
import Derived.KernelRfl
namespace Go.Proofs.Ytkdbajfaaifkaaa
open Go.Xs
/-- freshet/freshetlaw6.ArenaCosts -/
def Try.x3 : XCode :=
 .seq (.region [⟨some 2, .mov (.const (.bool false)), none⟩]) (
 .seq (.region [⟨some 4, .mov (.tmp 0), none⟩,
    ⟨some 5, .call (.func 13) [(.tmp 4)], none⟩,
    ⟨some 3, .mov (.tmp 5), none⟩]) (
 .seq (.seq (.region [⟨some 6, .mov (.tmp 0), none⟩,
     ⟨some 7, .bin .lss (.tmp 6) (.const (.int .i64 0)), none⟩,
     ⟨some 8, .mov (.tmp 7), none⟩,
     ⟨some 9, .mov (.tmp 0), some (8, false)⟩,
     ⟨some 10, .bin .gtr (.tmp 9) (.const (.int .i64 4096)), some (8, false)⟩,
     ⟨some 11, .pick (.tmp 8) (.const (.bool true)) (.tmp 10), none⟩]) (
  .cond (.tmp 11) (
   .seq (.region [⟨some 12, .mov (.tmp 3), none⟩,
      ⟨some 13, .bin .eql (.tmp 12) (.const (.int .i64 0)), none⟩,
      ⟨some 14, .mov (.tmp 13), none⟩,
      ⟨some 15, .call (.func 14) [], some (14, true)⟩,
      ⟨some 16, .pick (.tmp 14) (.tmp 15) (.const (.bool false)), none⟩,
      ⟨some 2, .mov (.tmp 16), none⟩]) (
   .ret)) (
   .skip))) (
 .seq (.region [⟨some 17, .mov (.tmp 3), none⟩,
    ⟨some 18, .bin .geq (.tmp 17) (.const (.int .i64 16)), none⟩,
    ⟨some 19, .mov (.tmp 18), none⟩,
    ⟨some 20, .mov (.tmp 3), some (19, true)⟩,
    ⟨some 21, .mov (.tmp 3), some (19, true)⟩,
    ⟨some 22, .bin .sub (.tmp 21) (.const (.int .i64 1)), some (19, true)⟩,
    ⟨some 23, .bin .and (.tmp 20) (.tmp 22), some (19, true)⟩,
    ⟨some 24, .bin .eql (.tmp 23) (.const (.int .i64 0)), some (19, true)⟩,
    ⟨some 25, .pick (.tmp 19) (.tmp 24) (.const (.bool false)), none⟩,
    ⟨some 26, .mov (.tmp 25), none⟩,
    ⟨some 27, .mov (.tmp 3), some (26, true)⟩,
    ⟨some 28, .mov (.tmp 0), some (26, true)⟩,
    ⟨some 29, .bin .add (.tmp 28) (.const (.int .i64 8)), some (26, true)⟩,
    ⟨some 30, .bin .geq (.tmp 27) (.tmp 29), some (26, true)⟩,
    ⟨some 31, .pick (.tmp 26) (.tmp 30) (.const (.bool false)), none⟩,
    ⟨some 32, .mov (.tmp 31), none⟩,
    ⟨some 33, .mov (.tmp 3), some (32, true)⟩,
    ⟨some 34, .bin .eql (.tmp 33) (.const (.int .i64 16)), some (32, true)⟩,
    ⟨some 35, .mov (.tmp 34), some (32, true)⟩,
    ⟨some 36, .mov (.tmp 3), some (35, false)⟩,
    ⟨some 37, .bin .quo (.tmp 36) (.const (.int .i64 2)), some (35, false)⟩,
    ⟨some 38, .mov (.tmp 0), some (35, false)⟩,
    ⟨some 39, .bin .add (.tmp 38) (.const (.int .i64 8)), some (35, false)⟩,
    ⟨some 40, .bin .lss (.tmp 37) (.tmp 39), some (35, false)⟩,
    ⟨some 41, .pick (.tmp 35) (.const (.bool true)) (.tmp 40), some (32, true)⟩,
    ⟨some 42, .pick (.tmp 32) (.tmp 41) (.const (.bool false)), none⟩,
    ⟨some 43, .mov (.tmp 42), none⟩,
    ⟨some 44, .call (.func 14) [], some (43, true)⟩,
    ⟨some 45, .pick (.tmp 43) (.tmp 44) (.const (.bool false)), none⟩,
    ⟨some 2, .mov (.tmp 45), none⟩]) (
 .ret))))
theorem Try.fx3 : FnX Try.prog 3 46 #[.tmp 2] Try.x3 :=
  ⟨Try.f3, Try.func3, by kernel_rfl, by kernel_rfl, by kernel_rfl, by kernel_rfl⟩
/-- freshet/freshetlaw6.ArenaEdges -/
def Try.x4 : XCode :=
 .seq (.region [⟨some 6, .mov (.const (.bool false)), none⟩]) (
 .seq (.seq (.region [⟨some 25, .mov (.tmp 0), none⟩,
     ⟨some 26, .bin .lss (.tmp 25) (.const (.int .i64 0)), none⟩,
     ⟨some 27, .mov (.tmp 26), none⟩,
     ⟨some 28, .mov (.tmp 0), some (27, false)⟩,
     ⟨some 29, .bin .gtr (.tmp 28) (.const (.int .i64 500)), some (27, false)⟩,
     ⟨some 30, .pick (.tmp 27) (.const (.bool true)) (.tmp 29), none⟩,
     ⟨some 31, .mov (.tmp 30), none⟩,
     ⟨some 32, .mov (.tmp 2), some (31, false)⟩,
     ⟨some 33, .bin .lss (.tmp 32) (.const (.int .i64 0)), some (31, false)⟩,
     ⟨some 34, .pick (.tmp 31) (.const (.bool true)) (.tmp 33), none⟩,
     ⟨some 35, .mov (.tmp 34), none⟩,
     ⟨some 36, .mov (.tmp 2), some (35, false)⟩,
     ⟨some 37, .bin .gtr (.tmp 36) (.const (.int .i64 1000)), some (35, false)⟩,
     ⟨some 38, .pick (.tmp 35) (.const (.bool true)) (.tmp 37), none⟩]) (
  .cond (.tmp 38) (
   .seq (.region [⟨some 39, .call (.func 14) [], none⟩,
      ⟨some 6, .mov (.tmp 39), none⟩]) (
   .ret)) (
   .skip))) (
 .seq (.region [⟨some 41, .call (.func 15) [(.const (.int .i64 2048))], none⟩,
    ⟨some 40, .mov (.tmp 41), none⟩,
    ⟨some 42, .ext (.tmp 40) 0, none⟩,
    ⟨some 43, .ext (.tmp 40) 1, none⟩,
    ⟨some 7, .mov (.tmp 42), none⟩,
    ⟨some 8, .mov (.tmp 43), none⟩]) (
 .seq (.seq (.region [⟨some 44, .mov (.tmp 8), none⟩,
     ⟨some 45, .bin .neq (.tmp 44) (.const (.int .i64 0)), none⟩,
     ⟨some 46, .mov (.tmp 45), none⟩,
     ⟨some 47, .mov (.tmp 7), some (46, false)⟩,
     ⟨some 48, .eqn 0 false (.tmp 47) (.const (.pointer none)), some (46, false)⟩,
     ⟨some 49, .pick (.tmp 46) (.const (.bool true)) (.tmp 48), none⟩]) (
  .cond (.tmp 49) (
   .seq (.region [⟨some 6, .mov (.const (.bool false)), none⟩]) (
   .ret)) (
   .skip))) (
 .seq (.region [⟨some 51, .mov (.tmp 7), none⟩,
    ⟨some 52, .mov (.tmp 0), none⟩,
    ⟨some 53, .call (.func 16) [(.tmp 51), (.tmp 52)], none⟩,
    ⟨some 50, .mov (.tmp 53), none⟩,
    ⟨some 54, .ext (.tmp 50) 0, none⟩,
    ⟨some 55, .ext (.tmp 50) 1, none⟩,
    ⟨some 9, .mov (.tmp 54), none⟩,
    ⟨some 10, .mov (.tmp 55), none⟩]) (
 .seq (.region [⟨some 57, .mov (.tmp 7), none⟩,
    ⟨some 58, .call (.func 16) [(.tmp 57), (.const (.int .i64 20))], none⟩,
    ⟨some 56, .mov (.tmp 58), none⟩,
    ⟨some 59, .ext (.tmp 56) 0, none⟩,
    ⟨some 60, .ext (.tmp 56) 1, none⟩,
    ⟨some 11, .mov (.tmp 59), none⟩,
    ⟨some 12, .mov (.tmp 60), none⟩]) (
 .seq (.seq (.region [⟨some 61, .mov (.tmp 10), none⟩,
     ⟨some 62, .bin .neq (.tmp 61) (.const (.int .i64 0)), none⟩,
     ⟨some 63, .mov (.tmp 62), none⟩,
     ⟨some 64, .mov (.tmp 12), some (63, false)⟩,
     ⟨some 65, .bin .neq (.tmp 64) (.const (.int .i64 0)), some (63, false)⟩,
     ⟨some 66, .pick (.tmp 63) (.const (.bool true)) (.tmp 65), none⟩]) (
  .cond (.tmp 66) (
   .seq (.region [⟨some 6, .mov (.const (.bool false)), none⟩]) (
   .ret)) (
   .skip))) (
 .seq (.region [⟨some 67, .mov (.tmp 2), none⟩,
    ⟨some 68, .mksl 5 1 1 [(.int .u8 0)] (.tmp 67) (.tmp 67), none⟩,
    ⟨some 13, .mov (.tmp 68), none⟩]) (
 .seq (.seq (.region [⟨some 14, .mov (.const (.int .i64 0)), none⟩]) (
  .block 0 (
   .loop (
    .seq (.seq (.region [⟨some 69, .mov (.tmp 14), none⟩,
        ⟨some 70, .mov (.tmp 2), none⟩,
        ⟨some 71, .bin .lss (.tmp 69) (.tmp 70), none⟩]) (
     .cond (.tmp 71) (
      .skip) (
      .exit 0))) (
    .seq (.block 1 (
      .region [⟨some 74, .mov (.tmp 13), none⟩,
        ⟨some 75, .mov (.tmp 14), none⟩,
        ⟨some 76, .iadr (.tmp 74) (.tmp 75) 1, none⟩,
        ⟨none, .store 1 (.tmp 76) (.const (.int .u8 120)), none⟩])) (
    .region [⟨some 72, .mov (.tmp 14), none⟩,
      ⟨some 73, .bin .add (.tmp 72) (.const (.int .i64 1)), none⟩,
      ⟨some 14, .mov (.tmp 73), none⟩])))))) (
 .seq (.region [⟨some 77, .mov (.tmp 1), none⟩,
    ⟨some 78, .bin .geq (.tmp 77) (.const (.int .i64 0)), none⟩,
    ⟨some 79, .mov (.tmp 78), none⟩,
    ⟨some 80, .mov (.tmp 1), some (79, true)⟩,
    ⟨some 81, .mov (.tmp 0), some (79, true)⟩,
    ⟨some 82, .bin .leq (.tmp 80) (.tmp 81), some (79, true)⟩,
    ⟨some 83, .pick (.tmp 79) (.tmp 82) (.const (.bool false)), none⟩,
    ⟨some 84, .mov (.tmp 83), none⟩,
    ⟨some 85, .mov (.tmp 2), some (84, true)⟩,
    ⟨some 86, .mov (.tmp 0), some (84, true)⟩,
    ⟨some 87, .mov (.tmp 1), some (84, true)⟩,
    ⟨some 88, .bin .sub (.tmp 86) (.tmp 87), some (84, true)⟩,
    ⟨some 89, .bin .leq (.tmp 85) (.tmp 88), some (84, true)⟩,
    ⟨some 90, .pick (.tmp 84) (.tmp 89) (.const (.bool false)), none⟩,
    ⟨some 15, .mov (.tmp 90), none⟩]) (
 .seq (.region [⟨some 91, .mov (.tmp 7), none⟩,
    ⟨some 92, .mov (.tmp 9), none⟩,
    ⟨some 93, .mov (.tmp 1), none⟩,
    ⟨some 94, .mov (.tmp 13), none⟩,
    ⟨some 95, .call (.func 17) [(.tmp 91), (.tmp 92), (.tmp 93), (.tmp 94)], none⟩,
    ⟨some 16, .mov (.tmp 95), none⟩]) (
 .seq (.region [⟨some 97, .mov (.tmp 7), none⟩,
    ⟨some 98, .mov (.tmp 9), none⟩,
    ⟨some 99, .mov (.tmp 1), none⟩,
    ⟨some 100, .mov (.tmp 2), none⟩,
    ⟨some 101, .call (.func 18) [(.tmp 97), (.tmp 98), (.tmp 99), (.tmp 100)], none⟩,
    ⟨some 96, .mov (.tmp 101), none⟩,
    ⟨some 102, .ext (.tmp 96) 0, none⟩,
    ⟨some 103, .ext (.tmp 96) 1, none⟩,
    ⟨some 17, .mov (.tmp 102), none⟩,
    ⟨some 18, .mov (.tmp 103), none⟩]) (
 .seq (.region [⟨some 105, .mov (.tmp 7), none⟩,
    ⟨some 106, .mov (.tmp 9), none⟩,
    ⟨some 107, .mov (.tmp 0), none⟩,
    ⟨some 108, .call (.func 18) [(.tmp 105), (.tmp 106), (.const (.int .i64 0)), (.tmp 107)], none⟩,
    ⟨some 104, .mov (.tmp 108), none⟩,
    ⟨some 109, .ext (.tmp 104) 0, none⟩,
    ⟨some 110, .ext (.tmp 104) 1, none⟩,
    ⟨some 19, .mov (.tmp 109), none⟩,
    ⟨some 20, .mov (.tmp 110), none⟩]) (
 .seq (.region [⟨some 112, .mov (.tmp 7), none⟩,
    ⟨some 113, .mov (.tmp 11), none⟩,
    ⟨some 114, .call (.func 18) [(.tmp 112), (.tmp 113), (.const (.int .i64 0)), (.const (.int .i64 20))], none⟩,
    ⟨some 111, .mov (.tmp 114), none⟩,
    ⟨some 115, .ext (.tmp 111) 0, none⟩,
    ⟨some 116, .ext (.tmp 111) 1, none⟩,
    ⟨some 21, .mov (.tmp 115), none⟩,
    ⟨some 22, .mov (.tmp 116), none⟩]) (
 .seq (.seq (.draw (
    .q ⟨some 117, .mov (.tmp 16), none⟩ (
    .q ⟨some 118, .bin .eql (.tmp 117) (.const (.int .i64 0)), none⟩ (
    .q ⟨some 119, .mov (.tmp 15), none⟩ (
    .q ⟨some 120, .eqb true (.tmp 118) (.tmp 119), none⟩ (
    .q ⟨some 121, .mov (.tmp 120), none⟩ (
    .q ⟨some 122, .mov (.tmp 18), some (121, false)⟩ (
    .q ⟨some 123, .bin .eql (.tmp 122) (.const (.int .i64 0)), some (121, false)⟩ (
    .q ⟨some 124, .mov (.tmp 15), some (121, false)⟩ (
    .q ⟨some 125, .eqb true (.tmp 123) (.tmp 124), some (121, false)⟩ (
    .q ⟨some 126, .pick (.tmp 121) (.const (.bool true)) (.tmp 125), none⟩ (
    .q ⟨some 127, .mov (.tmp 126), none⟩ (
    .q ⟨some 128, .mov (.tmp 15), some (127, false)⟩ (
    .q ⟨some 129, .un .not (.tmp 128), some (127, false)⟩ (
    .q ⟨some 130, .mov (.tmp 129), some (127, false)⟩ (
    .q ⟨some 131, .mov (.tmp 16), some (130, true)⟩ (
    .q ⟨some 132, .bin .neq (.tmp 131) (.const (.int .i64 1)), some (130, true)⟩ (
    .q ⟨some 133, .mov (.tmp 132), some (130, true)⟩ (
    .q ⟨some 134, .mov (.tmp 18), some (133, false)⟩ (
    .q ⟨some 135, .bin .neq (.tmp 134) (.const (.int .i64 1)), some (133, false)⟩ (
    .q ⟨some 136, .pick (.tmp 133) (.const (.bool true)) (.tmp 135), some (130, true)⟩ (
    .q ⟨some 137, .mov (.tmp 136), some (130, true)⟩ (
    .q ⟨some 138, .mov (.tmp 17), some (137, false)⟩ (
    .q ⟨some 139, .len (.tmp 138), some (137, false)⟩ (
    .q ⟨some 140, .bin .neq (.tmp 139) (.const (.int .i64 0)), some (137, false)⟩ (
    .q ⟨some 141, .pick (.tmp 137) (.const (.bool true)) (.tmp 140), some (130, true)⟩ (
    .q ⟨some 142, .pick (.tmp 130) (.tmp 141) (.const (.bool false)), some (127, false)⟩ (
    .q ⟨some 143, .pick (.tmp 127) (.const (.bool true)) (.tmp 142), none⟩ (
    .q ⟨some 144, .mov (.tmp 143), none⟩ (
    .q ⟨some 145, .mov (.tmp 20), some (144, false)⟩ (
    .q ⟨some 146, .bin .neq (.tmp 145) (.const (.int .i64 0)), some (144, false)⟩ (
    .q ⟨some 147, .pick (.tmp 144) (.const (.bool true)) (.tmp 146), none⟩ (
    .q ⟨some 148, .mov (.tmp 147), none⟩ (
    .q ⟨some 149, .mov (.tmp 22), some (148, false)⟩ (
    .q ⟨some 150, .bin .neq (.tmp 149) (.const (.int .i64 0)), some (148, false)⟩ (
    .q ⟨some 151, .pick (.tmp 148) (.const (.bool true)) (.tmp 150), none⟩ (
    .q ⟨some 152, .mov (.tmp 151), none⟩ (
    .q ⟨some 153, .mov (.tmp 21), some (152, false)⟩ (
    .alt ⟨some 154, .b2s (.tmp 153), some (152, false)⟩ false (
     .alt ⟨some 155, .mksl 5 1 1 [(.int .u8 0)] (.const (.int .i64 20)) (.const (.int .i64 20)), some (152, false)⟩ false (
      .alt ⟨some 156, .b2s (.tmp 155), some (152, false)⟩ false (
       .q ⟨some 157, .bin .neq (.tmp 154) (.tmp 156), some (152, false)⟩ (
       .q ⟨some 158, .pick (.tmp 152) (.const (.bool true)) (.tmp 157), none⟩ (
       .q ⟨some 159, .mov (.tmp 158), none⟩ (
       .q ⟨some 160, .mov (.tmp 19), some (159, false)⟩ (
       .q ⟨some 161, .len (.tmp 160), some (159, false)⟩ (
       .q ⟨some 162, .mov (.tmp 0), some (159, false)⟩ (
       .q ⟨some 163, .bin .neq (.tmp 161) (.tmp 162), some (159, false)⟩ (
       .q ⟨some 164, .pick (.tmp 159) (.const (.bool true)) (.tmp 163), none⟩ (
       .done))))))))) (.noalt)) (.noalt)) (.alt ⟨some 155, .mksl 5 1 1 [(.int .u8 0)] (.const (.int .i64 20)) (.const (.int .i64 20)), some (152, false)⟩ false (
     .alt ⟨some 154, .b2s (.tmp 153), some (152, false)⟩ false (
      .alt ⟨some 156, .b2s (.tmp 155), some (152, false)⟩ false (
       .q ⟨some 157, .bin .neq (.tmp 154) (.tmp 156), some (152, false)⟩ (
       .q ⟨some 158, .pick (.tmp 152) (.const (.bool true)) (.tmp 157), none⟩ (
       .q ⟨some 159, .mov (.tmp 158), none⟩ (
       .q ⟨some 160, .mov (.tmp 19), some (159, false)⟩ (
       .q ⟨some 161, .len (.tmp 160), some (159, false)⟩ (
       .q ⟨some 162, .mov (.tmp 0), some (159, false)⟩ (
       .q ⟨some 163, .bin .neq (.tmp 161) (.tmp 162), some (159, false)⟩ (
       .q ⟨some 164, .pick (.tmp 159) (.const (.bool true)) (.tmp 163), none⟩ (
       .done))))))))) (.noalt)) (.alt ⟨some 156, .b2s (.tmp 155), some (152, false)⟩ false (
      .alt ⟨some 154, .b2s (.tmp 153), some (152, false)⟩ false (
       .q ⟨some 157, .bin .neq (.tmp 154) (.tmp 156), some (152, false)⟩ (
       .q ⟨some 158, .pick (.tmp 152) (.const (.bool true)) (.tmp 157), none⟩ (
       .q ⟨some 159, .mov (.tmp 158), none⟩ (
       .q ⟨some 160, .mov (.tmp 19), some (159, false)⟩ (
       .q ⟨some 161, .len (.tmp 160), some (159, false)⟩ (
       .q ⟨some 162, .mov (.tmp 0), some (159, false)⟩ (
       .q ⟨some 163, .bin .neq (.tmp 161) (.tmp 162), some (159, false)⟩ (
       .q ⟨some 164, .pick (.tmp 159) (.const (.bool true)) (.tmp 163), none⟩ (
       .done))))))))) (.noalt)) (.noalt))) (.noalt))))))))))))))))))))))))))))))))))))))))) (
  .cond (.tmp 164) (
   .seq (.region [⟨some 6, .mov (.const (.bool false)), none⟩]) (
   .ret)) (
   .skip))) (
 .seq (.seq (.region [⟨some 23, .mov (.const (.int .i64 0)), none⟩]) (
  .block 2 (
   .loop (
    .seq (.seq (.region [⟨some 165, .mov (.tmp 23), none⟩,
        ⟨some 166, .mov (.tmp 0), none⟩,
        ⟨some 167, .bin .lss (.tmp 165) (.tmp 166), none⟩]) (
     .cond (.tmp 167) (
      .skip) (
      .exit 2))) (
    .seq (.block 3 (
      .seq (.region [⟨some 24, .mov (.const (.int .u8 0)), none⟩]) (
      .seq (.seq (.region [⟨some 170, .mov (.tmp 15), none⟩,
          ⟨some 171, .mov (.tmp 170), none⟩,
          ⟨some 172, .mov (.tmp 23), some (171, true)⟩,
          ⟨some 173, .mov (.tmp 1), some (171, true)⟩,
          ⟨some 174, .bin .geq (.tmp 172) (.tmp 173), some (171, true)⟩,
          ⟨some 175, .pick (.tmp 171) (.tmp 174) (.const (.bool false)), none⟩,
          ⟨some 176, .mov (.tmp 175), none⟩,
          ⟨some 177, .mov (.tmp 23), some (176, true)⟩,
          ⟨some 178, .mov (.tmp 1), some (176, true)⟩,
          ⟨some 179, .mov (.tmp 2), some (176, true)⟩,
          ⟨some 180, .bin .add (.tmp 178) (.tmp 179), some (176, true)⟩,
          ⟨some 181, .bin .lss (.tmp 177) (.tmp 180), some (176, true)⟩,
          ⟨some 182, .pick (.tmp 176) (.tmp 181) (.const (.bool false)), none⟩]) (
       .cond (.tmp 182) (
        .region [⟨some 24, .mov (.const (.int .u8 120)), none⟩]) (
        .skip))) (
      .seq (.region [⟨some 183, .mov (.tmp 19), none⟩,
         ⟨some 184, .mov (.tmp 23), none⟩,
         ⟨some 185, .iadr (.tmp 183) (.tmp 184) 1, none⟩,
         ⟨some 186, .load1 (.tmp 185), none⟩,
         ⟨some 187, .mov (.tmp 24), none⟩,
         ⟨some 188, .bin .neq (.tmp 186) (.tmp 187), none⟩]) (
      .cond (.tmp 188) (
       .seq (.region [⟨some 6, .mov (.const (.bool false)), none⟩]) (
       .ret)) (
       .skip)))))) (
    .region [⟨some 168, .mov (.tmp 23), none⟩,
      ⟨some 169, .bin .add (.tmp 168) (.const (.int .i64 1)), none⟩,
      ⟨some 23, .mov (.tmp 169), none⟩])))))) (
 .seq (.region [⟨some 189, .mov (.tmp 15), none⟩,
    ⟨some 190, .un .not (.tmp 189), none⟩,
    ⟨some 191, .mov (.tmp 190), none⟩,
    ⟨some 192, .mov (.tmp 17), some (191, false)⟩,
    ⟨some 193, .b2s (.tmp 192), some (191, false)⟩,
    ⟨some 194, .mov (.tmp 13), some (191, false)⟩,
    ⟨some 195, .b2s (.tmp 194), some (191, false)⟩,
    ⟨some 196, .bin .eql (.tmp 193) (.tmp 195), some (191, false)⟩,
    ⟨some 197, .pick (.tmp 191) (.const (.bool true)) (.tmp 196), none⟩,
    ⟨some 198, .mov (.tmp 197), none⟩,
    ⟨some 199, .mov (.tmp 7), some (198, true)⟩,
    ⟨some 200, .call (.func 17) [(.tmp 199), (.const (.int .i64 99)), (.const (.int .i64 0)), (.const (.slice none 0 0))], some (198, true)⟩,
    ⟨some 201, .bin .eql (.tmp 200) (.const (.int .i64 5)), some (198, true)⟩,
    ⟨some 202, .pick (.tmp 198) (.tmp 201) (.const (.bool false)), none⟩,
    ⟨some 203, .mov (.tmp 202), none⟩,
    ⟨some 204, .call (.func 14) [], some (203, true)⟩,
    ⟨some 205, .pick (.tmp 203) (.tmp 204) (.const (.bool false)), none⟩,
    ⟨some 6, .mov (.tmp 205), none⟩]) (
 .ret)))))))))))))))))
theorem Try.fx4 : FnX Try.prog 4 206 #[.tmp 6] Try.x4 :=
  ⟨Try.f4, Try.func4, by kernel_rfl, by kernel_rfl, by kernel_rfl, by kernel_rfl⟩
/-- freshet/freshetlaw6.ArenaActs -/
def Try.x5 : XCode :=
 .seq (.region [⟨some 4, .mov (.const (.bool false)), none⟩]) (
 .seq (.seq (.region [⟨some 21, .mov (.tmp 1), none⟩,
     ⟨some 22, .call (.func 19) [(.tmp 21)], none⟩,
     ⟨some 23, .un .not (.tmp 22), none⟩]) (
  .cond (.tmp 23) (
   .seq (.region [⟨some 24, .call (.func 14) [], none⟩,
      ⟨some 4, .mov (.tmp 24), none⟩]) (
   .ret)) (
   .skip))) (
 .seq (.region [⟨some 26, .mov (.tmp 0), none⟩,
    ⟨some 27, .call (.func 15) [(.tmp 26)], none⟩,
    ⟨some 25, .mov (.tmp 27), none⟩,
    ⟨some 28, .ext (.tmp 25) 0, none⟩,
    ⟨some 29, .ext (.tmp 25) 1, none⟩,
    ⟨some 5, .mov (.tmp 28), none⟩,
    ⟨some 6, .mov (.tmp 29), none⟩]) (
 .seq (.seq (.region [⟨some 30, .mov (.tmp 0), none⟩,
     ⟨some 31, .call (.func 20) [(.tmp 30)], none⟩,
     ⟨some 32, .un .not (.tmp 31), none⟩]) (
  .cond (.tmp 32) (
   .seq (.region [⟨some 33, .mov (.tmp 6), none⟩,
      ⟨some 34, .bin .eql (.tmp 33) (.const (.int .i64 1)), none⟩,
      ⟨some 35, .mov (.tmp 34), none⟩,
      ⟨some 36, .mov (.tmp 5), some (35, true)⟩,
      ⟨some 37, .eqn 0 false (.tmp 36) (.const (.pointer none)), some (35, true)⟩,
      ⟨some 38, .pick (.tmp 35) (.tmp 37) (.const (.bool false)), none⟩,
      ⟨some 39, .mov (.tmp 38), none⟩,
      ⟨some 40, .call (.func 14) [], some (39, true)⟩,
      ⟨some 41, .pick (.tmp 39) (.tmp 40) (.const (.bool false)), none⟩,
      ⟨some 4, .mov (.tmp 41), none⟩]) (
   .ret)) (
   .skip))) (
 .seq (.seq (.region [⟨some 42, .mov (.tmp 6), none⟩,
     ⟨some 43, .bin .neq (.tmp 42) (.const (.int .i64 0)), none⟩,
     ⟨some 44, .mov (.tmp 43), none⟩,
     ⟨some 45, .mov (.tmp 0), some (44, false)⟩,
     ⟨some 46, .bin .gtr (.tmp 45) (.const (.int .i64 65536)), some (44, false)⟩,
     ⟨some 47, .pick (.tmp 44) (.const (.bool true)) (.tmp 46), none⟩]) (
  .cond (.tmp 47) (
   .seq (.region [⟨some 48, .mov (.tmp 6), none⟩,
      ⟨some 49, .bin .eql (.tmp 48) (.const (.int .i64 0)), none⟩,
      ⟨some 50, .mov (.tmp 49), none⟩,
      ⟨some 51, .call (.func 14) [], some (50, true)⟩,
      ⟨some 52, .pick (.tmp 50) (.tmp 51) (.const (.bool false)), none⟩,
      ⟨some 4, .mov (.tmp 52), none⟩]) (
   .ret)) (
   .skip))) (
 .seq (.region [⟨some 53, .mov (.tmp 0), none⟩,
    ⟨some 54, .build [(.int .i64 0), (.slice none 0 0)] [(0, 1, (.tmp 53))], none⟩,
    ⟨some 55, .box 41 (.tmp 54), none⟩,
    ⟨some 7, .mov (.tmp 55), none⟩]) (
 .seq (.seq (.region [⟨some 8, .mov (.const (.int .i64 0)), none⟩]) (
  .block 0 (
   .loop (
    .seq (.seq (.region [⟨some 56, .mov (.tmp 8), none⟩,
        ⟨some 57, .mov (.tmp 1), none⟩,
        ⟨some 58, .len (.tmp 57), none⟩,
        ⟨some 59, .bin .lss (.tmp 56) (.tmp 58), none⟩]) (
     .cond (.tmp 59) (
      .skip) (
      .exit 0))) (
    .seq (.block 1 (
      .seq (.region [⟨some 62, .mov (.tmp 1), none⟩,
         ⟨some 63, .mov (.tmp 8), none⟩,
         ⟨some 64, .iadr (.tmp 62) (.tmp 63) 5, none⟩,
         ⟨some 65, .loadN 5 (.tmp 64), none⟩,
         ⟨some 9, .alloc 43 [(.int .i64 0), (.int .i64 0), (.int .i64 0), (.int .i64 0), (.slice none 0 0)], none⟩,
         ⟨none, .store 5 (.tmp 9) (.tmp 65), none⟩]) (
      .seq (.seq (.region [⟨some 66, .fadr (.tmp 9) 0, none⟩,
          ⟨some 67, .load1 (.tmp 66), none⟩]) (
       .block 2 (
        .seq (.region [⟨some 69, .bin .eql (.tmp 67) (.const (.int .i64 1)), none⟩,
           ⟨some 68, .mov (.tmp 69), none⟩]) (
        .cond (.tmp 68) (
         .seq (.region [⟨some 71, .mov (.tmp 5), none⟩,
            ⟨some 72, .fadr (.tmp 9) 3, none⟩,
            ⟨some 73, .load1 (.tmp 72), none⟩,
            ⟨some 74, .call (.func 16) [(.tmp 71), (.tmp 73)], none⟩,
            ⟨some 70, .mov (.tmp 74), none⟩,
            ⟨some 75, .ext (.tmp 70) 0, none⟩,
            ⟨some 76, .ext (.tmp 70) 1, none⟩,
            ⟨some 10, .mov (.tmp 75), none⟩,
            ⟨some 11, .mov (.tmp 76), none⟩]) (
         .seq (.region [⟨some 78, .mov (.tmp 7), none⟩,
            ⟨some 79, .fadr (.tmp 9) 3, none⟩,
            ⟨some 80, .load1 (.tmp 79), none⟩,
            ⟨some 81, .call (.func 21) [(.tmp 78), (.tmp 80)], none⟩,
            ⟨some 77, .mov (.tmp 81), none⟩,
            ⟨some 82, .ext (.tmp 77) 0, none⟩,
            ⟨some 83, .ext (.tmp 77) 1, none⟩,
            ⟨some 12, .mov (.tmp 82), none⟩,
            ⟨some 13, .mov (.tmp 83), none⟩]) (
         .seq (.region [⟨some 84, .mov (.tmp 10), none⟩,
            ⟨some 85, .mov (.tmp 12), none⟩,
            ⟨some 86, .bin .neq (.tmp 84) (.tmp 85), none⟩,
            ⟨some 87, .mov (.tmp 86), none⟩,
            ⟨some 88, .mov (.tmp 11), some (87, false)⟩,
            ⟨some 89, .mov (.tmp 13), some (87, false)⟩,
            ⟨some 90, .bin .neq (.tmp 88) (.tmp 89), some (87, false)⟩,
            ⟨some 91, .pick (.tmp 87) (.const (.bool true)) (.tmp 90), none⟩]) (
         .cond (.tmp 91) (
          .seq (.region [⟨some 4, .mov (.const (.bool false)), none⟩]) (
          .ret)) (
          .skip))))) (
         .seq (.region [⟨some 93, .bin .eql (.tmp 67) (.const (.int .i64 2)), none⟩,
            ⟨some 92, .mov (.tmp 93), none⟩]) (
         .cond (.tmp 92) (
          .seq (.draw (
            .q ⟨some 94, .mov (.tmp 5), none⟩ (
            .q ⟨some 95, .fadr (.tmp 9) 1, none⟩ (
            .q ⟨some 96, .load1 (.tmp 95), none⟩ (
            .q ⟨some 98, .mov (.tmp 7), none⟩ (
            .q ⟨some 99, .fadr (.tmp 9) 1, none⟩ (
            .q ⟨some 100, .load1 (.tmp 99), none⟩ (
            .alt ⟨some 97, .call (.func 22) [(.tmp 94), (.tmp 96)], none⟩ true (
             .alt ⟨some 101, .call (.func 23) [(.tmp 98), (.tmp 100)], none⟩ false (
              .q ⟨some 102, .bin .neq (.tmp 97) (.tmp 101), none⟩ (
              .done)) (.noalt)) (.noalt))))))))) (
          .cond (.tmp 102) (
           .seq (.region [⟨some 4, .mov (.const (.bool false)), none⟩]) (
           .ret)) (
           .skip))) (
          .seq (.region [⟨some 104, .bin .eql (.tmp 67) (.const (.int .i64 3)), none⟩,
             ⟨some 103, .mov (.tmp 104), none⟩]) (
          .cond (.tmp 103) (
           .seq (.region [⟨some 106, .mov (.tmp 5), none⟩,
              ⟨some 107, .fadr (.tmp 9) 1, none⟩,
              ⟨some 108, .load1 (.tmp 107), none⟩,
              ⟨some 109, .fadr (.tmp 9) 2, none⟩,
              ⟨some 110, .load1 (.tmp 109), none⟩,
              ⟨some 111, .fadr (.tmp 9) 3, none⟩,
              ⟨some 112, .load1 (.tmp 111), none⟩,
              ⟨some 113, .call (.func 18) [(.tmp 106), (.tmp 108), (.tmp 110), (.tmp 112)], none⟩,
              ⟨some 105, .mov (.tmp 113), none⟩,
              ⟨some 114, .ext (.tmp 105) 0, none⟩,
              ⟨some 115, .ext (.tmp 105) 1, none⟩,
              ⟨some 14, .mov (.tmp 114), none⟩,
              ⟨some 15, .mov (.tmp 115), none⟩]) (
           .seq (.region [⟨some 117, .mov (.tmp 7), none⟩,
              ⟨some 118, .fadr (.tmp 9) 1, none⟩,
              ⟨some 119, .load1 (.tmp 118), none⟩,
              ⟨some 120, .fadr (.tmp 9) 2, none⟩,
              ⟨some 121, .load1 (.tmp 120), none⟩,
              ⟨some 122, .fadr (.tmp 9) 3, none⟩,
              ⟨some 123, .load1 (.tmp 122), none⟩,
              ⟨some 124, .call (.func 24) [(.tmp 117), (.tmp 119), (.tmp 121), (.tmp 123)], none⟩,
              ⟨some 116, .mov (.tmp 124), none⟩,
              ⟨some 125, .ext (.tmp 116) 0, none⟩,
              ⟨some 126, .ext (.tmp 116) 1, none⟩,
              ⟨some 16, .mov (.tmp 125), none⟩,
              ⟨some 17, .mov (.tmp 126), none⟩]) (
           .seq (.region [⟨some 127, .mov (.tmp 14), none⟩,
              ⟨some 128, .b2s (.tmp 127), none⟩,
              ⟨some 129, .mov (.tmp 16), none⟩,
              ⟨some 130, .b2s (.tmp 129), none⟩,
              ⟨some 131, .bin .neq (.tmp 128) (.tmp 130), none⟩,
              ⟨some 132, .mov (.tmp 131), none⟩,
              ⟨some 133, .mov (.tmp 15), some (132, false)⟩,
              ⟨some 134, .mov (.tmp 17), some (132, false)⟩,
              ⟨some 135, .bin .neq (.tmp 133) (.tmp 134), some (132, false)⟩,
              ⟨some 136, .pick (.tmp 132) (.const (.bool true)) (.tmp 135), none⟩]) (
           .cond (.tmp 136) (
            .seq (.region [⟨some 4, .mov (.const (.bool false)), none⟩]) (
            .ret)) (
            .skip))))) (
           .seq (.region [⟨some 138, .bin .eql (.tmp 67) (.const (.int .i64 4)), none⟩,
              ⟨some 137, .mov (.tmp 138), none⟩]) (
           .cond (.tmp 137) (
            .seq (.draw (
              .q ⟨some 139, .mov (.tmp 5), none⟩ (
              .q ⟨some 140, .fadr (.tmp 9) 1, none⟩ (
              .q ⟨some 141, .load1 (.tmp 140), none⟩ (
              .q ⟨some 142, .fadr (.tmp 9) 2, none⟩ (
              .q ⟨some 143, .load1 (.tmp 142), none⟩ (
              .q ⟨some 144, .fadr (.tmp 9) 4, none⟩ (
              .q ⟨some 145, .load1 (.tmp 144), none⟩ (
              .q ⟨some 147, .mov (.tmp 7), none⟩ (
              .q ⟨some 148, .fadr (.tmp 9) 1, none⟩ (
              .q ⟨some 149, .load1 (.tmp 148), none⟩ (
              .q ⟨some 150, .fadr (.tmp 9) 2, none⟩ (
              .q ⟨some 151, .load1 (.tmp 150), none⟩ (
              .q ⟨some 152, .fadr (.tmp 9) 4, none⟩ (
              .q ⟨some 153, .load1 (.tmp 152), none⟩ (
              .alt ⟨some 146, .call (.func 17) [(.tmp 139), (.tmp 141), (.tmp 143), (.tmp 145)], none⟩ true (
               .alt ⟨some 154, .call (.func 25) [(.tmp 147), (.tmp 149), (.tmp 151), (.tmp 153)], none⟩ false (
                .q ⟨some 155, .bin .neq (.tmp 146) (.tmp 154), none⟩ (
                .done)) (.noalt)) (.noalt))))))))))))))))) (
            .cond (.tmp 155) (
             .seq (.region [⟨some 4, .mov (.const (.bool false)), none⟩]) (
             .ret)) (
             .skip))) (
            .seq (.region [⟨some 157, .bin .eql (.tmp 67) (.const (.int .i64 5)), none⟩,
               ⟨some 156, .mov (.tmp 157), none⟩]) (
            .cond (.tmp 156) (
             .seq (.region [⟨some 158, .mov (.tmp 5), none⟩,
                ⟨some 159, .call (.func 26) [(.tmp 158)], none⟩,
                ⟨some 160, .mov (.tmp 7), none⟩,
                ⟨some 161, .call (.func 27) [(.tmp 160)], none⟩,
                ⟨some 162, .bin .neq (.tmp 159) (.tmp 161), none⟩]) (
             .cond (.tmp 162) (
              .seq (.region [⟨some 4, .mov (.const (.bool false)), none⟩]) (
              .ret)) (
              .skip))) (
             .skip))))))))))))) (
      .seq (.region [⟨some 163, .mov (.tmp 5), none⟩,
         ⟨some 164, .mov (.tmp 7), none⟩,
         ⟨some 165, .call (.func 28) [(.tmp 163), (.tmp 164)], none⟩,
         ⟨some 166, .un .not (.tmp 165), none⟩]) (
      .cond (.tmp 166) (
       .seq (.region [⟨some 4, .mov (.const (.bool false)), none⟩]) (
       .ret)) (
       .skip)))))) (
    .region [⟨some 60, .mov (.tmp 8), none⟩,
      ⟨some 61, .bin .add (.tmp 60) (.const (.int .i64 1)), none⟩,
      ⟨some 8, .mov (.tmp 61), none⟩])))))) (
 .seq (.seq (.region [⟨some 18, .mov (.const (.int .i64 0)), none⟩]) (
  .block 3 (
   .loop (
    .seq (.seq (.region [⟨some 167, .mov (.tmp 18), none⟩,
        ⟨some 168, .mov (.tmp 7), none⟩,
        ⟨some 169, .nilc (.tmp 168), none⟩,
        ⟨some 170, .fadr (.tmp 169) 1, none⟩,
        ⟨some 171, .load1 (.tmp 170), none⟩,
        ⟨some 172, .len (.tmp 171), none⟩,
        ⟨some 173, .bin .lss (.tmp 167) (.tmp 172), none⟩]) (
     .cond (.tmp 173) (
      .skip) (
      .exit 3))) (
    .seq (.block 4 (
      .seq (.draw (
        .q ⟨some 177, .mov (.tmp 5), none⟩ (
        .q ⟨some 178, .mov (.tmp 7), none⟩ (
        .q ⟨some 179, .nilc (.tmp 178), none⟩ (
        .q ⟨some 180, .fadr (.tmp 179) 1, none⟩ (
        .q ⟨some 181, .load1 (.tmp 180), none⟩ (
        .q ⟨some 182, .mov (.tmp 18), none⟩ (
        .q ⟨some 183, .iadr (.tmp 181) (.tmp 182) 2, none⟩ (
        .q ⟨some 184, .fadr (.tmp 183) 0, none⟩ (
        .q ⟨some 185, .load1 (.tmp 184), none⟩ (
        .q ⟨some 186, .mov (.tmp 7), none⟩ (
        .q ⟨some 187, .nilc (.tmp 186), none⟩ (
        .q ⟨some 188, .fadr (.tmp 187) 1, none⟩ (
        .q ⟨some 189, .load1 (.tmp 188), none⟩ (
        .q ⟨some 190, .mov (.tmp 18), none⟩ (
        .q ⟨some 191, .iadr (.tmp 189) (.tmp 190) 2, none⟩ (
        .q ⟨some 192, .fadr (.tmp 191) 1, none⟩ (
        .q ⟨some 193, .load1 (.tmp 192), none⟩ (
        .q ⟨some 194, .len (.tmp 193), none⟩ (
        .alt ⟨some 195, .call (.func 18) [(.tmp 177), (.tmp 185), (.const (.int .i64 0)), (.tmp 194)], none⟩ false (
         .q ⟨some 176, .mov (.tmp 195), none⟩ (
         .q ⟨some 196, .ext (.tmp 176) 0, none⟩ (
         .q ⟨some 197, .ext (.tmp 176) 1, none⟩ (
         .q ⟨some 19, .mov (.tmp 196), none⟩ (
         .q ⟨some 20, .mov (.tmp 197), none⟩ (
         .done)))))) (.noalt))))))))))))))))))))) (
      .seq (.draw (
        .q ⟨some 198, .mov (.tmp 20), none⟩ (
        .q ⟨some 199, .bin .neq (.tmp 198) (.const (.int .i64 0)), none⟩ (
        .q ⟨some 200, .mov (.tmp 199), none⟩ (
        .q ⟨some 201, .mov (.tmp 19), some (200, false)⟩ (
        .q ⟨some 203, .mov (.tmp 7), some (200, false)⟩ (
        .q ⟨some 204, .nilc (.tmp 203), some (200, false)⟩ (
        .q ⟨some 205, .fadr (.tmp 204) 1, some (200, false)⟩ (
        .q ⟨some 206, .load1 (.tmp 205), some (200, false)⟩ (
        .q ⟨some 207, .mov (.tmp 18), some (200, false)⟩ (
        .q ⟨some 208, .iadr (.tmp 206) (.tmp 207) 2, some (200, false)⟩ (
        .q ⟨some 209, .fadr (.tmp 208) 1, some (200, false)⟩ (
        .q ⟨some 210, .load1 (.tmp 209), some (200, false)⟩ (
        .alt ⟨some 202, .b2s (.tmp 201), some (200, false)⟩ true (
         .alt ⟨some 211, .b2s (.tmp 210), some (200, false)⟩ false (
          .q ⟨some 212, .bin .neq (.tmp 202) (.tmp 211), some (200, false)⟩ (
          .q ⟨some 213, .pick (.tmp 200) (.const (.bool true)) (.tmp 212), none⟩ (
          .done))) (.noalt)) (.alt ⟨some 211, .b2s (.tmp 210), some (200, false)⟩ false (
         .alt ⟨some 202, .b2s (.tmp 201), some (200, false)⟩ true (
          .q ⟨some 212, .bin .neq (.tmp 202) (.tmp 211), some (200, false)⟩ (
          .q ⟨some 213, .pick (.tmp 200) (.const (.bool true)) (.tmp 212), none⟩ (
          .done))) (.noalt)) (.noalt)))))))))))))))) (
      .cond (.tmp 213) (
       .seq (.region [⟨some 4, .mov (.const (.bool false)), none⟩]) (
       .ret)) (
       .skip))))) (
    .region [⟨some 174, .mov (.tmp 18), none⟩,
      ⟨some 175, .bin .add (.tmp 174) (.const (.int .i64 1)), none⟩,
      ⟨some 18, .mov (.tmp 175), none⟩])))))) (
 .seq (.region [⟨some 214, .call (.func 14) [], none⟩,
    ⟨some 4, .mov (.tmp 214), none⟩]) (
 .ret)))))))))
theorem Try.fx5 : FnX Try.prog 5 215 #[.tmp 4] Try.x5 :=
  ⟨Try.f5, Try.func5, by kernel_rfl, by kernel_rfl, by kernel_rfl, by kernel_rfl⟩
/-- freshet/freshetlaw6.ArenaMoves -/
def Try.x6 : XCode :=
 .seq (.region [⟨some 6, .mov (.const (.bool false)), none⟩]) (
 .seq (.seq (.region [⟨some 28, .mov (.tmp 0), none⟩,
     ⟨some 29, .len (.tmp 28), none⟩,
     ⟨some 30, .bin .gtr (.tmp 29) (.const (.int .i64 60)), none⟩,
     ⟨some 31, .mov (.tmp 30), none⟩,
     ⟨some 32, .mov (.tmp 1), some (31, false)⟩,
     ⟨some 33, .len (.tmp 32), some (31, false)⟩,
     ⟨some 34, .bin .gtr (.tmp 33) (.const (.int .i64 80)), some (31, false)⟩,
     ⟨some 35, .pick (.tmp 31) (.const (.bool true)) (.tmp 34), none⟩]) (
  .cond (.tmp 35) (
   .seq (.region [⟨some 36, .call (.func 14) [], none⟩,
      ⟨some 6, .mov (.tmp 36), none⟩]) (
   .ret)) (
   .skip))) (
 .seq (.region [⟨some 38, .call (.func 15) [(.const (.int .i64 2048))], none⟩,
    ⟨some 37, .mov (.tmp 38), none⟩,
    ⟨some 39, .ext (.tmp 37) 0, none⟩,
    ⟨some 40, .ext (.tmp 37) 1, none⟩,
    ⟨some 7, .mov (.tmp 39), none⟩,
    ⟨some 8, .mov (.tmp 40), none⟩]) (
 .seq (.seq (.region [⟨some 41, .mov (.tmp 8), none⟩,
     ⟨some 42, .bin .neq (.tmp 41) (.const (.int .i64 0)), none⟩,
     ⟨some 43, .mov (.tmp 42), none⟩,
     ⟨some 44, .mov (.tmp 7), some (43, false)⟩,
     ⟨some 45, .eqn 0 false (.tmp 44) (.const (.pointer none)), some (43, false)⟩,
     ⟨some 46, .pick (.tmp 43) (.const (.bool true)) (.tmp 45), none⟩]) (
  .cond (.tmp 46) (
   .seq (.region [⟨some 6, .mov (.const (.bool false)), none⟩]) (
   .ret)) (
   .skip))) (
 .seq (.region [⟨some 9, .mov (.const (.slice none 0 0)), none⟩,
    ⟨some 10, .mov (.const (.slice none 0 0)), none⟩]) (
 .seq (.seq (.region [⟨some 11, .mov (.const (.int .i64 0)), none⟩]) (
  .block 0 (
   .loop (
    .seq (.seq (.region [⟨some 47, .mov (.tmp 11), none⟩,
        ⟨some 48, .mov (.tmp 0), none⟩,
        ⟨some 49, .len (.tmp 48), none⟩,
        ⟨some 50, .bin .lss (.tmp 47) (.tmp 49), none⟩]) (
     .cond (.tmp 50) (
      .skip) (
      .exit 0))) (
    .seq (.block 1 (
      .seq (.region [⟨some 53, .mov (.tmp 0), none⟩,
         ⟨some 54, .mov (.tmp 11), none⟩,
         ⟨some 55, .iadr (.tmp 53) (.tmp 54) 1, none⟩,
         ⟨some 56, .load1 (.tmp 55), none⟩,
         ⟨some 57, .call (.func 29) [(.tmp 56), (.const (.int .i64 120))], none⟩,
         ⟨some 12, .mov (.tmp 57), none⟩]) (
      .seq (.region [⟨some 59, .mov (.tmp 7), none⟩,
         ⟨some 60, .mov (.tmp 12), none⟩,
         ⟨some 61, .call (.func 16) [(.tmp 59), (.tmp 60)], none⟩,
         ⟨some 58, .mov (.tmp 61), none⟩,
         ⟨some 62, .ext (.tmp 58) 0, none⟩,
         ⟨some 63, .ext (.tmp 58) 1, none⟩,
         ⟨some 13, .mov (.tmp 62), none⟩,
         ⟨some 14, .mov (.tmp 63), none⟩]) (
      .seq (.seq (.region [⟨some 64, .mov (.tmp 14), none⟩,
          ⟨some 65, .bin .neq (.tmp 64) (.const (.int .i64 0)), none⟩]) (
       .cond (.tmp 65) (
        .exit 0) (
        .skip))) (
      .seq (.region [⟨some 66, .mov (.tmp 12), none⟩,
         ⟨some 67, .mksl 5 1 1 [(.int .u8 0)] (.tmp 66) (.tmp 66), none⟩,
         ⟨some 15, .mov (.tmp 67), none⟩]) (
      .seq (.seq (.region [⟨some 16, .mov (.const (.int .i64 0)), none⟩]) (
       .block 2 (
        .loop (
         .seq (.seq (.region [⟨some 68, .mov (.tmp 16), none⟩,
             ⟨some 69, .mov (.tmp 12), none⟩,
             ⟨some 70, .bin .lss (.tmp 68) (.tmp 69), none⟩]) (
          .cond (.tmp 70) (
           .skip) (
           .exit 2))) (
         .seq (.block 3 (
           .region [⟨some 73, .mov (.tmp 15), none⟩,
             ⟨some 74, .mov (.tmp 16), none⟩,
             ⟨some 75, .mov (.tmp 11), none⟩,
             ⟨some 76, .bin .add (.const (.int .i64 97)) (.tmp 75), none⟩,
             ⟨some 77, .conv .u8 (.tmp 76), none⟩,
             ⟨some 78, .iadr (.tmp 73) (.tmp 74) 1, none⟩,
             ⟨none, .store 1 (.tmp 78) (.tmp 77), none⟩])) (
         .region [⟨some 71, .mov (.tmp 16), none⟩,
           ⟨some 72, .bin .add (.tmp 71) (.const (.int .i64 1)), none⟩,
           ⟨some 16, .mov (.tmp 72), none⟩])))))) (
      .seq (.seq (.region [⟨some 79, .mov (.tmp 7), none⟩,
          ⟨some 80, .mov (.tmp 13), none⟩,
          ⟨some 81, .mov (.tmp 15), none⟩,
          ⟨some 82, .call (.func 17) [(.tmp 79), (.tmp 80), (.const (.int .i64 0)), (.tmp 81)], none⟩,
          ⟨some 83, .bin .neq (.tmp 82) (.const (.int .i64 0)), none⟩]) (
       .cond (.tmp 83) (
        .seq (.region [⟨some 6, .mov (.const (.bool false)), none⟩]) (
        .ret)) (
        .skip))) (
      .seq (.region [⟨some 84, .mov (.tmp 9), none⟩,
         ⟨some 85, .mov (.tmp 13), none⟩,
         ⟨some 86, .bsl 3 1 1 [(.int .i64 0)] [(0, (.tmp 85))], none⟩,
         ⟨some 87, .app 3 1 8 [(.int .i64 0)] (.tmp 84) (.tmp 86), none⟩,
         ⟨some 9, .mov (.tmp 87), none⟩]) (
      .region [⟨some 88, .mov (.tmp 10), none⟩,
        ⟨some 89, .mov (.tmp 12), none⟩,
        ⟨some 90, .bsl 3 1 1 [(.int .i64 0)] [(0, (.tmp 89))], none⟩,
        ⟨some 91, .app 3 1 8 [(.int .i64 0)] (.tmp 88) (.tmp 90), none⟩,
        ⟨some 10, .mov (.tmp 91), none⟩]))))))))) (
    .region [⟨some 51, .mov (.tmp 11), none⟩,
      ⟨some 52, .bin .add (.tmp 51) (.const (.int .i64 1)), none⟩,
      ⟨some 11, .mov (.tmp 52), none⟩])))))) (
 .seq (.seq (.region [⟨some 17, .mov (.const (.int .i64 0)), none⟩]) (
  .block 4 (
   .loop (
    .seq (.seq (.region [⟨some 92, .mov (.tmp 17), none⟩,
        ⟨some 93, .mov (.tmp 9), none⟩,
        ⟨some 94, .len (.tmp 93), none⟩,
        ⟨some 95, .bin .lss (.tmp 92) (.tmp 94), none⟩]) (
     .cond (.tmp 95) (
      .skip) (
      .exit 4))) (
    .seq (.block 5 (
      .seq (.region [⟨some 98, .mov (.tmp 17), none⟩,
         ⟨some 99, .mov (.tmp 1), none⟩,
         ⟨some 100, .len (.tmp 99), none⟩,
         ⟨some 101, .bin .lss (.tmp 98) (.tmp 100), none⟩,
         ⟨some 102, .mov (.tmp 101), none⟩,
         ⟨some 103, .mov (.tmp 1), some (102, true)⟩,
         ⟨some 104, .mov (.tmp 17), some (102, true)⟩,
         ⟨some 105, .iadr (.tmp 103) (.tmp 104) 1, some (102, true)⟩,
         ⟨some 106, .load1 (.tmp 105), some (102, true)⟩,
         ⟨some 107, .pick (.tmp 102) (.tmp 106) (.const (.bool false)), none⟩,
         ⟨some 108, .mov (.tmp 107), none⟩,
         ⟨some 109, .mov (.tmp 7), some (108, true)⟩,
         ⟨some 110, .mov (.tmp 9), some (108, true)⟩,
         ⟨some 111, .mov (.tmp 17), some (108, true)⟩,
         ⟨some 112, .iadr (.tmp 110) (.tmp 111) 1, some (108, true)⟩,
         ⟨some 113, .load1 (.tmp 112), some (108, true)⟩,
         ⟨some 114, .call (.func 22) [(.tmp 109), (.tmp 113)], some (108, true)⟩,
         ⟨some 115, .bin .neq (.tmp 114) (.const (.int .i64 0)), some (108, true)⟩,
         ⟨some 116, .pick (.tmp 108) (.tmp 115) (.const (.bool false)), none⟩]) (
      .cond (.tmp 116) (
       .seq (.region [⟨some 6, .mov (.const (.bool false)), none⟩]) (
       .ret)) (
       .skip)))) (
    .region [⟨some 96, .mov (.tmp 17), none⟩,
      ⟨some 97, .bin .add (.tmp 96) (.const (.int .i64 1)), none⟩,
      ⟨some 17, .mov (.tmp 97), none⟩])))))) (
 .seq (.region [⟨some 117, .mov (.tmp 2), none⟩,
    ⟨some 118, .call (.func 29) [(.tmp 117), (.const (.int .i64 2040))], none⟩,
    ⟨some 18, .mov (.tmp 118), none⟩]) (
 .seq (.region [⟨some 119, .mov (.tmp 7), none⟩,
    ⟨some 120, .call (.func 30) [(.tmp 119)], none⟩,
    ⟨some 19, .mov (.tmp 120), none⟩]) (
 .seq (.region [⟨some 122, .mov (.tmp 7), none⟩,
    ⟨some 123, .mov (.tmp 18), none⟩,
    ⟨some 124, .call (.func 16) [(.tmp 122), (.tmp 123)], none⟩,
    ⟨some 121, .mov (.tmp 124), none⟩,
    ⟨some 125, .ext (.tmp 121) 0, none⟩,
    ⟨some 126, .ext (.tmp 121) 1, none⟩,
    ⟨some 20, .mov (.tmp 125), none⟩,
    ⟨some 21, .mov (.tmp 126), none⟩]) (
 .seq (.seq (.region [⟨some 127, .mov (.tmp 21), none⟩,
     ⟨some 128, .bin .eql (.tmp 127) (.const (.int .i64 0)), none⟩,
     ⟨some 129, .mov (.tmp 18), none⟩,
     ⟨some 130, .call (.func 13) [(.tmp 129)], none⟩,
     ⟨some 131, .mov (.tmp 19), none⟩,
     ⟨some 132, .bin .leq (.tmp 130) (.tmp 131), none⟩,
     ⟨some 133, .eqb true (.tmp 128) (.tmp 132), none⟩,
     ⟨some 134, .mov (.tmp 133), none⟩,
     ⟨some 135, .mov (.tmp 21), some (134, false)⟩,
     ⟨some 136, .bin .neq (.tmp 135) (.const (.int .i64 0)), some (134, false)⟩,
     ⟨some 137, .mov (.tmp 136), some (134, false)⟩,
     ⟨some 138, .mov (.tmp 21), some (137, true)⟩,
     ⟨some 139, .bin .neq (.tmp 138) (.const (.int .i64 4)), some (137, true)⟩,
     ⟨some 140, .pick (.tmp 137) (.tmp 139) (.const (.bool false)), some (134, false)⟩,
     ⟨some 141, .pick (.tmp 134) (.const (.bool true)) (.tmp 140), none⟩]) (
  .cond (.tmp 141) (
   .seq (.region [⟨some 6, .mov (.const (.bool false)), none⟩]) (
   .ret)) (
   .skip))) (
 .seq (.seq (.region [⟨some 142, .mov (.tmp 21), none⟩,
     ⟨some 143, .bin .eql (.tmp 142) (.const (.int .i64 0)), none⟩]) (
  .cond (.tmp 143) (
   .seq (.region [⟨some 145, .mov (.tmp 7), none⟩,
      ⟨some 146, .mov (.tmp 20), none⟩,
      ⟨some 147, .mov (.tmp 18), none⟩,
      ⟨some 148, .call (.func 18) [(.tmp 145), (.tmp 146), (.const (.int .i64 0)), (.tmp 147)], none⟩,
      ⟨some 144, .mov (.tmp 148), none⟩,
      ⟨some 149, .ext (.tmp 144) 0, none⟩,
      ⟨some 150, .ext (.tmp 144) 1, none⟩,
      ⟨some 22, .mov (.tmp 149), none⟩,
      ⟨some 23, .mov (.tmp 150), none⟩]) (
   .seq (.draw (
     .q ⟨some 151, .mov (.tmp 23), none⟩ (
     .q ⟨some 152, .bin .neq (.tmp 151) (.const (.int .i64 0)), none⟩ (
     .q ⟨some 153, .mov (.tmp 152), none⟩ (
     .q ⟨some 154, .mov (.tmp 22), some (153, false)⟩ (
     .q ⟨some 156, .mov (.tmp 18), some (153, false)⟩ (
     .alt ⟨some 155, .b2s (.tmp 154), some (153, false)⟩ false (
      .alt ⟨some 157, .mksl 5 1 1 [(.int .u8 0)] (.tmp 156) (.tmp 156), some (153, false)⟩ false (
       .alt ⟨some 158, .b2s (.tmp 157), some (153, false)⟩ false (
        .q ⟨some 159, .bin .neq (.tmp 155) (.tmp 158), some (153, false)⟩ (
        .q ⟨some 160, .pick (.tmp 153) (.const (.bool true)) (.tmp 159), none⟩ (
        .q ⟨some 161, .mov (.tmp 160), none⟩ (
        .q ⟨some 162, .mov (.tmp 7), some (161, false)⟩ (
        .q ⟨some 164, .mov (.tmp 19), some (161, false)⟩ (
        .q ⟨some 165, .mov (.tmp 18), some (161, false)⟩ (
        .alt ⟨some 163, .call (.func 30) [(.tmp 162)], some (161, false)⟩ false (
         .alt ⟨some 166, .call (.func 13) [(.tmp 165)], some (161, false)⟩ false (
          .q ⟨some 167, .bin .sub (.tmp 164) (.tmp 166), some (161, false)⟩ (
          .q ⟨some 168, .bin .neq (.tmp 163) (.tmp 167), some (161, false)⟩ (
          .q ⟨some 169, .pick (.tmp 161) (.const (.bool true)) (.tmp 168), none⟩ (
          .done)))) (.noalt)) (.noalt)))))))) (.noalt)) (.noalt)) (.alt ⟨some 157, .mksl 5 1 1 [(.int .u8 0)] (.tmp 156) (.tmp 156), some (153, false)⟩ false (
      .alt ⟨some 155, .b2s (.tmp 154), some (153, false)⟩ false (
       .alt ⟨some 158, .b2s (.tmp 157), some (153, false)⟩ false (
        .q ⟨some 159, .bin .neq (.tmp 155) (.tmp 158), some (153, false)⟩ (
        .q ⟨some 160, .pick (.tmp 153) (.const (.bool true)) (.tmp 159), none⟩ (
        .q ⟨some 161, .mov (.tmp 160), none⟩ (
        .q ⟨some 162, .mov (.tmp 7), some (161, false)⟩ (
        .q ⟨some 164, .mov (.tmp 19), some (161, false)⟩ (
        .q ⟨some 165, .mov (.tmp 18), some (161, false)⟩ (
        .alt ⟨some 163, .call (.func 30) [(.tmp 162)], some (161, false)⟩ false (
         .alt ⟨some 166, .call (.func 13) [(.tmp 165)], some (161, false)⟩ false (
          .q ⟨some 167, .bin .sub (.tmp 164) (.tmp 166), some (161, false)⟩ (
          .q ⟨some 168, .bin .neq (.tmp 163) (.tmp 167), some (161, false)⟩ (
          .q ⟨some 169, .pick (.tmp 161) (.const (.bool true)) (.tmp 168), none⟩ (
          .done)))) (.noalt)) (.noalt)))))))) (.noalt)) (.alt ⟨some 158, .b2s (.tmp 157), some (153, false)⟩ false (
       .alt ⟨some 155, .b2s (.tmp 154), some (153, false)⟩ false (
        .q ⟨some 159, .bin .neq (.tmp 155) (.tmp 158), some (153, false)⟩ (
        .q ⟨some 160, .pick (.tmp 153) (.const (.bool true)) (.tmp 159), none⟩ (
        .q ⟨some 161, .mov (.tmp 160), none⟩ (
        .q ⟨some 162, .mov (.tmp 7), some (161, false)⟩ (
        .q ⟨some 164, .mov (.tmp 19), some (161, false)⟩ (
        .q ⟨some 165, .mov (.tmp 18), some (161, false)⟩ (
        .alt ⟨some 163, .call (.func 30) [(.tmp 162)], some (161, false)⟩ false (
         .alt ⟨some 166, .call (.func 13) [(.tmp 165)], some (161, false)⟩ false (
          .q ⟨some 167, .bin .sub (.tmp 164) (.tmp 166), some (161, false)⟩ (
          .q ⟨some 168, .bin .neq (.tmp 163) (.tmp 167), some (161, false)⟩ (
          .q ⟨some 169, .pick (.tmp 161) (.const (.bool true)) (.tmp 168), none⟩ (
          .done)))) (.noalt)) (.noalt)))))))) (.noalt)) (.noalt))) (.noalt))))))))) (
   .cond (.tmp 169) (
    .seq (.region [⟨some 6, .mov (.const (.bool false)), none⟩]) (
    .ret)) (
    .skip)))) (
   .skip))) (
 .seq (.seq (.region [⟨some 24, .mov (.const (.int .i64 0)), none⟩]) (
  .block 6 (
   .loop (
    .seq (.seq (.region [⟨some 170, .mov (.tmp 24), none⟩,
        ⟨some 171, .mov (.tmp 9), none⟩,
        ⟨some 172, .len (.tmp 171), none⟩,
        ⟨some 173, .bin .lss (.tmp 170) (.tmp 172), none⟩]) (
     .cond (.tmp 173) (
      .skip) (
      .exit 6))) (
    .seq (.block 7 (
      .seq (.seq (.region [⟨some 176, .mov (.tmp 24), none⟩,
          ⟨some 177, .mov (.tmp 1), none⟩,
          ⟨some 178, .len (.tmp 177), none⟩,
          ⟨some 179, .bin .lss (.tmp 176) (.tmp 178), none⟩,
          ⟨some 180, .mov (.tmp 179), none⟩,
          ⟨some 181, .mov (.tmp 1), some (180, true)⟩,
          ⟨some 182, .mov (.tmp 24), some (180, true)⟩,
          ⟨some 183, .iadr (.tmp 181) (.tmp 182) 1, some (180, true)⟩,
          ⟨some 184, .load1 (.tmp 183), some (180, true)⟩,
          ⟨some 185, .pick (.tmp 180) (.tmp 184) (.const (.bool false)), none⟩]) (
       .cond (.tmp 185) (
        .exit 7) (
        .skip))) (
      .seq (.draw (
        .q ⟨some 187, .mov (.tmp 7), none⟩ (
        .q ⟨some 188, .mov (.tmp 9), none⟩ (
        .q ⟨some 189, .mov (.tmp 24), none⟩ (
        .q ⟨some 190, .iadr (.tmp 188) (.tmp 189) 1, none⟩ (
        .q ⟨some 191, .load1 (.tmp 190), none⟩ (
        .q ⟨some 192, .mov (.tmp 10), none⟩ (
        .q ⟨some 193, .mov (.tmp 24), none⟩ (
        .q ⟨some 194, .iadr (.tmp 192) (.tmp 193) 1, none⟩ (
        .q ⟨some 195, .load1 (.tmp 194), none⟩ (
        .alt ⟨some 196, .call (.func 18) [(.tmp 187), (.tmp 191), (.const (.int .i64 0)), (.tmp 195)], none⟩ false (
         .q ⟨some 186, .mov (.tmp 196), none⟩ (
         .q ⟨some 197, .ext (.tmp 186) 0, none⟩ (
         .q ⟨some 198, .ext (.tmp 186) 1, none⟩ (
         .q ⟨some 25, .mov (.tmp 197), none⟩ (
         .q ⟨some 26, .mov (.tmp 198), none⟩ (
         .done)))))) (.noalt)))))))))))) (
      .seq (.seq (.region [⟨some 199, .mov (.tmp 26), none⟩,
          ⟨some 200, .bin .neq (.tmp 199) (.const (.int .i64 0)), none⟩,
          ⟨some 201, .mov (.tmp 200), none⟩,
          ⟨some 202, .mov (.tmp 25), some (201, false)⟩,
          ⟨some 203, .len (.tmp 202), some (201, false)⟩,
          ⟨some 204, .mov (.tmp 10), some (201, false)⟩,
          ⟨some 205, .mov (.tmp 24), some (201, false)⟩,
          ⟨some 206, .iadr (.tmp 204) (.tmp 205) 1, some (201, false)⟩,
          ⟨some 207, .load1 (.tmp 206), some (201, false)⟩,
          ⟨some 208, .bin .neq (.tmp 203) (.tmp 207), some (201, false)⟩,
          ⟨some 209, .pick (.tmp 201) (.const (.bool true)) (.tmp 208), none⟩]) (
       .cond (.tmp 209) (
        .seq (.region [⟨some 6, .mov (.const (.bool false)), none⟩]) (
        .ret)) (
        .skip))) (
      .seq (.region [⟨some 27, .mov (.const (.int .i64 0)), none⟩]) (
      .block 8 (
       .loop (
        .seq (.seq (.region [⟨some 210, .mov (.tmp 27), none⟩,
            ⟨some 211, .mov (.tmp 10), none⟩,
            ⟨some 212, .mov (.tmp 24), none⟩,
            ⟨some 213, .iadr (.tmp 211) (.tmp 212) 1, none⟩,
            ⟨some 214, .load1 (.tmp 213), none⟩,
            ⟨some 215, .bin .lss (.tmp 210) (.tmp 214), none⟩]) (
         .cond (.tmp 215) (
          .skip) (
          .exit 8))) (
        .seq (.block 9 (
          .seq (.region [⟨some 218, .mov (.tmp 25), none⟩,
             ⟨some 219, .mov (.tmp 27), none⟩,
             ⟨some 220, .iadr (.tmp 218) (.tmp 219) 1, none⟩,
             ⟨some 221, .load1 (.tmp 220), none⟩,
             ⟨some 222, .mov (.tmp 24), none⟩,
             ⟨some 223, .bin .add (.const (.int .i64 97)) (.tmp 222), none⟩,
             ⟨some 224, .conv .u8 (.tmp 223), none⟩,
             ⟨some 225, .bin .neq (.tmp 221) (.tmp 224), none⟩]) (
          .cond (.tmp 225) (
           .seq (.region [⟨some 6, .mov (.const (.bool false)), none⟩]) (
           .ret)) (
           .skip)))) (
        .region [⟨some 216, .mov (.tmp 27), none⟩,
          ⟨some 217, .bin .add (.tmp 216) (.const (.int .i64 1)), none⟩,
          ⟨some 27, .mov (.tmp 217), none⟩])))))))))) (
    .region [⟨some 174, .mov (.tmp 24), none⟩,
      ⟨some 175, .bin .add (.tmp 174) (.const (.int .i64 1)), none⟩,
      ⟨some 24, .mov (.tmp 175), none⟩])))))) (
 .seq (.region [⟨some 226, .mov (.tmp 7), none⟩,
    ⟨some 227, .call (.func 31) [(.tmp 226)], none⟩,
    ⟨some 228, .mov (.tmp 7), none⟩,
    ⟨some 229, .call (.func 30) [(.tmp 228)], none⟩,
    ⟨some 230, .bin .add (.tmp 227) (.tmp 229), none⟩,
    ⟨some 231, .bin .eql (.tmp 230) (.const (.int .i64 2048)), none⟩,
    ⟨some 232, .mov (.tmp 231), none⟩,
    ⟨some 233, .call (.func 14) [], some (232, true)⟩,
    ⟨some 234, .pick (.tmp 232) (.tmp 233) (.const (.bool false)), none⟩,
    ⟨some 6, .mov (.tmp 234), none⟩]) (
 .ret))))))))))))))
theorem Try.fx6 : FnX Try.prog 6 235 #[.tmp 6] Try.x6 :=
  ⟨Try.f6, Try.func6, by kernel_rfl, by kernel_rfl, by kernel_rfl, by kernel_rfl⟩
/-- freshet/freshetlaw6.ArenaHandles -/
def Try.x7 : XCode :=
 .seq (.region [⟨some 4, .mov (.const (.bool false)), none⟩]) (
 .seq (.seq (.region [⟨some 20, .mov (.tmp 0), none⟩,
     ⟨some 21, .bin .lss (.tmp 20) (.const (.int .i64 1)), none⟩,
     ⟨some 22, .mov (.tmp 21), none⟩,
     ⟨some 23, .mov (.tmp 0), some (22, false)⟩,
     ⟨some 24, .bin .gtr (.tmp 23) (.const (.int .i64 30)), some (22, false)⟩,
     ⟨some 25, .pick (.tmp 22) (.const (.bool true)) (.tmp 24), none⟩,
     ⟨some 26, .mov (.tmp 25), none⟩,
     ⟨some 27, .mov (.tmp 1), some (26, false)⟩,
     ⟨some 28, .len (.tmp 27), some (26, false)⟩,
     ⟨some 29, .bin .gtr (.tmp 28) (.const (.int .i64 20)), some (26, false)⟩,
     ⟨some 30, .pick (.tmp 26) (.const (.bool true)) (.tmp 29), none⟩]) (
  .cond (.tmp 30) (
   .seq (.region [⟨some 31, .call (.func 14) [], none⟩,
      ⟨some 4, .mov (.tmp 31), none⟩]) (
   .ret)) (
   .skip))) (
 .seq (.region [⟨some 33, .call (.func 15) [(.const (.int .i64 1024))], none⟩,
    ⟨some 32, .mov (.tmp 33), none⟩,
    ⟨some 34, .ext (.tmp 32) 0, none⟩,
    ⟨some 35, .ext (.tmp 32) 1, none⟩,
    ⟨some 5, .mov (.tmp 34), none⟩,
    ⟨some 6, .mov (.tmp 35), none⟩]) (
 .seq (.seq (.region [⟨some 36, .mov (.tmp 6), none⟩,
     ⟨some 37, .bin .neq (.tmp 36) (.const (.int .i64 0)), none⟩,
     ⟨some 38, .mov (.tmp 37), none⟩,
     ⟨some 39, .mov (.tmp 5), some (38, false)⟩,
     ⟨some 40, .eqn 0 false (.tmp 39) (.const (.pointer none)), some (38, false)⟩,
     ⟨some 41, .pick (.tmp 38) (.const (.bool true)) (.tmp 40), none⟩]) (
  .cond (.tmp 41) (
   .seq (.region [⟨some 4, .mov (.const (.bool false)), none⟩]) (
   .ret)) (
   .skip))) (
 .seq (.region [⟨some 42, .mksl 4 1 1 [(.bool false)] (.const (.int .i64 33)) (.const (.int .i64 33)), none⟩,
    ⟨some 7, .mov (.tmp 42), none⟩]) (
 .seq (.seq (.region [⟨some 8, .mov (.const (.int .i64 1)), none⟩]) (
  .block 0 (
   .loop (
    .seq (.seq (.region [⟨some 43, .mov (.tmp 8), none⟩,
        ⟨some 44, .mov (.tmp 0), none⟩,
        ⟨some 45, .bin .leq (.tmp 43) (.tmp 44), none⟩]) (
     .cond (.tmp 45) (
      .skip) (
      .exit 0))) (
    .seq (.block 1 (
      .seq (.region [⟨some 49, .mov (.tmp 5), none⟩,
         ⟨some 50, .call (.func 16) [(.tmp 49), (.const (.int .i64 1))], none⟩,
         ⟨some 48, .mov (.tmp 50), none⟩,
         ⟨some 51, .ext (.tmp 48) 0, none⟩,
         ⟨some 52, .ext (.tmp 48) 1, none⟩,
         ⟨some 9, .mov (.tmp 51), none⟩,
         ⟨some 10, .mov (.tmp 52), none⟩]) (
      .seq (.seq (.region [⟨some 53, .mov (.tmp 10), none⟩,
          ⟨some 54, .bin .neq (.tmp 53) (.const (.int .i64 0)), none⟩,
          ⟨some 55, .mov (.tmp 54), none⟩,
          ⟨some 56, .mov (.tmp 9), some (55, false)⟩,
          ⟨some 57, .mov (.tmp 8), some (55, false)⟩,
          ⟨some 58, .bin .neq (.tmp 56) (.tmp 57), some (55, false)⟩,
          ⟨some 59, .pick (.tmp 55) (.const (.bool true)) (.tmp 58), none⟩]) (
       .cond (.tmp 59) (
        .seq (.region [⟨some 4, .mov (.const (.bool false)), none⟩]) (
        .ret)) (
        .skip))) (
      .region [⟨some 60, .mov (.tmp 7), none⟩,
        ⟨some 61, .mov (.tmp 8), none⟩,
        ⟨some 62, .iadr (.tmp 60) (.tmp 61) 1, none⟩,
        ⟨none, .store 1 (.tmp 62) (.const (.bool true)), none⟩])))) (
    .region [⟨some 46, .mov (.tmp 8), none⟩,
      ⟨some 47, .bin .add (.tmp 46) (.const (.int .i64 1)), none⟩,
      ⟨some 8, .mov (.tmp 47), none⟩])))))) (
 .seq (.seq (.region [⟨some 11, .mov (.const (.int .i64 0)), none⟩]) (
  .block 2 (
   .loop (
    .seq (.seq (.region [⟨some 63, .mov (.tmp 11), none⟩,
        ⟨some 64, .mov (.tmp 1), none⟩,
        ⟨some 65, .len (.tmp 64), none⟩,
        ⟨some 66, .bin .lss (.tmp 63) (.tmp 65), none⟩]) (
     .cond (.tmp 66) (
      .skip) (
      .exit 2))) (
    .seq (.block 3 (
      .seq (.region [⟨some 69, .mov (.tmp 1), none⟩,
         ⟨some 70, .mov (.tmp 11), none⟩,
         ⟨some 71, .iadr (.tmp 69) (.tmp 70) 1, none⟩,
         ⟨some 72, .load1 (.tmp 71), none⟩,
         ⟨some 73, .mov (.tmp 0), none⟩,
         ⟨some 74, .call (.func 29) [(.tmp 72), (.tmp 73)], none⟩,
         ⟨some 75, .bin .add (.const (.int .i64 1)) (.tmp 74), none⟩,
         ⟨some 12, .mov (.tmp 75), none⟩]) (
      .seq (.seq (.draw (
         .q ⟨some 76, .mov (.tmp 5), none⟩ (
         .q ⟨some 77, .mov (.tmp 12), none⟩ (
         .q ⟨some 80, .mov (.tmp 7), none⟩ (
         .q ⟨some 81, .mov (.tmp 12), none⟩ (
         .q ⟨some 82, .iadr (.tmp 80) (.tmp 81) 1, none⟩ (
         .q ⟨some 83, .load1 (.tmp 82), none⟩ (
         .alt ⟨some 78, .call (.func 22) [(.tmp 76), (.tmp 77)], none⟩ true (
          .q ⟨some 79, .bin .eql (.tmp 78) (.const (.int .i64 0)), none⟩ (
          .q ⟨some 84, .eqb true (.tmp 79) (.tmp 83), none⟩ (
          .done))) (.noalt))))))))) (
       .cond (.tmp 84) (
        .seq (.region [⟨some 4, .mov (.const (.bool false)), none⟩]) (
        .ret)) (
        .skip))) (
      .seq (.region [⟨some 85, .mov (.tmp 7), none⟩,
         ⟨some 86, .mov (.tmp 12), none⟩,
         ⟨some 87, .iadr (.tmp 85) (.tmp 86) 1, none⟩,
         ⟨none, .store 1 (.tmp 87) (.const (.bool false)), none⟩]) (
      .seq (.seq (.region [⟨some 88, .mov (.tmp 11), none⟩,
          ⟨some 89, .bin .rem (.tmp 88) (.const (.int .i64 2)), none⟩,
          ⟨some 90, .bin .eql (.tmp 89) (.const (.int .i64 0)), none⟩]) (
       .cond (.tmp 90) (
        .exit 3) (
        .skip))) (
      .seq (.region [⟨some 13, .mov (.const (.int .i64 1)), none⟩]) (
      .seq (.block 4 (
        .loop (
         .seq (.seq (.region [⟨some 91, .mov (.tmp 7), none⟩,
             ⟨some 92, .mov (.tmp 13), none⟩,
             ⟨some 93, .iadr (.tmp 91) (.tmp 92) 1, none⟩,
             ⟨some 94, .load1 (.tmp 93), none⟩]) (
          .cond (.tmp 94) (
           .skip) (
           .exit 4))) (
         .block 5 (
          .region [⟨some 95, .mov (.tmp 13), none⟩,
            ⟨some 96, .bin .add (.tmp 95) (.const (.int .i64 1)), none⟩,
            ⟨some 13, .mov (.tmp 96), none⟩]))))) (
      .seq (.region [⟨some 98, .mov (.tmp 5), none⟩,
         ⟨some 99, .call (.func 16) [(.tmp 98), (.const (.int .i64 5))], none⟩,
         ⟨some 97, .mov (.tmp 99), none⟩,
         ⟨some 100, .ext (.tmp 97) 0, none⟩,
         ⟨some 101, .ext (.tmp 97) 1, none⟩,
         ⟨some 14, .mov (.tmp 100), none⟩,
         ⟨some 15, .mov (.tmp 101), none⟩]) (
      .seq (.seq (.region [⟨some 102, .mov (.tmp 15), none⟩,
          ⟨some 103, .bin .neq (.tmp 102) (.const (.int .i64 0)), none⟩,
          ⟨some 104, .mov (.tmp 103), none⟩,
          ⟨some 105, .mov (.tmp 14), some (104, false)⟩,
          ⟨some 106, .mov (.tmp 13), some (104, false)⟩,
          ⟨some 107, .bin .neq (.tmp 105) (.tmp 106), some (104, false)⟩,
          ⟨some 108, .pick (.tmp 104) (.const (.bool true)) (.tmp 107), none⟩]) (
       .cond (.tmp 108) (
        .seq (.region [⟨some 4, .mov (.const (.bool false)), none⟩]) (
        .ret)) (
        .skip))) (
      .region [⟨some 109, .mov (.tmp 7), none⟩,
        ⟨some 110, .mov (.tmp 13), none⟩,
        ⟨some 111, .iadr (.tmp 109) (.tmp 110) 1, none⟩,
        ⟨none, .store 1 (.tmp 111) (.const (.bool true)), none⟩])))))))))) (
    .region [⟨some 67, .mov (.tmp 11), none⟩,
      ⟨some 68, .bin .add (.tmp 67) (.const (.int .i64 1)), none⟩,
      ⟨some 11, .mov (.tmp 68), none⟩])))))) (
 .seq (.region [⟨some 16, .mov (.const (.int .i64 0)), none⟩]) (
 .seq (.seq (.region [⟨some 17, .mov (.const (.int .i64 1)), none⟩]) (
  .block 6 (
   .loop (
    .seq (.seq (.region [⟨some 112, .mov (.tmp 17), none⟩,
        ⟨some 113, .bin .lss (.tmp 112) (.const (.int .i64 33)), none⟩]) (
     .cond (.tmp 113) (
      .skip) (
      .exit 6))) (
    .seq (.block 7 (
      .seq (.region [⟨some 117, .mov (.tmp 5), none⟩,
         ⟨some 118, .mov (.tmp 17), none⟩,
         ⟨some 119, .call (.func 32) [(.tmp 117), (.tmp 118)], none⟩,
         ⟨some 116, .mov (.tmp 119), none⟩,
         ⟨some 120, .ext (.tmp 116) 0, none⟩,
         ⟨some 121, .ext (.tmp 116) 1, none⟩,
         ⟨some 18, .mov (.tmp 120), none⟩,
         ⟨some 19, .mov (.tmp 121), none⟩]) (
      .seq (.seq (.region [⟨some 122, .mov (.tmp 19), none⟩,
          ⟨some 123, .mov (.tmp 7), none⟩,
          ⟨some 124, .mov (.tmp 17), none⟩,
          ⟨some 125, .iadr (.tmp 123) (.tmp 124) 1, none⟩,
          ⟨some 126, .load1 (.tmp 125), none⟩,
          ⟨some 127, .eqb true (.tmp 122) (.tmp 126), none⟩]) (
       .cond (.tmp 127) (
        .seq (.region [⟨some 4, .mov (.const (.bool false)), none⟩]) (
        .ret)) (
        .skip))) (
      .seq (.region [⟨some 128, .mov (.tmp 19), none⟩]) (
      .cond (.tmp 128) (
       .region [⟨some 129, .mov (.tmp 16), none⟩,
         ⟨some 130, .bin .add (.tmp 129) (.const (.int .i64 1)), none⟩,
         ⟨some 16, .mov (.tmp 130), none⟩]) (
       .skip)))))) (
    .region [⟨some 114, .mov (.tmp 17), none⟩,
      ⟨some 115, .bin .add (.tmp 114) (.const (.int .i64 1)), none⟩,
      ⟨some 17, .mov (.tmp 115), none⟩])))))) (
 .seq (.region [⟨some 131, .mov (.tmp 5), none⟩,
    ⟨some 132, .call (.func 31) [(.tmp 131)], none⟩,
    ⟨some 133, .mov (.tmp 16), none⟩,
    ⟨some 134, .bin .mul (.const (.int .i64 16)) (.tmp 133), none⟩,
    ⟨some 135, .bin .eql (.tmp 132) (.tmp 134), none⟩,
    ⟨some 136, .mov (.tmp 135), none⟩,
    ⟨some 137, .call (.func 14) [], some (136, true)⟩,
    ⟨some 138, .pick (.tmp 136) (.tmp 137) (.const (.bool false)), none⟩,
    ⟨some 4, .mov (.tmp 138), none⟩]) (
 .ret))))))))))
theorem Try.fx7 : FnX Try.prog 7 139 #[.tmp 4] Try.x7 :=
  ⟨Try.f7, Try.func7, by kernel_rfl, by kernel_rfl, by kernel_rfl, by kernel_rfl⟩
/-- freshet/freshetlaw6.ArenaReuse -/
def Try.x8 : XCode :=
 .seq (.region [⟨some 4, .mov (.const (.bool false)), none⟩]) (
 .seq (.seq (.region [⟨some 20, .mov (.tmp 0), none⟩,
     ⟨some 21, .len (.tmp 20), none⟩,
     ⟨some 22, .bin .gtr (.tmp 21) (.const (.int .i64 12)), none⟩,
     ⟨some 23, .mov (.tmp 22), none⟩,
     ⟨some 24, .mov (.tmp 1), some (23, false)⟩,
     ⟨some 25, .bin .lss (.tmp 24) (.const (.int .i64 1)), some (23, false)⟩,
     ⟨some 26, .pick (.tmp 23) (.const (.bool true)) (.tmp 25), none⟩,
     ⟨some 27, .mov (.tmp 26), none⟩,
     ⟨some 28, .mov (.tmp 1), some (27, false)⟩,
     ⟨some 29, .bin .gtr (.tmp 28) (.const (.int .i64 10)), some (27, false)⟩,
     ⟨some 30, .pick (.tmp 27) (.const (.bool true)) (.tmp 29), none⟩]) (
  .cond (.tmp 30) (
   .seq (.region [⟨some 31, .call (.func 14) [], none⟩,
      ⟨some 4, .mov (.tmp 31), none⟩]) (
   .ret)) (
   .skip))) (
 .seq (.region [⟨some 33, .call (.func 15) [(.const (.int .i64 4096))], none⟩,
    ⟨some 32, .mov (.tmp 33), none⟩,
    ⟨some 34, .ext (.tmp 32) 0, none⟩,
    ⟨some 35, .ext (.tmp 32) 1, none⟩,
    ⟨some 5, .mov (.tmp 34), none⟩,
    ⟨some 6, .mov (.tmp 35), none⟩]) (
 .seq (.seq (.region [⟨some 36, .mov (.tmp 6), none⟩,
     ⟨some 37, .bin .neq (.tmp 36) (.const (.int .i64 0)), none⟩,
     ⟨some 38, .mov (.tmp 37), none⟩,
     ⟨some 39, .mov (.tmp 5), some (38, false)⟩,
     ⟨some 40, .eqn 0 false (.tmp 39) (.const (.pointer none)), some (38, false)⟩,
     ⟨some 41, .pick (.tmp 38) (.const (.bool true)) (.tmp 40), none⟩]) (
  .cond (.tmp 41) (
   .seq (.region [⟨some 4, .mov (.const (.bool false)), none⟩]) (
   .ret)) (
   .skip))) (
 .seq (.seq (.region [⟨some 7, .mov (.const (.int .i64 0)), none⟩]) (
  .block 0 (
   .loop (
    .seq (.seq (.region [⟨some 42, .mov (.tmp 7), none⟩,
        ⟨some 43, .mov (.tmp 1), none⟩,
        ⟨some 44, .bin .lss (.tmp 42) (.tmp 43), none⟩]) (
     .cond (.tmp 44) (
      .skip) (
      .exit 0))) (
    .seq (.block 1 (
      .seq (.region [⟨some 8, .mov (.const (.slice none 0 0)), none⟩]) (
      .seq (.region [⟨some 9, .mov (.const (.int .i64 0)), none⟩]) (
      .seq (.seq (.region [⟨some 10, .mov (.const (.int .i64 0)), none⟩]) (
       .block 2 (
        .loop (
         .seq (.seq (.region [⟨some 47, .mov (.tmp 10), none⟩,
             ⟨some 48, .mov (.tmp 0), none⟩,
             ⟨some 49, .len (.tmp 48), none⟩,
             ⟨some 50, .bin .lss (.tmp 47) (.tmp 49), none⟩]) (
          .cond (.tmp 50) (
           .skip) (
           .exit 2))) (
         .seq (.block 3 (
           .seq (.region [⟨some 53, .mov (.tmp 0), none⟩,
              ⟨some 54, .mov (.tmp 10), none⟩,
              ⟨some 55, .iadr (.tmp 53) (.tmp 54) 1, none⟩,
              ⟨some 56, .load1 (.tmp 55), none⟩,
              ⟨some 57, .call (.func 29) [(.tmp 56), (.const (.int .i64 249))], none⟩,
              ⟨some 11, .mov (.tmp 57), none⟩]) (
           .seq (.region [⟨some 59, .mov (.tmp 5), none⟩,
              ⟨some 60, .mov (.tmp 11), none⟩,
              ⟨some 61, .call (.func 16) [(.tmp 59), (.tmp 60)], none⟩,
              ⟨some 58, .mov (.tmp 61), none⟩,
              ⟨some 62, .ext (.tmp 58) 0, none⟩,
              ⟨some 63, .ext (.tmp 58) 1, none⟩,
              ⟨some 12, .mov (.tmp 62), none⟩,
              ⟨some 13, .mov (.tmp 63), none⟩]) (
           .seq (.seq (.region [⟨some 64, .mov (.tmp 13), none⟩,
               ⟨some 65, .bin .neq (.tmp 64) (.const (.int .i64 0)), none⟩]) (
            .cond (.tmp 65) (
             .seq (.region [⟨some 4, .mov (.const (.bool false)), none⟩]) (
             .ret)) (
             .skip))) (
           .seq (.region [⟨some 67, .mov (.tmp 5), none⟩,
              ⟨some 68, .mov (.tmp 12), none⟩,
              ⟨some 69, .mov (.tmp 11), none⟩,
              ⟨some 70, .call (.func 18) [(.tmp 67), (.tmp 68), (.const (.int .i64 0)), (.tmp 69)], none⟩,
              ⟨some 66, .mov (.tmp 70), none⟩,
              ⟨some 71, .ext (.tmp 66) 0, none⟩,
              ⟨some 72, .ext (.tmp 66) 1, none⟩,
              ⟨some 14, .mov (.tmp 71), none⟩,
              ⟨some 15, .mov (.tmp 72), none⟩]) (
           .seq (.seq (.draw (
              .q ⟨some 73, .mov (.tmp 15), none⟩ (
              .q ⟨some 74, .bin .neq (.tmp 73) (.const (.int .i64 0)), none⟩ (
              .q ⟨some 75, .mov (.tmp 74), none⟩ (
              .q ⟨some 76, .mov (.tmp 14), some (75, false)⟩ (
              .q ⟨some 78, .mov (.tmp 11), some (75, false)⟩ (
              .alt ⟨some 77, .b2s (.tmp 76), some (75, false)⟩ false (
               .alt ⟨some 79, .mksl 5 1 1 [(.int .u8 0)] (.tmp 78) (.tmp 78), some (75, false)⟩ false (
                .alt ⟨some 80, .b2s (.tmp 79), some (75, false)⟩ false (
                 .q ⟨some 81, .bin .neq (.tmp 77) (.tmp 80), some (75, false)⟩ (
                 .q ⟨some 82, .pick (.tmp 75) (.const (.bool true)) (.tmp 81), none⟩ (
                 .done))) (.noalt)) (.noalt)) (.alt ⟨some 79, .mksl 5 1 1 [(.int .u8 0)] (.tmp 78) (.tmp 78), some (75, false)⟩ false (
               .alt ⟨some 77, .b2s (.tmp 76), some (75, false)⟩ false (
                .alt ⟨some 80, .b2s (.tmp 79), some (75, false)⟩ false (
                 .q ⟨some 81, .bin .neq (.tmp 77) (.tmp 80), some (75, false)⟩ (
                 .q ⟨some 82, .pick (.tmp 75) (.const (.bool true)) (.tmp 81), none⟩ (
                 .done))) (.noalt)) (.alt ⟨some 80, .b2s (.tmp 79), some (75, false)⟩ false (
                .alt ⟨some 77, .b2s (.tmp 76), some (75, false)⟩ false (
                 .q ⟨some 81, .bin .neq (.tmp 77) (.tmp 80), some (75, false)⟩ (
                 .q ⟨some 82, .pick (.tmp 75) (.const (.bool true)) (.tmp 81), none⟩ (
                 .done))) (.noalt)) (.noalt))) (.noalt))))))))) (
            .cond (.tmp 82) (
             .seq (.region [⟨some 4, .mov (.const (.bool false)), none⟩]) (
             .ret)) (
             .skip))) (
           .seq (.seq (.region [⟨some 16, .mov (.const (.int .i64 0)), none⟩]) (
            .block 4 (
             .loop (
              .seq (.seq (.region [⟨some 83, .mov (.tmp 16), none⟩,
                  ⟨some 84, .mov (.tmp 11), none⟩,
                  ⟨some 85, .bin .lss (.tmp 83) (.tmp 84), none⟩]) (
               .cond (.tmp 85) (
                .skip) (
                .exit 4))) (
              .seq (.block 5 (
                .region [⟨some 88, .mov (.tmp 14), none⟩,
                  ⟨some 89, .mov (.tmp 16), none⟩,
                  ⟨some 90, .iadr (.tmp 88) (.tmp 89) 1, none⟩,
                  ⟨none, .store 1 (.tmp 90) (.const (.int .u8 122)), none⟩])) (
              .region [⟨some 86, .mov (.tmp 16), none⟩,
                ⟨some 87, .bin .add (.tmp 86) (.const (.int .i64 1)), none⟩,
                ⟨some 16, .mov (.tmp 87), none⟩])))))) (
           .seq (.seq (.region [⟨some 91, .mov (.tmp 5), none⟩,
               ⟨some 92, .mov (.tmp 12), none⟩,
               ⟨some 93, .mov (.tmp 14), none⟩,
               ⟨some 94, .call (.func 17) [(.tmp 91), (.tmp 92), (.const (.int .i64 0)), (.tmp 93)], none⟩,
               ⟨some 95, .bin .neq (.tmp 94) (.const (.int .i64 0)), none⟩]) (
            .cond (.tmp 95) (
             .seq (.region [⟨some 4, .mov (.const (.bool false)), none⟩]) (
             .ret)) (
             .skip))) (
           .seq (.region [⟨some 96, .mov (.tmp 9), none⟩,
              ⟨some 97, .mov (.tmp 11), none⟩,
              ⟨some 98, .call (.func 13) [(.tmp 97)], none⟩,
              ⟨some 99, .bin .add (.tmp 96) (.tmp 98), none⟩,
              ⟨some 9, .mov (.tmp 99), none⟩]) (
           .region [⟨some 100, .mov (.tmp 8), none⟩,
             ⟨some 101, .mov (.tmp 12), none⟩,
             ⟨some 102, .bsl 3 1 1 [(.int .i64 0)] [(0, (.tmp 101))], none⟩,
             ⟨some 103, .app 3 1 8 [(.int .i64 0)] (.tmp 100) (.tmp 102), none⟩,
             ⟨some 8, .mov (.tmp 103), none⟩])))))))))) (
         .region [⟨some 51, .mov (.tmp 10), none⟩,
           ⟨some 52, .bin .add (.tmp 51) (.const (.int .i64 1)), none⟩,
           ⟨some 10, .mov (.tmp 52), none⟩])))))) (
      .seq (.seq (.region [⟨some 104, .mov (.tmp 5), none⟩,
          ⟨some 105, .call (.func 31) [(.tmp 104)], none⟩,
          ⟨some 106, .mov (.tmp 9), none⟩,
          ⟨some 107, .bin .neq (.tmp 105) (.tmp 106), none⟩,
          ⟨some 108, .mov (.tmp 107), none⟩,
          ⟨some 109, .mov (.tmp 5), some (108, false)⟩,
          ⟨some 110, .call (.func 30) [(.tmp 109)], some (108, false)⟩,
          ⟨some 111, .mov (.tmp 9), some (108, false)⟩,
          ⟨some 112, .bin .sub (.const (.int .i64 4096)) (.tmp 111), some (108, false)⟩,
          ⟨some 113, .bin .neq (.tmp 110) (.tmp 112), some (108, false)⟩,
          ⟨some 114, .pick (.tmp 108) (.const (.bool true)) (.tmp 113), none⟩]) (
       .cond (.tmp 114) (
        .seq (.region [⟨some 4, .mov (.const (.bool false)), none⟩]) (
        .ret)) (
        .skip))) (
      .seq (.seq (.region [⟨some 17, .mov (.const (.int .i64 0)), none⟩]) (
       .block 6 (
        .loop (
         .seq (.seq (.region [⟨some 115, .mov (.tmp 17), none⟩,
             ⟨some 116, .mov (.tmp 8), none⟩,
             ⟨some 117, .len (.tmp 116), none⟩,
             ⟨some 118, .bin .lss (.tmp 115) (.tmp 117), none⟩]) (
          .cond (.tmp 118) (
           .skip) (
           .exit 6))) (
         .seq (.block 7 (
           .seq (.region [⟨some 121, .mov (.tmp 17), none⟩,
              ⟨some 122, .bin .mul (.tmp 121) (.const (.int .i64 7)), none⟩,
              ⟨some 123, .mov (.tmp 7), none⟩,
              ⟨some 124, .bin .add (.tmp 122) (.tmp 123), none⟩,
              ⟨some 125, .mov (.tmp 8), none⟩,
              ⟨some 126, .len (.tmp 125), none⟩,
              ⟨some 127, .bin .rem (.tmp 124) (.tmp 126), none⟩,
              ⟨some 18, .mov (.tmp 127), none⟩]) (
           .region [⟨some 128, .mov (.tmp 5), none⟩,
             ⟨some 129, .mov (.tmp 8), none⟩,
             ⟨some 130, .mov (.tmp 18), none⟩,
             ⟨some 131, .iadr (.tmp 129) (.tmp 130) 1, none⟩,
             ⟨some 132, .load1 (.tmp 131), none⟩,
             ⟨some 133, .call (.func 22) [(.tmp 128), (.tmp 132)], none⟩]))) (
         .region [⟨some 119, .mov (.tmp 17), none⟩,
           ⟨some 120, .bin .add (.tmp 119) (.const (.int .i64 1)), none⟩,
           ⟨some 17, .mov (.tmp 120), none⟩])))))) (
      .seq (.seq (.region [⟨some 19, .mov (.const (.int .i64 0)), none⟩]) (
       .block 8 (
        .loop (
         .seq (.seq (.region [⟨some 134, .mov (.tmp 19), none⟩,
             ⟨some 135, .mov (.tmp 8), none⟩,
             ⟨some 136, .len (.tmp 135), none⟩,
             ⟨some 137, .bin .lss (.tmp 134) (.tmp 136), none⟩]) (
          .cond (.tmp 137) (
           .skip) (
           .exit 8))) (
         .seq (.block 9 (
           .region [⟨some 140, .mov (.tmp 5), none⟩,
             ⟨some 141, .mov (.tmp 8), none⟩,
             ⟨some 142, .mov (.tmp 19), none⟩,
             ⟨some 143, .iadr (.tmp 141) (.tmp 142) 1, none⟩,
             ⟨some 144, .load1 (.tmp 143), none⟩,
             ⟨some 145, .call (.func 22) [(.tmp 140), (.tmp 144)], none⟩])) (
         .region [⟨some 138, .mov (.tmp 19), none⟩,
           ⟨some 139, .bin .add (.tmp 138) (.const (.int .i64 1)), none⟩,
           ⟨some 19, .mov (.tmp 139), none⟩])))))) (
      .seq (.region [⟨some 146, .mov (.tmp 5), none⟩,
         ⟨some 147, .call (.func 31) [(.tmp 146)], none⟩,
         ⟨some 148, .bin .neq (.tmp 147) (.const (.int .i64 0)), none⟩,
         ⟨some 149, .mov (.tmp 148), none⟩,
         ⟨some 150, .mov (.tmp 5), some (149, false)⟩,
         ⟨some 151, .call (.func 26) [(.tmp 150)], some (149, false)⟩,
         ⟨some 152, .bin .neq (.tmp 151) (.const (.int .i64 4096)), some (149, false)⟩,
         ⟨some 153, .pick (.tmp 149) (.const (.bool true)) (.tmp 152), none⟩]) (
      .cond (.tmp 153) (
       .seq (.region [⟨some 4, .mov (.const (.bool false)), none⟩]) (
       .ret)) (
       .skip)))))))))) (
    .region [⟨some 45, .mov (.tmp 7), none⟩,
      ⟨some 46, .bin .add (.tmp 45) (.const (.int .i64 1)), none⟩,
      ⟨some 7, .mov (.tmp 46), none⟩])))))) (
 .seq (.region [⟨some 154, .call (.func 14) [], none⟩,
    ⟨some 4, .mov (.tmp 154), none⟩]) (
 .ret))))))
theorem Try.fx8 : FnX Try.prog 8 155 #[.tmp 4] Try.x8 :=
  ⟨Try.f8, Try.func8, by kernel_rfl, by kernel_rfl, by kernel_rfl, by kernel_rfl⟩
/-- freshet/freshetlaw6.awake -/
def Try.x14 : XCode :=
 .seq (.region [⟨some 0, .mov (.const (.bool false)), none⟩]) (
 .seq (.region [⟨some 18, .call (.func 15) [(.const (.int .i64 1024))], none⟩,
    ⟨some 17, .mov (.tmp 18), none⟩,
    ⟨some 19, .ext (.tmp 17) 0, none⟩,
    ⟨some 20, .ext (.tmp 17) 1, none⟩,
    ⟨some 1, .mov (.tmp 19), none⟩,
    ⟨some 2, .mov (.tmp 20), none⟩]) (
 .seq (.region [⟨some 22, .call (.func 15) [(.const (.int .i64 1023))], none⟩,
    ⟨some 21, .mov (.tmp 22), none⟩,
    ⟨some 23, .ext (.tmp 21) 0, none⟩,
    ⟨some 24, .ext (.tmp 21) 1, none⟩,
    ⟨some 3, .mov (.tmp 23), none⟩,
    ⟨some 4, .mov (.tmp 24), none⟩]) (
 .seq (.seq (.region [⟨some 25, .mov (.tmp 2), none⟩,
     ⟨some 26, .bin .neq (.tmp 25) (.const (.int .i64 0)), none⟩,
     ⟨some 27, .mov (.tmp 26), none⟩,
     ⟨some 28, .mov (.tmp 1), some (27, false)⟩,
     ⟨some 29, .eqn 0 false (.tmp 28) (.const (.pointer none)), some (27, false)⟩,
     ⟨some 30, .pick (.tmp 27) (.const (.bool true)) (.tmp 29), none⟩,
     ⟨some 31, .mov (.tmp 30), none⟩,
     ⟨some 32, .mov (.tmp 4), some (31, false)⟩,
     ⟨some 33, .bin .neq (.tmp 32) (.const (.int .i64 1)), some (31, false)⟩,
     ⟨some 34, .pick (.tmp 31) (.const (.bool true)) (.tmp 33), none⟩]) (
  .cond (.tmp 34) (
   .seq (.region [⟨some 0, .mov (.const (.bool false)), none⟩]) (
   .ret)) (
   .skip))) (
 .seq (.region [⟨some 36, .mov (.tmp 1), none⟩,
    ⟨some 37, .call (.func 16) [(.tmp 36), (.const (.int .i64 9))], none⟩,
    ⟨some 35, .mov (.tmp 37), none⟩,
    ⟨some 38, .ext (.tmp 35) 0, none⟩,
    ⟨some 39, .ext (.tmp 35) 1, none⟩,
    ⟨some 5, .mov (.tmp 38), none⟩,
    ⟨some 6, .mov (.tmp 39), none⟩]) (
 .seq (.region [⟨some 41, .mov (.tmp 1), none⟩,
    ⟨some 42, .call (.func 16) [(.tmp 41), (.const (.int .i64 4097))], none⟩,
    ⟨some 40, .mov (.tmp 42), none⟩,
    ⟨some 43, .ext (.tmp 40) 0, none⟩,
    ⟨some 44, .ext (.tmp 40) 1, none⟩,
    ⟨some 7, .mov (.tmp 43), none⟩,
    ⟨some 8, .mov (.tmp 44), none⟩]) (
 .seq (.region [⟨some 45, .mov (.tmp 1), none⟩,
    ⟨some 46, .mov (.tmp 5), none⟩,
    ⟨some 47, .bsl 5 3 1 [(.int .u8 0)] [(0, (.const (.int .u8 97))), (1, (.const (.int .u8 98))), (2, (.const (.int .u8 99)))], none⟩,
    ⟨some 48, .raw (.convert 31 31 (.tmp 47)) 31, none⟩,
    ⟨some 49, .call (.func 17) [(.tmp 45), (.tmp 46), (.const (.int .i64 1)), (.tmp 48)], none⟩,
    ⟨some 9, .mov (.tmp 49), none⟩]) (
 .seq (.region [⟨some 51, .mov (.tmp 1), none⟩,
    ⟨some 52, .mov (.tmp 5), none⟩,
    ⟨some 53, .call (.func 18) [(.tmp 51), (.tmp 52), (.const (.int .i64 0)), (.const (.int .i64 5))], none⟩,
    ⟨some 50, .mov (.tmp 53), none⟩,
    ⟨some 54, .ext (.tmp 50) 0, none⟩,
    ⟨some 55, .ext (.tmp 50) 1, none⟩,
    ⟨some 10, .mov (.tmp 54), none⟩,
    ⟨some 11, .mov (.tmp 55), none⟩]) (
 .seq (.region [⟨some 57, .mov (.tmp 1), none⟩,
    ⟨some 58, .mov (.tmp 5), none⟩,
    ⟨some 59, .call (.func 32) [(.tmp 57), (.tmp 58)], none⟩,
    ⟨some 56, .mov (.tmp 59), none⟩,
    ⟨some 60, .ext (.tmp 56) 0, none⟩,
    ⟨some 61, .ext (.tmp 56) 1, none⟩,
    ⟨some 12, .mov (.tmp 60), none⟩,
    ⟨some 13, .mov (.tmp 61), none⟩]) (
 .seq (.region [⟨some 14, .mov (.const (.pointer none)), none⟩]) (
 .seq (.region [⟨some 63, .mov (.tmp 14), none⟩,
    ⟨some 64, .call (.func 16) [(.tmp 63), (.const (.int .i64 1))], none⟩,
    ⟨some 62, .mov (.tmp 64), none⟩,
    ⟨some 65, .ext (.tmp 62) 0, none⟩,
    ⟨some 66, .ext (.tmp 62) 1, none⟩,
    ⟨some 15, .mov (.tmp 65), none⟩,
    ⟨some 16, .mov (.tmp 66), none⟩]) (
 .seq (.region [⟨some 67, .mov (.tmp 5), none⟩,
    ⟨some 68, .bin .eql (.tmp 67) (.const (.int .i64 1)), none⟩,
    ⟨some 69, .mov (.tmp 68), none⟩,
    ⟨some 70, .mov (.tmp 6), some (69, true)⟩,
    ⟨some 71, .bin .eql (.tmp 70) (.const (.int .i64 0)), some (69, true)⟩,
    ⟨some 72, .pick (.tmp 69) (.tmp 71) (.const (.bool false)), none⟩,
    ⟨some 73, .mov (.tmp 72), none⟩,
    ⟨some 74, .mov (.tmp 8), some (73, true)⟩,
    ⟨some 75, .bin .eql (.tmp 74) (.const (.int .i64 3)), some (73, true)⟩,
    ⟨some 76, .pick (.tmp 73) (.tmp 75) (.const (.bool false)), none⟩,
    ⟨some 77, .mov (.tmp 76), none⟩,
    ⟨some 78, .mov (.tmp 9), some (77, true)⟩,
    ⟨some 79, .bin .eql (.tmp 78) (.const (.int .i64 0)), some (77, true)⟩,
    ⟨some 80, .pick (.tmp 77) (.tmp 79) (.const (.bool false)), none⟩,
    ⟨some 81, .mov (.tmp 80), none⟩,
    ⟨some 82, .mov (.tmp 10), some (81, true)⟩,
    ⟨some 83, .b2s (.tmp 82), some (81, true)⟩,
    ⟨some 84, .bin .eql (.tmp 83) (.const (.string ⟨#[0, 97, 98, 99, 0]⟩)), some (81, true)⟩,
    ⟨some 85, .pick (.tmp 81) (.tmp 84) (.const (.bool false)), none⟩,
    ⟨some 86, .mov (.tmp 85), none⟩,
    ⟨some 87, .mov (.tmp 11), some (86, true)⟩,
    ⟨some 88, .bin .eql (.tmp 87) (.const (.int .i64 0)), some (86, true)⟩,
    ⟨some 89, .pick (.tmp 86) (.tmp 88) (.const (.bool false)), none⟩,
    ⟨some 90, .mov (.tmp 89), none⟩,
    ⟨some 91, .mov (.tmp 12), some (90, true)⟩,
    ⟨some 92, .bin .eql (.tmp 91) (.const (.int .i64 9)), some (90, true)⟩,
    ⟨some 93, .pick (.tmp 90) (.tmp 92) (.const (.bool false)), none⟩,
    ⟨some 94, .mov (.tmp 93), none⟩,
    ⟨some 95, .mov (.tmp 13), some (94, true)⟩,
    ⟨some 96, .pick (.tmp 94) (.tmp 95) (.const (.bool false)), none⟩,
    ⟨some 97, .mov (.tmp 96), none⟩,
    ⟨some 98, .call (.func 13) [(.const (.int .i64 8))], some (97, true)⟩,
    ⟨some 99, .bin .eql (.tmp 98) (.const (.int .i64 16)), some (97, true)⟩,
    ⟨some 100, .pick (.tmp 97) (.tmp 99) (.const (.bool false)), none⟩,
    ⟨some 101, .mov (.tmp 100), none⟩,
    ⟨some 102, .call (.func 13) [(.const (.int .i64 9))], some (101, true)⟩,
    ⟨some 103, .bin .eql (.tmp 102) (.const (.int .i64 32)), some (101, true)⟩,
    ⟨some 104, .pick (.tmp 101) (.tmp 103) (.const (.bool false)), none⟩,
    ⟨some 105, .mov (.tmp 104), none⟩,
    ⟨some 106, .call (.func 13) [(.const (.int .i64 (-1)))], some (105, true)⟩,
    ⟨some 107, .bin .eql (.tmp 106) (.const (.int .i64 0)), some (105, true)⟩,
    ⟨some 108, .pick (.tmp 105) (.tmp 107) (.const (.bool false)), none⟩,
    ⟨some 109, .mov (.tmp 108), none⟩,
    ⟨some 110, .mov (.tmp 1), some (109, true)⟩,
    ⟨some 111, .call (.func 31) [(.tmp 110)], some (109, true)⟩,
    ⟨some 112, .bin .eql (.tmp 111) (.const (.int .i64 32)), some (109, true)⟩,
    ⟨some 113, .pick (.tmp 109) (.tmp 112) (.const (.bool false)), none⟩,
    ⟨some 114, .mov (.tmp 113), none⟩,
    ⟨some 115, .mov (.tmp 1), some (114, true)⟩,
    ⟨some 116, .call (.func 30) [(.tmp 115)], some (114, true)⟩,
    ⟨some 117, .bin .eql (.tmp 116) (.const (.int .i64 992)), some (114, true)⟩,
    ⟨some 118, .pick (.tmp 114) (.tmp 117) (.const (.bool false)), none⟩,
    ⟨some 119, .mov (.tmp 118), none⟩,
    ⟨some 120, .mov (.tmp 1), some (119, true)⟩,
    ⟨some 121, .call (.func 26) [(.tmp 120)], some (119, true)⟩,
    ⟨some 122, .bin .eql (.tmp 121) (.const (.int .i64 992)), some (119, true)⟩,
    ⟨some 123, .pick (.tmp 119) (.tmp 122) (.const (.bool false)), none⟩,
    ⟨some 124, .mov (.tmp 123), none⟩,
    ⟨some 125, .mov (.tmp 16), some (124, true)⟩,
    ⟨some 126, .bin .eql (.tmp 125) (.const (.int .i64 4)), some (124, true)⟩,
    ⟨some 127, .pick (.tmp 124) (.tmp 126) (.const (.bool false)), none⟩,
    ⟨some 128, .mov (.tmp 127), none⟩,
    ⟨some 129, .mov (.tmp 14), some (128, true)⟩,
    ⟨some 130, .call (.func 31) [(.tmp 129)], some (128, true)⟩,
    ⟨some 131, .bin .eql (.tmp 130) (.const (.int .i64 0)), some (128, true)⟩,
    ⟨some 132, .pick (.tmp 128) (.tmp 131) (.const (.bool false)), none⟩,
    ⟨some 0, .mov (.tmp 132), none⟩]) (
 .ret))))))))))))
theorem Try.fx14 : FnX Try.prog 14 133 #[.tmp 0] Try.x14 :=
  ⟨Try.f14, Try.func14, by kernel_rfl, by kernel_rfl, by kernel_rfl, by kernel_rfl⟩
/-- freshet/freshetlaw6.few -/
def Try.x19 : XCode :=
 .seq (.region [⟨some 2, .mov (.const (.bool false)), none⟩]) (
 .seq (.seq (.region [⟨some 3, .mov (.const (.int .i64 0)), none⟩]) (
  .block 0 (
   .loop (
    .seq (.seq (.region [⟨some 4, .mov (.tmp 3), none⟩,
        ⟨some 5, .mov (.tmp 0), none⟩,
        ⟨some 6, .len (.tmp 5), none⟩,
        ⟨some 7, .bin .lss (.tmp 4) (.tmp 6), none⟩,
        ⟨some 8, .mov (.tmp 7), none⟩,
        ⟨some 9, .mov (.tmp 3), some (8, true)⟩,
        ⟨some 10, .bin .lss (.tmp 9) (.const (.int .i64 70)), some (8, true)⟩,
        ⟨some 11, .pick (.tmp 8) (.tmp 10) (.const (.bool false)), none⟩]) (
     .cond (.tmp 11) (
      .skip) (
      .exit 0))) (
    .seq (.block 1 (
      .seq (.region [⟨some 14, .mov (.tmp 0), none⟩,
         ⟨some 15, .mov (.tmp 3), none⟩,
         ⟨some 16, .iadr (.tmp 14) (.tmp 15) 5, none⟩,
         ⟨some 17, .fadr (.tmp 16) 4, none⟩,
         ⟨some 18, .load1 (.tmp 17), none⟩,
         ⟨some 19, .len (.tmp 18), none⟩,
         ⟨some 20, .bin .gtr (.tmp 19) (.const (.int .i64 200)), none⟩]) (
      .cond (.tmp 20) (
       .seq (.region [⟨some 2, .mov (.const (.bool false)), none⟩]) (
       .ret)) (
       .skip)))) (
    .region [⟨some 12, .mov (.tmp 3), none⟩,
      ⟨some 13, .bin .add (.tmp 12) (.const (.int .i64 1)), none⟩,
      ⟨some 3, .mov (.tmp 13), none⟩])))))) (
 .seq (.region [⟨some 21, .mov (.tmp 0), none⟩,
    ⟨some 22, .len (.tmp 21), none⟩,
    ⟨some 23, .bin .leq (.tmp 22) (.const (.int .i64 60)), none⟩,
    ⟨some 2, .mov (.tmp 23), none⟩]) (
 .ret)))
theorem Try.fx19 : FnX Try.prog 19 24 #[.tmp 2] Try.x19 :=
  ⟨Try.f19, Try.func19, by kernel_rfl, by kernel_rfl, by kernel_rfl, by kernel_rfl⟩
/-- freshet/freshetlaw6.shows -/
def Try.x28 : XCode :=
 .seq (.region [⟨some 3, .box 38 (.tmp 1), none⟩,
    ⟨some 4, .alloc 4 [(.bool false)], none⟩]) (
 .seq (.seq (.draw (
    .q ⟨some 9, .mov (.tmp 0), none⟩ (
    .q ⟨some 10, .eqn 0 false (.tmp 9) (.const (.pointer none)), none⟩ (
    .q ⟨some 11, .mov (.tmp 10), none⟩ (
    .q ⟨some 12, .mov (.tmp 0), some (11, false)⟩ (
    .q ⟨some 14, .load1 (.tmp 3), some (11, false)⟩ (
    .alt ⟨some 13, .call (.func 31) [(.tmp 12)], some (11, false)⟩ true (
     .alt ⟨some 15, .call (.func 62) [(.tmp 14)], some (11, false)⟩ true (
      .q ⟨some 16, .bin .neq (.tmp 13) (.tmp 15), some (11, false)⟩ (
      .q ⟨some 17, .pick (.tmp 11) (.const (.bool true)) (.tmp 16), none⟩ (
      .q ⟨some 18, .mov (.tmp 17), none⟩ (
      .q ⟨some 19, .mov (.tmp 0), some (18, false)⟩ (
      .q ⟨some 21, .load1 (.tmp 3), some (18, false)⟩ (
      .alt ⟨some 20, .call (.func 30) [(.tmp 19)], some (18, false)⟩ true (
       .alt ⟨some 22, .call (.func 27) [(.tmp 21)], some (18, false)⟩ true (
        .q ⟨some 23, .bin .neq (.tmp 20) (.tmp 22), some (18, false)⟩ (
        .q ⟨some 24, .pick (.tmp 18) (.const (.bool true)) (.tmp 23), none⟩ (
        .q ⟨some 25, .mov (.tmp 24), none⟩ (
        .q ⟨some 26, .mov (.tmp 0), some (25, false)⟩ (
        .q ⟨some 28, .load1 (.tmp 3), some (25, false)⟩ (
        .q ⟨some 29, .nilc (.tmp 28), some (25, false)⟩ (
        .q ⟨some 30, .fadr (.tmp 29) 0, some (25, false)⟩ (
        .q ⟨some 31, .load1 (.tmp 30), some (25, false)⟩ (
        .alt ⟨some 27, .call (.func 63) [(.tmp 26)], some (25, false)⟩ true (
         .q ⟨some 32, .bin .neq (.tmp 27) (.tmp 31), some (25, false)⟩ (
         .q ⟨some 33, .pick (.tmp 25) (.const (.bool true)) (.tmp 32), none⟩ (
         .done))) (.noalt)))))))))) (.noalt)) (.noalt))))))) (.noalt)) (.noalt)))))))) (
  .cond (.tmp 33) (
   .seq (.region [⟨none, .store 1 (.tmp 4) (.const (.bool false)), none⟩]) (
   .ret)) (
   .skip))) (
 .seq (.region [⟨some 34, .mov (.tmp 0), none⟩,
    ⟨some 35, .call (.func 58) [(.tmp 34)], none⟩,
    ⟨some 5, .mov (.tmp 35), none⟩]) (
 .seq (.seq (.region [⟨some 36, .mov (.tmp 5), none⟩,
     ⟨some 37, .eqn 3 false (.tmp 36) (.const .nilFunc), none⟩]) (
  .cond (.tmp 37) (
   .seq (.region [⟨none, .store 1 (.tmp 4) (.const (.bool false)), none⟩]) (
   .ret)) (
   .skip))) (
 .seq (.region [⟨some 6, .alloc 3 [(.int .i64 0)], none⟩,
    ⟨none, .store 1 (.tmp 6) (.const (.int .i64 0)), none⟩]) (
 .seq (.seq (.region [⟨some 38, .mov (.tmp 5), none⟩]) (
  .block 0 (
   .range (.tmp 38) [39, 40] (
    .seq (.region [⟨some 7, .mov (.tmp 39), none⟩]) (
    .region [⟨some 8, .mov (.tmp 40), none⟩])) (
    .block 1 (
     .seq (.seq (.draw (
        .q ⟨some 41, .load1 (.tmp 6), none⟩ (
        .q ⟨some 42, .load1 (.tmp 3), none⟩ (
        .q ⟨some 43, .nilc (.tmp 42), none⟩ (
        .q ⟨some 44, .fadr (.tmp 43) 1, none⟩ (
        .q ⟨some 45, .load1 (.tmp 44), none⟩ (
        .q ⟨some 46, .len (.tmp 45), none⟩ (
        .q ⟨some 47, .bin .geq (.tmp 41) (.tmp 46), none⟩ (
        .q ⟨some 48, .mov (.tmp 47), none⟩ (
        .q ⟨some 49, .mov (.tmp 7), some (48, false)⟩ (
        .q ⟨some 50, .load1 (.tmp 3), some (48, false)⟩ (
        .q ⟨some 51, .nilc (.tmp 50), some (48, false)⟩ (
        .q ⟨some 52, .fadr (.tmp 51) 1, some (48, false)⟩ (
        .q ⟨some 53, .load1 (.tmp 52), some (48, false)⟩ (
        .q ⟨some 54, .load1 (.tmp 6), some (48, false)⟩ (
        .q ⟨some 55, .iadr (.tmp 53) (.tmp 54) 2, some (48, false)⟩ (
        .q ⟨some 56, .fadr (.tmp 55) 0, some (48, false)⟩ (
        .q ⟨some 57, .load1 (.tmp 56), some (48, false)⟩ (
        .q ⟨some 58, .bin .neq (.tmp 49) (.tmp 57), some (48, false)⟩ (
        .q ⟨some 59, .pick (.tmp 48) (.const (.bool true)) (.tmp 58), none⟩ (
        .q ⟨some 60, .mov (.tmp 59), none⟩ (
        .q ⟨some 61, .mov (.tmp 8), some (60, false)⟩ (
        .q ⟨some 62, .load1 (.tmp 3), some (60, false)⟩ (
        .q ⟨some 63, .nilc (.tmp 62), some (60, false)⟩ (
        .q ⟨some 64, .fadr (.tmp 63) 1, some (60, false)⟩ (
        .q ⟨some 65, .load1 (.tmp 64), some (60, false)⟩ (
        .q ⟨some 66, .load1 (.tmp 6), some (60, false)⟩ (
        .q ⟨some 67, .iadr (.tmp 65) (.tmp 66) 2, some (60, false)⟩ (
        .q ⟨some 68, .fadr (.tmp 67) 1, some (60, false)⟩ (
        .q ⟨some 69, .load1 (.tmp 68), some (60, false)⟩ (
        .q ⟨some 70, .len (.tmp 69), some (60, false)⟩ (
        .q ⟨some 71, .bin .neq (.tmp 61) (.tmp 70), some (60, false)⟩ (
        .q ⟨some 72, .pick (.tmp 60) (.const (.bool true)) (.tmp 71), none⟩ (
        .done)))))))))))))))))))))))))))))))))) (
      .cond (.tmp 72) (
       .seq (.region [⟨none, .store 1 (.tmp 4) (.const (.bool false)), none⟩]) (
       .ret)) (
       .skip))) (
     .region [⟨some 73, .load1 (.tmp 6), none⟩,
       ⟨some 74, .bin .add (.tmp 73) (.const (.int .i64 1)), none⟩,
       ⟨none, .store 1 (.tmp 6) (.tmp 74), none⟩])))))) (
 .seq (.draw (
   .q ⟨some 75, .load1 (.tmp 6), none⟩ (
   .q ⟨some 76, .load1 (.tmp 3), none⟩ (
   .q ⟨some 77, .nilc (.tmp 76), none⟩ (
   .q ⟨some 78, .fadr (.tmp 77) 1, none⟩ (
   .q ⟨some 79, .load1 (.tmp 78), none⟩ (
   .q ⟨some 80, .len (.tmp 79), none⟩ (
   .q ⟨some 81, .bin .eql (.tmp 75) (.tmp 80), none⟩ (
   .alt ⟨none, .store 1 (.tmp 4) (.tmp 81), none⟩ false (
    .done) (.noalt)))))))))) (
 .ret)))))))
theorem Try.fx28 : FnX Try.prog 28 82 #[.cell 4 4] Try.x28 :=
  ⟨Try.f28, Try.func28, by kernel_rfl, by kernel_rfl, by kernel_rfl, by kernel_rfl⟩
/-- freshet/freshetalike.Round -/
def Try.x29 : XCode :=
 .seq (.region [⟨some 4, .mov (.const (.int .i64 0)), none⟩]) (
 .seq (.region [⟨some 5, .mov (.tmp 0), none⟩,
    ⟨some 6, .mov (.tmp 1), none⟩,
    ⟨some 7, .bin .rem (.tmp 5) (.tmp 6), none⟩,
    ⟨some 8, .mov (.tmp 1), none⟩,
    ⟨some 9, .bin .add (.tmp 7) (.tmp 8), none⟩,
    ⟨some 10, .mov (.tmp 1), none⟩,
    ⟨some 11, .bin .rem (.tmp 9) (.tmp 10), none⟩,
    ⟨some 4, .mov (.tmp 11), none⟩]) (
 .ret))
theorem Try.fx29 : FnX Try.prog 29 12 #[.tmp 4] Try.x29 :=
  ⟨Try.f29, Try.func29, by kernel_rfl, by kernel_rfl, by kernel_rfl, by kernel_rfl⟩
end Go.Proofs.Ytkdbajfaaifkaaa
