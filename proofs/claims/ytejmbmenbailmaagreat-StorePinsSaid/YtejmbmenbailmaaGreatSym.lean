/- slices.SortStableFunc: what it is made of: swapRange, rotate, symMerge. -/
import Derived.Test.YtejmbmenbailmaaGreatB3
namespace Go.Xs
open Enc (enc)
variable {P : Program} {α : Type} [Enc α] {S : zo}
def KA (k : Nat) : zD :=
 .seq (.region [⟨some 10, .mov (.const (.int .i64 0)), none⟩]) (
 .block 0 (
  .loop (
   .seq (.seq (.region [⟨some 11, .mov (.tmp 10), none⟩,
    ⟨some 12, .mov (.tmp 3), none⟩,
    ⟨some 13, .bin .lss (.tmp 11) (.tmp 12), none⟩]) (
    .cond (.tmp 13) (
     .skip) (
     .exit 0))) (
   .seq (.block 1 (
    .draw (
     .q ⟨some 16, .mov (.tmp 0), none⟩ (
     .q ⟨some 17, .mov (.tmp 1), none⟩ (
     .q ⟨some 18, .mov (.tmp 10), none⟩ (
     .q ⟨some 19, .bin .add (.tmp 17) (.tmp 18), none⟩ (
     .q ⟨some 20, .mov (.tmp 0), none⟩ (
     .q ⟨some 21, .mov (.tmp 2), none⟩ (
     .q ⟨some 22, .mov (.tmp 10), none⟩ (
     .q ⟨some 23, .bin .add (.tmp 21) (.tmp 22), none⟩ (
     .q ⟨some 24, .mov (.tmp 0), none⟩ (
     .q ⟨some 25, .mov (.tmp 2), none⟩ (
     .q ⟨some 26, .mov (.tmp 10), none⟩ (
     .q ⟨some 27, .bin .add (.tmp 25) (.tmp 26), none⟩ (
     .q ⟨some 28, .iadr (.tmp 24) (.tmp 27) k, none⟩ (
     .q ⟨some 29, .loadN k (.tmp 28), none⟩ (
     .q ⟨some 30, .mov (.tmp 0), none⟩ (
     .q ⟨some 31, .mov (.tmp 1), none⟩ (
     .q ⟨some 32, .mov (.tmp 10), none⟩ (
     .q ⟨some 33, .bin .add (.tmp 31) (.tmp 32), none⟩ (
     .q ⟨some 34, .iadr (.tmp 30) (.tmp 33) k, none⟩ (
     .q ⟨some 35, .loadN k (.tmp 34), none⟩ (
     .q ⟨some 36, .iadr (.tmp 16) (.tmp 19) k, none⟩ (
     .alt ⟨none, .store k (.tmp 36) (.tmp 29), none⟩ false (
      .q ⟨some 37, .iadr (.tmp 20) (.tmp 23) k, none⟩ (
      .alt ⟨none, .store k (.tmp 37) (.tmp 35), none⟩ false (
       .done) (.noalt))) (.noalt))))))))))))))))))))))))) (
   .region [⟨some 14, .mov (.tmp 10), none⟩,
    ⟨some 15, .bin .add (.tmp 14) (.const (.int .i64 1)), none⟩,
    ⟨some 10, .mov (.tmp 15), none⟩])))))
def iy (fs : Nat) : zD :=
 .seq (.region [⟨some 12, .mov (.tmp 2), none⟩,
  ⟨some 13, .mov (.tmp 1), none⟩,
  ⟨some 14, .bin .sub (.tmp 12) (.tmp 13), none⟩,
  ⟨some 10, .mov (.tmp 14), none⟩]) (
 .seq (.region [⟨some 15, .mov (.tmp 3), none⟩,
  ⟨some 16, .mov (.tmp 2), none⟩,
  ⟨some 17, .bin .sub (.tmp 15) (.tmp 16), none⟩,
  ⟨some 11, .mov (.tmp 17), none⟩]) (
 .seq (.block 0 (
  .loop (
   .seq (.seq (.region [⟨some 18, .mov (.tmp 10), none⟩,
    ⟨some 19, .mov (.tmp 11), none⟩,
    ⟨some 20, .bin .neq (.tmp 18) (.tmp 19), none⟩]) (
    .cond (.tmp 20) (
     .skip) (
     .exit 0))) (
   .block 1 (
    .seq (.region [⟨some 21, .mov (.tmp 10), none⟩,
     ⟨some 22, .mov (.tmp 11), none⟩,
     ⟨some 23, .bin .gtr (.tmp 21) (.tmp 22), none⟩]) (
    .cond (.tmp 23) (
     .seq (.region [⟨some 24, .mov (.tmp 0), none⟩,
      ⟨some 25, .mov (.tmp 2), none⟩,
      ⟨some 26, .mov (.tmp 10), none⟩,
      ⟨some 27, .bin .sub (.tmp 25) (.tmp 26), none⟩,
      ⟨some 28, .mov (.tmp 2), none⟩,
      ⟨some 29, .mov (.tmp 11), none⟩,
      ⟨some 30, .mov (.tmp 4), none⟩,
      ⟨some 31, .call (.func fs) [(.tmp 24), (.tmp 27), (.tmp 28), (.tmp 29), (.tmp 30)], none⟩]) (
     .region [⟨some 32, .mov (.tmp 10), none⟩,
      ⟨some 33, .mov (.tmp 11), none⟩,
      ⟨some 34, .bin .sub (.tmp 32) (.tmp 33), none⟩,
      ⟨some 10, .mov (.tmp 34), none⟩])) (
     .seq (.region [⟨some 35, .mov (.tmp 0), none⟩,
      ⟨some 36, .mov (.tmp 2), none⟩,
      ⟨some 37, .mov (.tmp 10), none⟩,
      ⟨some 38, .bin .sub (.tmp 36) (.tmp 37), none⟩,
      ⟨some 39, .mov (.tmp 2), none⟩,
      ⟨some 40, .mov (.tmp 11), none⟩,
      ⟨some 41, .bin .add (.tmp 39) (.tmp 40), none⟩,
      ⟨some 42, .mov (.tmp 10), none⟩,
      ⟨some 43, .bin .sub (.tmp 41) (.tmp 42), none⟩,
      ⟨some 44, .mov (.tmp 10), none⟩,
      ⟨some 45, .mov (.tmp 4), none⟩,
      ⟨some 46, .call (.func fs) [(.tmp 35), (.tmp 38), (.tmp 43), (.tmp 44), (.tmp 45)], none⟩]) (
     .region [⟨some 47, .mov (.tmp 11), none⟩,
      ⟨some 48, .mov (.tmp 10), none⟩,
      ⟨some 49, .bin .sub (.tmp 47) (.tmp 48), none⟩,
      ⟨some 11, .mov (.tmp 49), none⟩])))))))) (
 .region [⟨some 50, .mov (.tmp 0), none⟩,
  ⟨some 51, .mov (.tmp 2), none⟩,
  ⟨some 52, .mov (.tmp 10), none⟩,
  ⟨some 53, .bin .sub (.tmp 51) (.tmp 52), none⟩,
  ⟨some 54, .mov (.tmp 2), none⟩,
  ⟨some 55, .mov (.tmp 10), none⟩,
  ⟨some 56, .mov (.tmp 4), none⟩,
  ⟨some 57, .call (.func fs) [(.tmp 50), (.tmp 53), (.tmp 54), (.tmp 55), (.tmp 56)], none⟩])))
def J6 (k fr fs : Nat) : zD :=
 .seq (.seq (.region [⟨some 25, .mov (.tmp 2), none⟩,
  ⟨some 26, .mov (.tmp 1), none⟩,
  ⟨some 27, .bin .sub (.tmp 25) (.tmp 26), none⟩,
  ⟨some 28, .bin .eql (.tmp 27) (.const (.int .i64 1)), none⟩]) (
  .cond (.tmp 28) (
   .seq (.region [⟨some 29, .mov (.tmp 2), none⟩,
    ⟨some 10, .mov (.tmp 29), none⟩]) (
   .seq (.region [⟨some 30, .mov (.tmp 3), none⟩,
    ⟨some 11, .mov (.tmp 30), none⟩]) (
   .seq (.block 0 (
    .loop (
     .seq (.seq (.region [⟨some 31, .mov (.tmp 10), none⟩,
      ⟨some 32, .mov (.tmp 11), none⟩,
      ⟨some 33, .bin .lss (.tmp 31) (.tmp 32), none⟩]) (
      .cond (.tmp 33) (
       .skip) (
       .exit 0))) (
     .block 1 (
      .seq (.region [⟨some 34, .mov (.tmp 10), none⟩,
       ⟨some 35, .mov (.tmp 11), none⟩,
       ⟨some 36, .bin .add (.tmp 34) (.tmp 35), none⟩,
       ⟨some 37, .conv .u64 (.tmp 36), none⟩,
       ⟨some 38, .bin .shr (.tmp 37) (.const (.int .u64 1)), none⟩,
       ⟨some 39, .conv .i64 (.tmp 38), none⟩,
       ⟨some 12, .mov (.tmp 39), none⟩]) (
      .seq (.draw (
       .q ⟨some 40, .mov (.tmp 4), none⟩ (
       .q ⟨some 41, .mov (.tmp 0), none⟩ (
       .q ⟨some 42, .mov (.tmp 12), none⟩ (
       .q ⟨some 43, .iadr (.tmp 41) (.tmp 42) k, none⟩ (
       .q ⟨some 44, .loadN k (.tmp 43), none⟩ (
       .q ⟨some 45, .mov (.tmp 0), none⟩ (
       .q ⟨some 46, .mov (.tmp 1), none⟩ (
       .q ⟨some 47, .iadr (.tmp 45) (.tmp 46) k, none⟩ (
       .q ⟨some 48, .loadN k (.tmp 47), none⟩ (
       .alt ⟨some 49, .call (.tmp 40) [(.tmp 44), (.tmp 48)], none⟩ false (
        .q ⟨some 50, .bin .lss (.tmp 49) (.const (.int .i64 0)), none⟩ (
        .done)) (.noalt)))))))))))) (
      .cond (.tmp 50) (
       .region [⟨some 51, .mov (.tmp 12), none⟩,
        ⟨some 52, .bin .add (.tmp 51) (.const (.int .i64 1)), none⟩,
        ⟨some 10, .mov (.tmp 52), none⟩]) (
       .region [⟨some 53, .mov (.tmp 12), none⟩,
        ⟨some 11, .mov (.tmp 53), none⟩])))))))) (
   .seq (.seq (.region [⟨some 54, .mov (.tmp 1), none⟩,
    ⟨some 13, .mov (.tmp 54), none⟩]) (
    .block 2 (
     .loop (
      .seq (.seq (.region [⟨some 55, .mov (.tmp 13), none⟩,
       ⟨some 56, .mov (.tmp 10), none⟩,
       ⟨some 57, .bin .sub (.tmp 56) (.const (.int .i64 1)), none⟩,
       ⟨some 58, .bin .lss (.tmp 55) (.tmp 57), none⟩]) (
       .cond (.tmp 58) (
        .skip) (
        .exit 2))) (
      .seq (.block 3 (
       .draw (
        .q ⟨some 61, .mov (.tmp 0), none⟩ (
        .q ⟨some 62, .mov (.tmp 13), none⟩ (
        .q ⟨some 63, .mov (.tmp 0), none⟩ (
        .q ⟨some 64, .mov (.tmp 13), none⟩ (
        .q ⟨some 65, .bin .add (.tmp 64) (.const (.int .i64 1)), none⟩ (
        .q ⟨some 66, .mov (.tmp 0), none⟩ (
        .q ⟨some 67, .mov (.tmp 13), none⟩ (
        .q ⟨some 68, .bin .add (.tmp 67) (.const (.int .i64 1)), none⟩ (
        .q ⟨some 69, .iadr (.tmp 66) (.tmp 68) k, none⟩ (
        .q ⟨some 70, .loadN k (.tmp 69), none⟩ (
        .q ⟨some 71, .mov (.tmp 0), none⟩ (
        .q ⟨some 72, .mov (.tmp 13), none⟩ (
        .q ⟨some 73, .iadr (.tmp 71) (.tmp 72) k, none⟩ (
        .q ⟨some 74, .loadN k (.tmp 73), none⟩ (
        .q ⟨some 75, .iadr (.tmp 61) (.tmp 62) k, none⟩ (
        .alt ⟨none, .store k (.tmp 75) (.tmp 70), none⟩ false (
         .q ⟨some 76, .iadr (.tmp 63) (.tmp 65) k, none⟩ (
         .alt ⟨none, .store k (.tmp 76) (.tmp 74), none⟩ false (
          .done) (.noalt))) (.noalt))))))))))))))))))) (
      .region [⟨some 59, .mov (.tmp 13), none⟩,
       ⟨some 60, .bin .add (.tmp 59) (.const (.int .i64 1)), none⟩,
       ⟨some 13, .mov (.tmp 60), none⟩])))))) (
   .ret))))) (
   .skip))) (
 .seq (.seq (.region [⟨some 77, .mov (.tmp 3), none⟩,
  ⟨some 78, .mov (.tmp 2), none⟩,
  ⟨some 79, .bin .sub (.tmp 77) (.tmp 78), none⟩,
  ⟨some 80, .bin .eql (.tmp 79) (.const (.int .i64 1)), none⟩]) (
  .cond (.tmp 80) (
   .seq (.region [⟨some 81, .mov (.tmp 1), none⟩,
    ⟨some 14, .mov (.tmp 81), none⟩]) (
   .seq (.region [⟨some 82, .mov (.tmp 2), none⟩,
    ⟨some 15, .mov (.tmp 82), none⟩]) (
   .seq (.block 4 (
    .loop (
     .seq (.seq (.region [⟨some 83, .mov (.tmp 14), none⟩,
      ⟨some 84, .mov (.tmp 15), none⟩,
      ⟨some 85, .bin .lss (.tmp 83) (.tmp 84), none⟩]) (
      .cond (.tmp 85) (
       .skip) (
       .exit 4))) (
     .block 5 (
      .seq (.region [⟨some 86, .mov (.tmp 14), none⟩,
       ⟨some 87, .mov (.tmp 15), none⟩,
       ⟨some 88, .bin .add (.tmp 86) (.tmp 87), none⟩,
       ⟨some 89, .conv .u64 (.tmp 88), none⟩,
       ⟨some 90, .bin .shr (.tmp 89) (.const (.int .u64 1)), none⟩,
       ⟨some 91, .conv .i64 (.tmp 90), none⟩,
       ⟨some 16, .mov (.tmp 91), none⟩]) (
      .seq (.draw (
       .q ⟨some 92, .mov (.tmp 4), none⟩ (
       .q ⟨some 93, .mov (.tmp 0), none⟩ (
       .q ⟨some 94, .mov (.tmp 2), none⟩ (
       .q ⟨some 95, .iadr (.tmp 93) (.tmp 94) k, none⟩ (
       .q ⟨some 96, .loadN k (.tmp 95), none⟩ (
       .q ⟨some 97, .mov (.tmp 0), none⟩ (
       .q ⟨some 98, .mov (.tmp 16), none⟩ (
       .q ⟨some 99, .iadr (.tmp 97) (.tmp 98) k, none⟩ (
       .q ⟨some 100, .loadN k (.tmp 99), none⟩ (
       .alt ⟨some 101, .call (.tmp 92) [(.tmp 96), (.tmp 100)], none⟩ false (
        .q ⟨some 102, .bin .lss (.tmp 101) (.const (.int .i64 0)), none⟩ (
        .q ⟨some 103, .un .not (.tmp 102), none⟩ (
        .done))) (.noalt)))))))))))) (
      .cond (.tmp 103) (
       .region [⟨some 104, .mov (.tmp 16), none⟩,
        ⟨some 105, .bin .add (.tmp 104) (.const (.int .i64 1)), none⟩,
        ⟨some 14, .mov (.tmp 105), none⟩]) (
       .region [⟨some 106, .mov (.tmp 16), none⟩,
        ⟨some 15, .mov (.tmp 106), none⟩])))))))) (
   .seq (.seq (.region [⟨some 107, .mov (.tmp 2), none⟩,
    ⟨some 17, .mov (.tmp 107), none⟩]) (
    .block 6 (
     .loop (
      .seq (.seq (.region [⟨some 108, .mov (.tmp 17), none⟩,
       ⟨some 109, .mov (.tmp 14), none⟩,
       ⟨some 110, .bin .gtr (.tmp 108) (.tmp 109), none⟩]) (
       .cond (.tmp 110) (
        .skip) (
        .exit 6))) (
      .seq (.block 7 (
       .draw (
        .q ⟨some 113, .mov (.tmp 0), none⟩ (
        .q ⟨some 114, .mov (.tmp 17), none⟩ (
        .q ⟨some 115, .mov (.tmp 0), none⟩ (
        .q ⟨some 116, .mov (.tmp 17), none⟩ (
        .q ⟨some 117, .bin .sub (.tmp 116) (.const (.int .i64 1)), none⟩ (
        .q ⟨some 118, .mov (.tmp 0), none⟩ (
        .q ⟨some 119, .mov (.tmp 17), none⟩ (
        .q ⟨some 120, .bin .sub (.tmp 119) (.const (.int .i64 1)), none⟩ (
        .q ⟨some 121, .iadr (.tmp 118) (.tmp 120) k, none⟩ (
        .q ⟨some 122, .loadN k (.tmp 121), none⟩ (
        .q ⟨some 123, .mov (.tmp 0), none⟩ (
        .q ⟨some 124, .mov (.tmp 17), none⟩ (
        .q ⟨some 125, .iadr (.tmp 123) (.tmp 124) k, none⟩ (
        .q ⟨some 126, .loadN k (.tmp 125), none⟩ (
        .q ⟨some 127, .iadr (.tmp 113) (.tmp 114) k, none⟩ (
        .alt ⟨none, .store k (.tmp 127) (.tmp 122), none⟩ false (
         .q ⟨some 128, .iadr (.tmp 115) (.tmp 117) k, none⟩ (
         .alt ⟨none, .store k (.tmp 128) (.tmp 126), none⟩ false (
          .done) (.noalt))) (.noalt))))))))))))))))))) (
      .region [⟨some 111, .mov (.tmp 17), none⟩,
       ⟨some 112, .bin .sub (.tmp 111) (.const (.int .i64 1)), none⟩,
       ⟨some 17, .mov (.tmp 112), none⟩])))))) (
   .ret))))) (
   .skip))) (
 .seq (.region [⟨some 129, .mov (.tmp 1), none⟩,
  ⟨some 130, .mov (.tmp 3), none⟩,
  ⟨some 131, .bin .add (.tmp 129) (.tmp 130), none⟩,
  ⟨some 132, .conv .u64 (.tmp 131), none⟩,
  ⟨some 133, .bin .shr (.tmp 132) (.const (.int .u64 1)), none⟩,
  ⟨some 134, .conv .i64 (.tmp 133), none⟩,
  ⟨some 18, .mov (.tmp 134), none⟩]) (
 .seq (.region [⟨some 135, .mov (.tmp 18), none⟩,
  ⟨some 136, .mov (.tmp 2), none⟩,
  ⟨some 137, .bin .add (.tmp 135) (.tmp 136), none⟩,
  ⟨some 19, .mov (.tmp 137), none⟩]) (
 .seq (.region [⟨some 20, .mov (.const (.int .i64 0)), none⟩,
  ⟨some 21, .mov (.const (.int .i64 0)), none⟩]) (
 .seq (.seq (.region [⟨some 138, .mov (.tmp 2), none⟩,
  ⟨some 139, .mov (.tmp 18), none⟩,
  ⟨some 140, .bin .gtr (.tmp 138) (.tmp 139), none⟩]) (
  .cond (.tmp 140) (
   .seq (.region [⟨some 141, .mov (.tmp 19), none⟩,
    ⟨some 142, .mov (.tmp 3), none⟩,
    ⟨some 143, .bin .sub (.tmp 141) (.tmp 142), none⟩,
    ⟨some 20, .mov (.tmp 143), none⟩]) (
   .region [⟨some 144, .mov (.tmp 18), none⟩,
    ⟨some 21, .mov (.tmp 144), none⟩])) (
   .seq (.region [⟨some 145, .mov (.tmp 1), none⟩,
    ⟨some 20, .mov (.tmp 145), none⟩]) (
   .region [⟨some 146, .mov (.tmp 2), none⟩,
    ⟨some 21, .mov (.tmp 146), none⟩])))) (
 .seq (.region [⟨some 147, .mov (.tmp 19), none⟩,
  ⟨some 148, .bin .sub (.tmp 147) (.const (.int .i64 1)), none⟩,
  ⟨some 22, .mov (.tmp 148), none⟩]) (
 .seq (.block 8 (
  .loop (
   .seq (.seq (.region [⟨some 149, .mov (.tmp 20), none⟩,
    ⟨some 150, .mov (.tmp 21), none⟩,
    ⟨some 151, .bin .lss (.tmp 149) (.tmp 150), none⟩]) (
    .cond (.tmp 151) (
     .skip) (
     .exit 8))) (
   .block 9 (
    .seq (.region [⟨some 152, .mov (.tmp 20), none⟩,
     ⟨some 153, .mov (.tmp 21), none⟩,
     ⟨some 154, .bin .add (.tmp 152) (.tmp 153), none⟩,
     ⟨some 155, .conv .u64 (.tmp 154), none⟩,
     ⟨some 156, .bin .shr (.tmp 155) (.const (.int .u64 1)), none⟩,
     ⟨some 157, .conv .i64 (.tmp 156), none⟩,
     ⟨some 23, .mov (.tmp 157), none⟩]) (
    .seq (.draw (
     .q ⟨some 158, .mov (.tmp 4), none⟩ (
     .q ⟨some 159, .mov (.tmp 0), none⟩ (
     .q ⟨some 160, .mov (.tmp 22), none⟩ (
     .q ⟨some 161, .mov (.tmp 23), none⟩ (
     .q ⟨some 162, .bin .sub (.tmp 160) (.tmp 161), none⟩ (
     .q ⟨some 163, .iadr (.tmp 159) (.tmp 162) k, none⟩ (
     .q ⟨some 164, .loadN k (.tmp 163), none⟩ (
     .q ⟨some 165, .mov (.tmp 0), none⟩ (
     .q ⟨some 166, .mov (.tmp 23), none⟩ (
     .q ⟨some 167, .iadr (.tmp 165) (.tmp 166) k, none⟩ (
     .q ⟨some 168, .loadN k (.tmp 167), none⟩ (
     .alt ⟨some 169, .call (.tmp 158) [(.tmp 164), (.tmp 168)], none⟩ false (
      .q ⟨some 170, .bin .lss (.tmp 169) (.const (.int .i64 0)), none⟩ (
      .q ⟨some 171, .un .not (.tmp 170), none⟩ (
      .done))) (.noalt)))))))))))))) (
    .cond (.tmp 171) (
     .region [⟨some 172, .mov (.tmp 23), none⟩,
      ⟨some 173, .bin .add (.tmp 172) (.const (.int .i64 1)), none⟩,
      ⟨some 20, .mov (.tmp 173), none⟩]) (
     .region [⟨some 174, .mov (.tmp 23), none⟩,
      ⟨some 21, .mov (.tmp 174), none⟩])))))))) (
 .seq (.region [⟨some 175, .mov (.tmp 19), none⟩,
  ⟨some 176, .mov (.tmp 20), none⟩,
  ⟨some 177, .bin .sub (.tmp 175) (.tmp 176), none⟩,
  ⟨some 24, .mov (.tmp 177), none⟩]) (
 .seq (.seq (.region [⟨some 178, .mov (.tmp 20), none⟩,
  ⟨some 179, .mov (.tmp 2), none⟩,
  ⟨some 180, .bin .lss (.tmp 178) (.tmp 179), none⟩,
  ⟨some 181, .mov (.tmp 180), none⟩,
  ⟨some 182, .mov (.tmp 2), some (181, true)⟩,
  ⟨some 183, .mov (.tmp 24), some (181, true)⟩,
  ⟨some 184, .bin .lss (.tmp 182) (.tmp 183), some (181, true)⟩,
  ⟨some 185, .pick (.tmp 181) (.tmp 184) (.const (.bool false)), none⟩]) (
  .cond (.tmp 185) (
   .region [⟨some 186, .mov (.tmp 0), none⟩,
    ⟨some 187, .mov (.tmp 20), none⟩,
    ⟨some 188, .mov (.tmp 2), none⟩,
    ⟨some 189, .mov (.tmp 24), none⟩,
    ⟨some 190, .mov (.tmp 4), none⟩,
    ⟨some 191, .call (.func fr) [(.tmp 186), (.tmp 187), (.tmp 188), (.tmp 189), (.tmp 190)], none⟩]) (
   .skip))) (
 .seq (.seq (.region [⟨some 192, .mov (.tmp 1), none⟩,
  ⟨some 193, .mov (.tmp 20), none⟩,
  ⟨some 194, .bin .lss (.tmp 192) (.tmp 193), none⟩,
  ⟨some 195, .mov (.tmp 194), none⟩,
  ⟨some 196, .mov (.tmp 20), some (195, true)⟩,
  ⟨some 197, .mov (.tmp 18), some (195, true)⟩,
  ⟨some 198, .bin .lss (.tmp 196) (.tmp 197), some (195, true)⟩,
  ⟨some 199, .pick (.tmp 195) (.tmp 198) (.const (.bool false)), none⟩]) (
  .cond (.tmp 199) (
   .region [⟨some 200, .mov (.tmp 0), none⟩,
    ⟨some 201, .mov (.tmp 1), none⟩,
    ⟨some 202, .mov (.tmp 20), none⟩,
    ⟨some 203, .mov (.tmp 18), none⟩,
    ⟨some 204, .mov (.tmp 4), none⟩,
    ⟨some 205, .call (.func fs) [(.tmp 200), (.tmp 201), (.tmp 202), (.tmp 203), (.tmp 204)], none⟩]) (
   .skip))) (
 .seq (.region [⟨some 206, .mov (.tmp 18), none⟩,
  ⟨some 207, .mov (.tmp 24), none⟩,
  ⟨some 208, .bin .lss (.tmp 206) (.tmp 207), none⟩,
  ⟨some 209, .mov (.tmp 208), none⟩,
  ⟨some 210, .mov (.tmp 24), some (209, true)⟩,
  ⟨some 211, .mov (.tmp 3), some (209, true)⟩,
  ⟨some 212, .bin .lss (.tmp 210) (.tmp 211), some (209, true)⟩,
  ⟨some 213, .pick (.tmp 209) (.tmp 212) (.const (.bool false)), none⟩]) (
 .cond (.tmp 213) (
  .region [⟨some 214, .mov (.tmp 0), none⟩,
   ⟨some 215, .mov (.tmp 18), none⟩,
   ⟨some 216, .mov (.tmp 24), none⟩,
   ⟨some 217, .mov (.tmp 3), none⟩,
   ⟨some 218, .mov (.tmp 4), none⟩,
   ⟨some 219, .call (.func fs) [(.tmp 214), (.tmp 215), (.tmp 216), (.tmp 217), (.tmp 218)], none⟩]) (
  .skip)))))))))))))
theorem Zc.re {ty b : Nat} {L L' sp : List α} {fz : Nat × Nat} {n c : Nat} (hz : uO fz (cells (L ++ sp)).length) (hl : L'.length = L.length) (hn : n = L.length) (hc : c = L.length + sp.length) :
 Zc ty (.slice (some ⟨b, 0, none⟩) n c) L' [(b, .cells (cells (L' ++ sp)).toArray ty fz)] := by
 subst hn hc;rw [← hl];refine .row ?_;rw [zK, List.length_append, hl, ← List.length_append, ← zK]; exact hz
theorem bK {β : Type} (U V W : List β) (x y : β) : ((U ++ x :: (V ++ y :: W)).set U.length y).set (U.length + 1 + V.length) x = U ++ y :: (V ++ x :: W) := by
 rw [List.set_append_right _ _ (by omega), Nat.sub_self, List.set_cons_zero, List.set_append_right _ _ (by omega)];rw [show U.length + 1 + V.length - U.length = V.length + 1 from by omega, List.set_cons_succ, List.set_append_right _ _ (by omega), Nat.sub_self, List.set_cons_zero]
theorem Uc {f k ty : Nat} (hf : Za P f 38 #[] (KA k)) (hk : Enc.k α = k) {v cv : Value} {p A M B q : List α} {H : List Chunk} (hL : Zc ty v (p ++ A ++ M ++ B ++ q) H) (hlen : (p ++ A ++ M ++ B ++ q).length < 2 ^ 40)
 (hab : A.length = B.length) {a b n : Int} (ha : a = p.length) (hb : b = p.length + A.length + M.length) (hn : n = A.length) :
 zP P f #[v, .int .i64 a, .int .i64 b, .int .i64 n, cv] [H] (fun r S => r = .tuple #[] ∧ ∃ H', Zc ty v (p ++ B ++ M ++ A ++ q) H' ∧ S = [H']) := by
 subst ha hb hn;refine zP.forget (zm hf (Nat.le_of_ble_eq_true rfl) ?_);unfold KA;have hN : (p ++ A ++ M ++ B ++ q).length = p.length + A.length + M.length + B.length + q.length := by simp; omega
 generalize hNN : (p ++ A ++ M ++ B ++ q).length = N at *
 obtain ⟨a0, c0, hv⟩ := hL.isSlice;rw [hNN] at hv;subst hv;refine ze (z8 (yp pC (zf (za (zw ?_)))));refine Z9 (σ := Nat) (fun i E S => Has E [(0, .slice a0 N c0), (1, .int .i64 p.length), (2, .int .i64 (p.length + A.length + M.length : Int)), (3, .int .i64 A.length), (10, .int .i64 i)] ∧ i ≤ A.length ∧ ∃ H', Zc ty (.slice a0 N c0) (p ++ (B.take i ++ A.drop i) ++ M ++ (A.take i ++ B.drop i) ++ q) H' ∧ zC S [H']) (fun i => A.length - i) 0 ⟨⟨rfl, rfl, rfl, rfl, rfl, trivial⟩, Nat.zero_le _, H, by simpa using hL, .self⟩ fun i E S ⟨hE, hi, H1, hL1, hJ⟩ => ?_
 obtain ⟨E0, e0⟩ := zy hE; subst e0; clear hE;refine zq hJ (ze (ze (z8 (yp (pI rfl) (yp (pI rfl) (yp (ZO rfl rfl) (zf (za ?_))))))));refine zQ rfl (fun h => ?_) (fun h => ?_)
 ·have hA : i < A.length := by omega
  have hB : i < B.length := by omega
  obtain ⟨bb, sp, fz, hz, rfl, hN2, hc0, rfl⟩ := hL1.at' (by intro h; have := congrArg List.length h; simp at this; omega);have hAd : A.drop i = A[i] :: A.drop (i + 1) := List.drop_eq_getElem_cons hA;have hBd : B.drop i = B[i] :: B.drop (i + 1) := List.drop_eq_getElem_cons hB;have hAt : A.take (i + 1) = A.take i ++ [A[i]] := by rw [List.take_add_one, List.getElem?_eq_getElem hA]; rfl
  have hBt : B.take (i + 1) = B.take i ++ [B[i]] := by rw [List.take_add_one, List.getElem?_eq_getElem hB]; rfl
  generalize A[i] = x at hAd hAt;generalize B[i] = y at hBd hBt;have hsh : p ++ (B.take i ++ A.drop i) ++ M ++ (A.take i ++ B.drop i) ++ q = (p ++ B.take i) ++ x :: ((A.drop (i + 1) ++ M ++ A.take i) ++ y :: (B.drop (i + 1) ++ q)) := by
   rw [hAd, hBd]; simp
  have hsh2 : p ++ (B.take (i + 1) ++ A.drop (i + 1)) ++ M ++ (A.take (i + 1) ++ B.drop (i + 1)) ++ q = (p ++ B.take i) ++ y :: ((A.drop (i + 1) ++ M ++ A.take i) ++ x :: (B.drop (i + 1) ++ q)) := by
   rw [hAt, hBt]; simp
  have hu : (p ++ B.take i).length = p.length + i := by simp; omega
  have hw : (A.drop (i + 1) ++ M ++ A.take i).length = A.length + M.length - 1 := by simp; omega
  have hl2 : (p ++ (B.take (i + 1) ++ A.drop (i + 1)) ++ M ++ (A.take (i + 1) ++ B.drop (i + 1)) ++ q).length = (p ++ (B.take i ++ A.drop i) ++ M ++ (A.take i ++ B.drop i) ++ q).length := by
   rw [hsh2, hsh]; simp
  generalize p ++ (B.take i ++ A.drop i) ++ M ++ (A.take i ++ B.drop i) ++ q = LL at *
  generalize hh : p ++ (B.take (i + 1) ++ A.drop (i + 1)) ++ M ++ (A.take (i + 1) ++ B.drop (i + 1)) ++ q = LL2 at *
  have hx1 : LL[p.length + i]? = some x := by
   rw [hsh, ← hu, List.getElem?_append_right (by omega)]; simp
  have hy1 : LL[p.length + A.length + M.length + i]? = some y := by
   rw [hsh, List.getElem?_append_right (by omega), hu];rw [show p.length + A.length + M.length + i - (p.length + i) = (A.length + M.length - 1) + 1 from by omega, List.getElem?_cons_succ, ← hw, List.getElem?_append_right (by omega)]; simp
  refine zu (za (ze (zw (zX (zi (pS rfl) (zi (pI rfl) (zi (pI rfl) (zi (Zo rfl rfl (by omega)) (zi (pS rfl) (zi (pI rfl) (zi (pI rfl) (zi (Zo rfl rfl (by omega)) (zi (pS rfl) (zi (pI rfl) (zi (pI rfl) (zi (Zo rfl rfl (by omega)) (zi (zU rfl rfl (by omega)) (Vi (l := enc y) rfl (Zw hy1 hk) (by rw [Enc.len, hk]) (zi (pS rfl) (zi (pI rfl) (zi (pI rfl) (zi (Zo rfl rfl (by omega)) (zi (zU rfl rfl (by omega)) (Vi (l := enc x) rfl (Zw hx1 hk) (by rw [Enc.len, hk]) (zi (zU rfl rfl (by omega)) ?_)))))))))))))))))))))))));have hb1 : p.length + i < (LL ++ sp).length := by rw [List.length_append]; omega
  have hb2 : p.length + A.length + M.length + i < (LL ++ sp).length := by rw [List.length_append]; omega
  refine zN (Zj (y := y) rfl hb1 hk rfl hz ?_) zO;refine zi (zU rfl rfl (by omega)) ?_;refine zN (Zj (y := x) rfl (by rw [List.length_set]; exact hb2) hk rfl (by rw [zK, List.length_set, ← zK]; exact hz) ?_) zO;refine zL (zT (za (z8 (yp (pI rfl) (yp (Zg rfl rfl (by omega)) (yp (pI rfl) (zf (za ?_))))))));have hsw : ((LL ++ sp).set (p.length + i) y).set (p.length + A.length + M.length + i) x = LL2 ++ sp := by
   have := bK (p ++ B.take i) (A.drop (i + 1) ++ M ++ A.take i) (B.drop (i + 1) ++ q ++ sp) x y;rw [hu, hw, show p.length + i + 1 + (A.length + M.length - 1) = p.length + A.length + M.length + i from by omega] at this;rw [hsh, hsh2];simp at this ⊢;exact this
  rw [hsw];exact ⟨i + 1, ⟨⟨rfl, rfl, rfl, rfl, rfl, trivial⟩, by omega, [(bb, .cells (cells (LL2 ++ sp)).toArray ty fz)], by rw [hh]; exact Zc.re hz hl2 hN2 hc0, .of⟩, by omega⟩
 ·refine Z4 (zF (zF (Z5 ?_)));have : i = A.length := by omega
  subst this;rw [List.take_of_length_le (by omega), List.take_of_length_le (by omega), List.drop_eq_nil_of_le (by omega), List.drop_eq_nil_of_le (by omega), List.append_nil, List.append_nil] at hL1;exact ZW w9 ⟨_, .of, rfl, _, hL1, rfl⟩
theorem rotate {f fs k ty : Nat} (hf : Za P f 58 #[] (iy fs)) (hs : Za P fs 38 #[] (KA k)) (hk : Enc.k α = k) {cf : Nat} {v : Value} {p X Y q : List α} {H : List Chunk} (hL : Zc ty v (p ++ X ++ Y ++ q) H) (hlen : (p ++ X ++ Y ++ q).length < 2 ^ 40)
 (hx : 0 < X.length) (hy : 0 < Y.length) {a m b : Int} (ha : a = p.length) (hm : m = p.length + X.length) (hb : b = p.length + X.length + Y.length) :
 zP P f #[v, .int .i64 a, .int .i64 m, .int .i64 b, .func (.func cf) #[] #[]] [H] (fun r S => r = .tuple #[] ∧ ∃ H', Zc ty v (p ++ Y ++ X ++ q) H' ∧ S = [H']) := by
 subst ha hm hb;refine zP.forget (zm hf (Nat.le_of_ble_eq_true rfl) ?_);unfold iy;have hN : (p ++ X ++ Y ++ q).length = p.length + X.length + Y.length + q.length := by simp; omega
 generalize hNN : (p ++ X ++ Y ++ q).length = N at *
 obtain ⟨a0, c0, hv⟩ := hL.isSlice;rw [hNN] at hv;subst hv;refine ze (z8 (yp (pI rfl) (yp (pI rfl) (yp (ZH rfl rfl (by omega)) (yp (pI rfl) (zf (za (ze (z8 (yp (pI rfl) (yp (pI rfl) (yp (ZH rfl rfl (by omega)) (yp (pI rfl) (zf (za (ze (zw ?_)))))))))))))))));refine Z9 (σ := List α × List α × List α × List α) (fun s E S => Has E [(0, .slice a0 N c0), (2, .int .i64 (p.length + X.length : Int)), (4, .func (.func cf) #[] #[]), (10, .int .i64 s.2.1.length), (11, .int .i64 s.2.2.1.length)] ∧ Y ++ X = s.1 ++ s.2.2.1 ++ s.2.1 ++ s.2.2.2 ∧ s.1.length + s.2.1.length = X.length ∧ 0 < s.2.1.length ∧ 0 < s.2.2.1.length ∧ ∃ H', Zc ty (.slice a0 N c0) (p ++ s.1 ++ s.2.1 ++ s.2.2.1 ++ s.2.2.2 ++ q) H' ∧ zC S [H']) (fun s => s.2.1.length + s.2.2.1.length) ([], X, Y, []) ⟨⟨rfl, rfl, rfl, ?_, ?_, trivial⟩, by simp, by simp, hx, hy, H, by simpa using hL, .self⟩ fun s E S ⟨hE, hYX, hDm, hX0, hY0, H1, hL1, hJ⟩ => ?_
 ·show Value.int .i64 ((p.length : Int) + X.length - p.length) = .int .i64 (X.length : Int);congr 1; omega
 ·show Value.int .i64 ((p.length : Int) + X.length + Y.length - (p.length + X.length)) = .int .i64 (Y.length : Int);congr 1; omega
 obtain ⟨D, X', Y', Z⟩ := s;simp only at hE hYX hDm hX0 hY0 hL1;have hll := congrArg List.length hYX;simp only [List.length_append] at hll;obtain ⟨E0, e0⟩ := zy hE; subst e0; clear hE;refine zq hJ (ze (ze (z8 (yp (pI rfl) (yp (pI rfl) (yp (Xb rfl rfl) (zf (za ?_))))))));refine Vl rfl (fun h => ?_) (fun h => ?_)
 ·refine zu (za (zw (ze (z8 (yp (pI rfl) (yp (pI rfl) (yp (Vs rfl rfl) (zf (za ?_)))))))));refine zQ rfl (fun h2 => ?_) (fun h2 => ?_)
  ·refine ze (z8 (yp (pS rfl) (yp (pI rfl) (yp (pI rfl) (yp (ZH rfl rfl (by omega)) (yp (pI rfl) (yp (pI rfl) (yp (pF rfl) ?_))))))));have e1 : p ++ D ++ X' ++ Y' ++ Z ++ q = (p ++ D) ++ X'.take Y'.length ++ X'.drop Y'.length ++ Y' ++ (Z ++ q) := by
    conv => lhs; rw [← List.take_append_drop Y'.length X']
    simp only [List.append_assoc]
   rw [e1] at hL1;have hle : (p ++ D ++ X'.take Y'.length ++ X'.drop Y'.length ++ Y' ++ (Z ++ q)).length < 2 ^ 40 := by rw [← e1]; simp only [List.length_append]; omega
   refine zh (zk (Uc hs hk hL1 hle (by simp; omega) (a := (p.length : Int) + X.length - X'.length) (b := (p.length : Int) + X.length) (n := (Y'.length : Int)) (by simp; omega) (by simp; omega) (by simp; omega)) rfl rfl fun r S' h => ?_);obtain ⟨rfl, H2, hL2, rfl⟩ := h;refine zf (za (z8 (yp (pI rfl) (yp (pI rfl) (yp (ZH rfl rfl (by omega)) (yp (pI rfl) (zf (zT (za ?_)))))))));refine ⟨(D ++ Y', X'.drop Y'.length, X'.take Y'.length, Z), ⟨⟨rfl, rfl, rfl, ?_, ?_, trivial⟩, ?_, ?_, ?_, ?_, H2, ?_, .of⟩, ?_⟩
   ·show Value.int .i64 ((X'.length : Int) - Y'.length) = .int .i64 ((X'.drop Y'.length).length : Int);congr 1; simp; omega
   ·show Value.int .i64 (Y'.length : Int) = .int .i64 ((X'.take Y'.length).length : Int);congr 1; simp; omega
   ·rw [hYX]
    conv => lhs; rw [← List.take_append_drop Y'.length X']
    simp only [List.append_assoc]
   ·simp; omega
   ·simp; omega
   ·simp; omega
   ·simpa only [List.append_assoc] using hL2
   ·simp; omega
  ·refine ze (z8 (yp (pS rfl) (yp (pI rfl) (yp (pI rfl) (yp (ZH rfl rfl (by omega)) (yp (pI rfl) (yp (pI rfl) (yp (Zo rfl rfl (by omega)) (yp (pI rfl) (yp (ZH rfl rfl (by omega)) (yp (pI rfl) (yp (pF rfl) ?_))))))))))));have e1 : p ++ D ++ X' ++ Y' ++ Z ++ q = (p ++ D) ++ X' ++ Y'.take (Y'.length - X'.length) ++ Y'.drop (Y'.length - X'.length) ++ (Z ++ q) := by
    conv => lhs; rw [← List.take_append_drop (Y'.length - X'.length) Y']
    simp only [List.append_assoc]
   rw [e1] at hL1;have hle : (p ++ D ++ X' ++ Y'.take (Y'.length - X'.length) ++ Y'.drop (Y'.length - X'.length) ++ (Z ++ q)).length < 2 ^ 40 := by rw [← e1]; simp only [List.length_append]; omega
   refine zh (zk (Uc hs hk hL1 hle (by simp; omega) (a := (p.length : Int) + X.length - X'.length) (b := (p.length : Int) + X.length + Y'.length - X'.length) (n := (X'.length : Int)) (by simp; omega) (by simp; omega) (by simp)) rfl rfl fun r S' h => ?_);obtain ⟨rfl, H2, hL2, rfl⟩ := h;refine zf (za (z8 (yp (pI rfl) (yp (pI rfl) (yp (ZH rfl rfl (by omega)) (yp (pI rfl) (zf (zT (za ?_)))))))));refine ⟨(D, Y'.drop (Y'.length - X'.length), Y'.take (Y'.length - X'.length), X' ++ Z), ⟨⟨rfl, rfl, rfl, ?_, ?_, trivial⟩, ?_, ?_, ?_, ?_, H2, ?_, .of⟩, ?_⟩
   ·show Value.int .i64 (X'.length : Int) = .int .i64 ((Y'.drop (Y'.length - X'.length)).length : Int);congr 1; simp; omega
   ·show Value.int .i64 ((Y'.length : Int) - X'.length) = .int .i64 ((Y'.take (Y'.length - X'.length)).length : Int);congr 1; simp; omega
   ·rw [hYX]
    conv => lhs; rw [← List.take_append_drop (Y'.length - X'.length) Y']
    simp only [List.append_assoc]
   ·simp; omega
   ·simp; omega
   ·simp; omega
   ·simpa only [List.append_assoc] using hL2
   ·simp; omega
 ·refine Z4 (zF (zF (Z5 (za (z8 (yp (pS rfl) (yp (pI rfl) (yp (pI rfl) (yp (ZH rfl rfl (by omega)) (yp (pI rfl) (yp (pI rfl) (yp (pF rfl) ?_))))))))))));have e1 : p ++ D ++ X' ++ Y' ++ Z ++ q = (p ++ D) ++ X' ++ [] ++ Y' ++ (Z ++ q) := by simp only [List.append_assoc, List.nil_append]
  rw [e1] at hL1;have hle : (p ++ D ++ X' ++ [] ++ Y' ++ (Z ++ q)).length < 2 ^ 40 := by rw [← e1]; simp only [List.length_append]; omega
  refine zh (zk (Uc hs hk hL1 hle (by omega) (a := (p.length : Int) + X.length - X'.length) (b := (p.length : Int) + X.length) (n := (X'.length : Int)) (by simp; omega) (by simp; omega) rfl) rfl rfl fun r S' h => ?_);obtain ⟨rfl, H2, hL2, rfl⟩ := h;refine zf ?_;refine ZW w9 ⟨_, .of, rfl, H2, ?_, rfl⟩;have e2 : p ++ Y ++ X ++ q = p ++ D ++ Y' ++ [] ++ X' ++ (Z ++ q) := by
   rw [List.append_assoc p Y X, hYX];simp only [List.append_assoc, List.nil_append]
  rw [e2]; exact hL2
end Go.Xs