/- The compiled code of some of the program's functions, printed by a program, and that it is what the compiler of these texts makes of them. -/
import Derived.Test.YtkdbajfaaifkaaaB1
import Derived.Test.YtkdbajfaaifkaaaProg
import Derived.KernelRfl
namespace Go.Proofs.Ytkdbajfaaifkaaa
open Go.Xs
/-- slices.Clone[[]byte,byte] -/
def Try.x54 : XCode :=
 .seq (.region [⟨some 2, .mov (.const (.slice none 0 0)), none⟩]) (
 .seq (.seq (.region [⟨some 3, .mov (.tmp 0), none⟩,
     ⟨some 4, .eqn 1 false (.tmp 3) (.const (.slice none 0 0)), none⟩]) (
  .cond (.tmp 4) (
   .seq (.region [⟨some 2, .mov (.const (.slice none 0 0)), none⟩]) (
   .ret)) (
   .skip))) (
 .seq (.region [⟨some 5, .bsl 5 0 1 [(.int .u8 0)] [], none⟩,
    ⟨some 6, .mov (.tmp 0), none⟩,
    ⟨some 7, .app 5 1 1 [(.int .u8 0)] (.tmp 5) (.tmp 6), none⟩,
    ⟨some 2, .mov (.tmp 7), none⟩]) (
 .ret)))
theorem Try.fx54 : FnX Try.prog 54 8 #[.tmp 2] Try.x54 :=
  ⟨Try.f54, Try.func54, by kernel_rfl, by kernel_rfl, by kernel_rfl, by kernel_rfl⟩
/-- slices.SortFunc[[]int,int] -/
def Try.x59 : XCode :=
 .seq (.region [⟨some 5, .mov (.tmp 0), none⟩,
    ⟨some 6, .len (.tmp 5), none⟩,
    ⟨some 4, .mov (.tmp 6), none⟩]) (
 .region [⟨some 7, .mov (.tmp 0), none⟩,
   ⟨some 8, .mov (.tmp 4), none⟩,
   ⟨some 9, .mov (.tmp 4), none⟩,
   ⟨some 10, .conv .u64 (.tmp 9), none⟩,
   ⟨some 11, .call (.func 75) [(.tmp 10)], none⟩,
   ⟨some 12, .mov (.tmp 1), none⟩,
   ⟨some 13, .call (.func 74) [(.tmp 7), (.const (.int .i64 0)), (.tmp 8), (.tmp 11), (.tmp 12)], none⟩])
theorem Try.fx59 : FnX Try.prog 59 14 #[] Try.x59 :=
  ⟨Try.f59, Try.func59, by kernel_rfl, by kernel_rfl, by kernel_rfl, by kernel_rfl⟩
/-- cmp.Compare[int] -/
def Try.x61 : XCode :=
 .seq (.region [⟨some 4, .mov (.const (.int .i64 0)), none⟩]) (
 .seq (.region [⟨some 7, .mov (.tmp 0), none⟩,
    ⟨some 8, .call (.func 76) [(.tmp 7)], none⟩,
    ⟨some 5, .mov (.tmp 8), none⟩]) (
 .seq (.region [⟨some 9, .mov (.tmp 1), none⟩,
    ⟨some 10, .call (.func 76) [(.tmp 9)], none⟩,
    ⟨some 6, .mov (.tmp 10), none⟩]) (
 .seq (.seq (.region [⟨some 11, .mov (.tmp 5), none⟩]) (
  .cond (.tmp 11) (
   .seq (.seq (.region [⟨some 12, .mov (.tmp 6), none⟩]) (
    .cond (.tmp 12) (
     .seq (.region [⟨some 4, .mov (.const (.int .i64 0)), none⟩]) (
     .ret)) (
     .skip))) (
   .seq (.region [⟨some 4, .mov (.const (.int .i64 (-1))), none⟩]) (
   .ret))) (
   .skip))) (
 .seq (.seq (.region [⟨some 13, .mov (.tmp 6), none⟩]) (
  .cond (.tmp 13) (
   .seq (.region [⟨some 4, .mov (.const (.int .i64 1)), none⟩]) (
   .ret)) (
   .skip))) (
 .seq (.seq (.region [⟨some 14, .mov (.tmp 0), none⟩,
     ⟨some 15, .mov (.tmp 1), none⟩,
     ⟨some 16, .bin .lss (.tmp 14) (.tmp 15), none⟩]) (
  .cond (.tmp 16) (
   .seq (.region [⟨some 4, .mov (.const (.int .i64 (-1))), none⟩]) (
   .ret)) (
   .skip))) (
 .seq (.seq (.region [⟨some 17, .mov (.tmp 0), none⟩,
     ⟨some 18, .mov (.tmp 1), none⟩,
     ⟨some 19, .bin .gtr (.tmp 17) (.tmp 18), none⟩]) (
  .cond (.tmp 19) (
   .seq (.region [⟨some 4, .mov (.const (.int .i64 1)), none⟩]) (
   .ret)) (
   .skip))) (
 .seq (.region [⟨some 4, .mov (.const (.int .i64 0)), none⟩]) (
 .ret))))))))
theorem Try.fx61 : FnX Try.prog 61 20 #[.tmp 4] Try.x61 :=
  ⟨Try.f61, Try.func61, by kernel_rfl, by kernel_rfl, by kernel_rfl, by kernel_rfl⟩
/-- slices.Clone[[]freshet/arena.block,freshet/arena.block] -/
def Try.x73 : XCode :=
 .seq (.region [⟨some 2, .mov (.const (.slice none 0 0)), none⟩]) (
 .seq (.seq (.region [⟨some 3, .mov (.tmp 0), none⟩,
     ⟨some 4, .eqn 1 false (.tmp 3) (.const (.slice none 0 0)), none⟩]) (
  .cond (.tmp 4) (
   .seq (.region [⟨some 2, .mov (.const (.slice none 0 0)), none⟩]) (
   .ret)) (
   .skip))) (
 .seq (.region [⟨some 5, .bsl 89 0 2 [(.int .i64 0), (.int .i64 0)] [], none⟩,
    ⟨some 6, .mov (.tmp 0), none⟩,
    ⟨some 7, .app 89 2 16 [(.int .i64 0), (.int .i64 0)] (.tmp 5) (.tmp 6), none⟩,
    ⟨some 2, .mov (.tmp 7), none⟩]) (
 .ret)))
theorem Try.fx73 : FnX Try.prog 73 8 #[.tmp 2] Try.x73 :=
  ⟨Try.f73, Try.func73, by kernel_rfl, by kernel_rfl, by kernel_rfl, by kernel_rfl⟩
/-- slices.pdqsortCmpFunc[int] -/
def Try.x74 : XCode :=
 .seq (.region [⟨some 10, .mov (.const (.bool true)), none⟩]) (
 .seq (.region [⟨some 11, .mov (.const (.bool true)), none⟩]) (
 .block 0 (
  .loop (
   .block 1 (
    .seq (.region [⟨some 21, .mov (.tmp 2), none⟩,
       ⟨some 22, .mov (.tmp 1), none⟩,
       ⟨some 23, .bin .sub (.tmp 21) (.tmp 22), none⟩,
       ⟨some 12, .mov (.tmp 23), none⟩]) (
    .seq (.seq (.region [⟨some 24, .mov (.tmp 12), none⟩,
        ⟨some 25, .bin .leq (.tmp 24) (.const (.int .i64 12)), none⟩]) (
     .cond (.tmp 25) (
      .seq (.region [⟨some 26, .mov (.tmp 0), none⟩,
         ⟨some 27, .mov (.tmp 1), none⟩,
         ⟨some 28, .mov (.tmp 2), none⟩,
         ⟨some 29, .mov (.tmp 4), none⟩,
         ⟨some 30, .call (.func 79) [(.tmp 26), (.tmp 27), (.tmp 28), (.tmp 29)], none⟩]) (
      .ret)) (
      .skip))) (
    .seq (.seq (.region [⟨some 31, .mov (.tmp 3), none⟩,
        ⟨some 32, .bin .eql (.tmp 31) (.const (.int .i64 0)), none⟩]) (
     .cond (.tmp 32) (
      .seq (.region [⟨some 33, .mov (.tmp 0), none⟩,
         ⟨some 34, .mov (.tmp 1), none⟩,
         ⟨some 35, .mov (.tmp 2), none⟩,
         ⟨some 36, .mov (.tmp 4), none⟩,
         ⟨some 37, .call (.func 80) [(.tmp 33), (.tmp 34), (.tmp 35), (.tmp 36)], none⟩]) (
      .ret)) (
      .skip))) (
    .seq (.seq (.region [⟨some 38, .mov (.tmp 10), none⟩,
        ⟨some 39, .un .not (.tmp 38), none⟩]) (
     .cond (.tmp 39) (
      .seq (.region [⟨some 40, .mov (.tmp 0), none⟩,
         ⟨some 41, .mov (.tmp 1), none⟩,
         ⟨some 42, .mov (.tmp 2), none⟩,
         ⟨some 43, .mov (.tmp 4), none⟩,
         ⟨some 44, .call (.func 81) [(.tmp 40), (.tmp 41), (.tmp 42), (.tmp 43)], none⟩]) (
      .region [⟨some 45, .mov (.tmp 3), none⟩,
        ⟨some 46, .bin .sub (.tmp 45) (.const (.int .i64 1)), none⟩,
        ⟨some 3, .mov (.tmp 46), none⟩])) (
      .skip))) (
    .seq (.region [⟨some 48, .mov (.tmp 0), none⟩,
       ⟨some 49, .mov (.tmp 1), none⟩,
       ⟨some 50, .mov (.tmp 2), none⟩,
       ⟨some 51, .mov (.tmp 4), none⟩,
       ⟨some 52, .call (.func 82) [(.tmp 48), (.tmp 49), (.tmp 50), (.tmp 51)], none⟩,
       ⟨some 47, .mov (.tmp 52), none⟩,
       ⟨some 53, .ext (.tmp 47) 0, none⟩,
       ⟨some 54, .ext (.tmp 47) 1, none⟩,
       ⟨some 13, .mov (.tmp 53), none⟩,
       ⟨some 14, .mov (.tmp 54), none⟩]) (
    .seq (.seq (.region [⟨some 55, .mov (.tmp 14), none⟩,
        ⟨some 56, .bin .eql (.tmp 55) (.const (.int .i64 2)), none⟩]) (
     .cond (.tmp 56) (
      .seq (.region [⟨some 57, .mov (.tmp 0), none⟩,
         ⟨some 58, .mov (.tmp 1), none⟩,
         ⟨some 59, .mov (.tmp 2), none⟩,
         ⟨some 60, .mov (.tmp 4), none⟩,
         ⟨some 61, .call (.func 83) [(.tmp 57), (.tmp 58), (.tmp 59), (.tmp 60)], none⟩]) (
      .seq (.region [⟨some 62, .mov (.tmp 2), none⟩,
         ⟨some 63, .bin .sub (.tmp 62) (.const (.int .i64 1)), none⟩,
         ⟨some 64, .mov (.tmp 13), none⟩,
         ⟨some 65, .mov (.tmp 1), none⟩,
         ⟨some 66, .bin .sub (.tmp 64) (.tmp 65), none⟩,
         ⟨some 67, .bin .sub (.tmp 63) (.tmp 66), none⟩,
         ⟨some 13, .mov (.tmp 67), none⟩]) (
      .region [⟨some 14, .mov (.const (.int .i64 1)), none⟩]))) (
      .skip))) (
    .seq (.seq (.region [⟨some 68, .mov (.tmp 10), none⟩,
        ⟨some 69, .mov (.tmp 68), none⟩,
        ⟨some 70, .mov (.tmp 11), some (69, true)⟩,
        ⟨some 71, .pick (.tmp 69) (.tmp 70) (.const (.bool false)), none⟩,
        ⟨some 72, .mov (.tmp 71), none⟩,
        ⟨some 73, .mov (.tmp 14), some (72, true)⟩,
        ⟨some 74, .bin .eql (.tmp 73) (.const (.int .i64 1)), some (72, true)⟩,
        ⟨some 75, .pick (.tmp 72) (.tmp 74) (.const (.bool false)), none⟩]) (
     .cond (.tmp 75) (
      .seq (.region [⟨some 76, .mov (.tmp 0), none⟩,
         ⟨some 77, .mov (.tmp 1), none⟩,
         ⟨some 78, .mov (.tmp 2), none⟩,
         ⟨some 79, .mov (.tmp 4), none⟩,
         ⟨some 80, .call (.func 84) [(.tmp 76), (.tmp 77), (.tmp 78), (.tmp 79)], none⟩]) (
      .cond (.tmp 80) (
       .ret) (
       .skip))) (
      .skip))) (
    .seq (.seq (.draw (
       .q ⟨some 81, .mov (.tmp 1), none⟩ (
       .q ⟨some 82, .bin .gtr (.tmp 81) (.const (.int .i64 0)), none⟩ (
       .q ⟨some 83, .mov (.tmp 82), none⟩ (
       .q ⟨some 84, .mov (.tmp 4), some (83, true)⟩ (
       .q ⟨some 85, .mov (.tmp 0), some (83, true)⟩ (
       .q ⟨some 86, .mov (.tmp 1), some (83, true)⟩ (
       .q ⟨some 87, .bin .sub (.tmp 86) (.const (.int .i64 1)), some (83, true)⟩ (
       .q ⟨some 88, .iadr (.tmp 85) (.tmp 87) 1, some (83, true)⟩ (
       .q ⟨some 89, .load1 (.tmp 88), some (83, true)⟩ (
       .q ⟨some 90, .mov (.tmp 0), some (83, true)⟩ (
       .q ⟨some 91, .mov (.tmp 13), some (83, true)⟩ (
       .q ⟨some 92, .iadr (.tmp 90) (.tmp 91) 1, some (83, true)⟩ (
       .q ⟨some 93, .load1 (.tmp 92), some (83, true)⟩ (
       .alt ⟨some 94, .call (.tmp 84) [(.tmp 89), (.tmp 93)], some (83, true)⟩ false (
        .q ⟨some 95, .bin .lss (.tmp 94) (.const (.int .i64 0)), some (83, true)⟩ (
        .q ⟨some 96, .un .not (.tmp 95), some (83, true)⟩ (
        .q ⟨some 97, .pick (.tmp 83) (.tmp 96) (.const (.bool false)), none⟩ (
        .done)))) (.noalt)))))))))))))))) (
     .cond (.tmp 97) (
      .seq (.region [⟨some 98, .mov (.tmp 0), none⟩,
         ⟨some 99, .mov (.tmp 1), none⟩,
         ⟨some 100, .mov (.tmp 2), none⟩,
         ⟨some 101, .mov (.tmp 13), none⟩,
         ⟨some 102, .mov (.tmp 4), none⟩,
         ⟨some 103, .call (.func 85) [(.tmp 98), (.tmp 99), (.tmp 100), (.tmp 101), (.tmp 102)], none⟩,
         ⟨some 15, .mov (.tmp 103), none⟩]) (
      .seq (.region [⟨some 104, .mov (.tmp 15), none⟩,
         ⟨some 1, .mov (.tmp 104), none⟩]) (
      .exit 1))) (
      .skip))) (
    .seq (.region [⟨some 106, .mov (.tmp 0), none⟩,
       ⟨some 107, .mov (.tmp 1), none⟩,
       ⟨some 108, .mov (.tmp 2), none⟩,
       ⟨some 109, .mov (.tmp 13), none⟩,
       ⟨some 110, .mov (.tmp 4), none⟩,
       ⟨some 111, .call (.func 86) [(.tmp 106), (.tmp 107), (.tmp 108), (.tmp 109), (.tmp 110)], none⟩,
       ⟨some 105, .mov (.tmp 111), none⟩,
       ⟨some 112, .ext (.tmp 105) 0, none⟩,
       ⟨some 113, .ext (.tmp 105) 1, none⟩,
       ⟨some 16, .mov (.tmp 112), none⟩,
       ⟨some 17, .mov (.tmp 113), none⟩]) (
    .seq (.region [⟨some 114, .mov (.tmp 17), none⟩,
       ⟨some 11, .mov (.tmp 114), none⟩]) (
    .seq (.region [⟨some 115, .mov (.tmp 16), none⟩,
       ⟨some 116, .mov (.tmp 1), none⟩,
       ⟨some 117, .bin .sub (.tmp 115) (.tmp 116), none⟩,
       ⟨some 118, .mov (.tmp 2), none⟩,
       ⟨some 119, .mov (.tmp 16), none⟩,
       ⟨some 120, .bin .sub (.tmp 118) (.tmp 119), none⟩,
       ⟨some 18, .mov (.tmp 117), none⟩,
       ⟨some 19, .mov (.tmp 120), none⟩]) (
    .seq (.region [⟨some 121, .mov (.tmp 12), none⟩,
       ⟨some 122, .bin .quo (.tmp 121) (.const (.int .i64 8)), none⟩,
       ⟨some 20, .mov (.tmp 122), none⟩]) (
    .seq (.region [⟨some 123, .mov (.tmp 18), none⟩,
       ⟨some 124, .mov (.tmp 19), none⟩,
       ⟨some 125, .bin .lss (.tmp 123) (.tmp 124), none⟩]) (
    .cond (.tmp 125) (
     .seq (.region [⟨some 126, .mov (.tmp 18), none⟩,
        ⟨some 127, .mov (.tmp 20), none⟩,
        ⟨some 128, .bin .geq (.tmp 126) (.tmp 127), none⟩,
        ⟨some 10, .mov (.tmp 128), none⟩]) (
     .seq (.region [⟨some 129, .mov (.tmp 0), none⟩,
        ⟨some 130, .mov (.tmp 1), none⟩,
        ⟨some 131, .mov (.tmp 16), none⟩,
        ⟨some 132, .mov (.tmp 3), none⟩,
        ⟨some 133, .mov (.tmp 4), none⟩,
        ⟨some 134, .call (.func 74) [(.tmp 129), (.tmp 130), (.tmp 131), (.tmp 132), (.tmp 133)], none⟩]) (
     .region [⟨some 135, .mov (.tmp 16), none⟩,
       ⟨some 136, .bin .add (.tmp 135) (.const (.int .i64 1)), none⟩,
       ⟨some 1, .mov (.tmp 136), none⟩]))) (
     .seq (.region [⟨some 137, .mov (.tmp 19), none⟩,
        ⟨some 138, .mov (.tmp 20), none⟩,
        ⟨some 139, .bin .geq (.tmp 137) (.tmp 138), none⟩,
        ⟨some 10, .mov (.tmp 139), none⟩]) (
     .seq (.region [⟨some 140, .mov (.tmp 0), none⟩,
        ⟨some 141, .mov (.tmp 16), none⟩,
        ⟨some 142, .bin .add (.tmp 141) (.const (.int .i64 1)), none⟩,
        ⟨some 143, .mov (.tmp 2), none⟩,
        ⟨some 144, .mov (.tmp 3), none⟩,
        ⟨some 145, .mov (.tmp 4), none⟩,
        ⟨some 146, .call (.func 74) [(.tmp 140), (.tmp 142), (.tmp 143), (.tmp 144), (.tmp 145)], none⟩]) (
     .region [⟨some 147, .mov (.tmp 16), none⟩,
       ⟨some 2, .mov (.tmp 147), none⟩])))))))))))))))))))))
theorem Try.fx74 : FnX Try.prog 74 148 #[] Try.x74 :=
  ⟨Try.f74, Try.func74, by kernel_rfl, by kernel_rfl, by kernel_rfl, by kernel_rfl⟩
/-- math/bits.Len -/
def Try.x75 : XCode :=
 .seq (.region [⟨some 2, .mov (.const (.int .i64 0)), none⟩]) (
 .seq (.cond (.const (.bool false)) (
   .seq (.region [⟨some 3, .mov (.tmp 0), none⟩,
      ⟨some 4, .conv .u32 (.tmp 3), none⟩,
      ⟨some 5, .call (.func 87) [(.tmp 4)], none⟩,
      ⟨some 2, .mov (.tmp 5), none⟩]) (
   .ret)) (
   .skip)) (
 .seq (.region [⟨some 6, .mov (.tmp 0), none⟩,
    ⟨some 7, .call (.func 88) [(.tmp 6)], none⟩,
    ⟨some 2, .mov (.tmp 7), none⟩]) (
 .ret)))
theorem Try.fx75 : FnX Try.prog 75 8 #[.tmp 2] Try.x75 :=
  ⟨Try.f75, Try.func75, by kernel_rfl, by kernel_rfl, by kernel_rfl, by kernel_rfl⟩
/-- cmp.isNaN[int] -/
def Try.x76 : XCode :=
 .seq (.region [⟨some 2, .mov (.const (.bool false)), none⟩]) (
 .seq (.region [⟨some 3, .mov (.tmp 0), none⟩,
    ⟨some 4, .mov (.tmp 0), none⟩,
    ⟨some 5, .bin .neq (.tmp 3) (.tmp 4), none⟩,
    ⟨some 2, .mov (.tmp 5), none⟩]) (
 .ret))
theorem Try.fx76 : FnX Try.prog 76 6 #[.tmp 2] Try.x76 :=
  ⟨Try.f76, Try.func76, by kernel_rfl, by kernel_rfl, by kernel_rfl, by kernel_rfl⟩
/-- slices.insertionSortCmpFunc[int] -/
def Try.x79 : XCode :=
 .seq (.region [⟨some 10, .mov (.tmp 1), none⟩,
    ⟨some 11, .bin .add (.tmp 10) (.const (.int .i64 1)), none⟩,
    ⟨some 8, .mov (.tmp 11), none⟩]) (
 .block 0 (
  .loop (
   .seq (.seq (.region [⟨some 12, .mov (.tmp 8), none⟩,
       ⟨some 13, .mov (.tmp 2), none⟩,
       ⟨some 14, .bin .lss (.tmp 12) (.tmp 13), none⟩]) (
    .cond (.tmp 14) (
     .skip) (
     .exit 0))) (
   .seq (.block 1 (
     .seq (.region [⟨some 17, .mov (.tmp 8), none⟩,
        ⟨some 9, .mov (.tmp 17), none⟩]) (
     .block 2 (
      .loop (
       .seq (.seq (.draw (
          .q ⟨some 18, .mov (.tmp 9), none⟩ (
          .q ⟨some 19, .mov (.tmp 1), none⟩ (
          .q ⟨some 20, .bin .gtr (.tmp 18) (.tmp 19), none⟩ (
          .q ⟨some 21, .mov (.tmp 20), none⟩ (
          .q ⟨some 22, .mov (.tmp 3), some (21, true)⟩ (
          .q ⟨some 23, .mov (.tmp 0), some (21, true)⟩ (
          .q ⟨some 24, .mov (.tmp 9), some (21, true)⟩ (
          .q ⟨some 25, .iadr (.tmp 23) (.tmp 24) 1, some (21, true)⟩ (
          .q ⟨some 26, .load1 (.tmp 25), some (21, true)⟩ (
          .q ⟨some 27, .mov (.tmp 0), some (21, true)⟩ (
          .q ⟨some 28, .mov (.tmp 9), some (21, true)⟩ (
          .q ⟨some 29, .bin .sub (.tmp 28) (.const (.int .i64 1)), some (21, true)⟩ (
          .q ⟨some 30, .iadr (.tmp 27) (.tmp 29) 1, some (21, true)⟩ (
          .q ⟨some 31, .load1 (.tmp 30), some (21, true)⟩ (
          .alt ⟨some 32, .call (.tmp 22) [(.tmp 26), (.tmp 31)], some (21, true)⟩ false (
           .q ⟨some 33, .bin .lss (.tmp 32) (.const (.int .i64 0)), some (21, true)⟩ (
           .q ⟨some 34, .pick (.tmp 21) (.tmp 33) (.const (.bool false)), none⟩ (
           .done))) (.noalt))))))))))))))))) (
        .cond (.tmp 34) (
         .skip) (
         .exit 2))) (
       .seq (.block 3 (
         .draw (
          .q ⟨some 37, .mov (.tmp 0), none⟩ (
          .q ⟨some 38, .mov (.tmp 9), none⟩ (
          .q ⟨some 39, .mov (.tmp 0), none⟩ (
          .q ⟨some 40, .mov (.tmp 9), none⟩ (
          .q ⟨some 41, .bin .sub (.tmp 40) (.const (.int .i64 1)), none⟩ (
          .q ⟨some 42, .mov (.tmp 0), none⟩ (
          .q ⟨some 43, .mov (.tmp 9), none⟩ (
          .q ⟨some 44, .bin .sub (.tmp 43) (.const (.int .i64 1)), none⟩ (
          .q ⟨some 45, .iadr (.tmp 42) (.tmp 44) 1, none⟩ (
          .q ⟨some 46, .load1 (.tmp 45), none⟩ (
          .q ⟨some 47, .mov (.tmp 0), none⟩ (
          .q ⟨some 48, .mov (.tmp 9), none⟩ (
          .q ⟨some 49, .iadr (.tmp 47) (.tmp 48) 1, none⟩ (
          .q ⟨some 50, .load1 (.tmp 49), none⟩ (
          .q ⟨some 51, .iadr (.tmp 37) (.tmp 38) 1, none⟩ (
          .alt ⟨none, .store 1 (.tmp 51) (.tmp 46), none⟩ false (
           .q ⟨some 52, .iadr (.tmp 39) (.tmp 41) 1, none⟩ (
           .alt ⟨none, .store 1 (.tmp 52) (.tmp 50), none⟩ false (
            .done) (.noalt))) (.noalt))))))))))))))))))) (
       .region [⟨some 35, .mov (.tmp 9), none⟩,
         ⟨some 36, .bin .sub (.tmp 35) (.const (.int .i64 1)), none⟩,
         ⟨some 9, .mov (.tmp 36), none⟩]))))))) (
   .region [⟨some 15, .mov (.tmp 8), none⟩,
     ⟨some 16, .bin .add (.tmp 15) (.const (.int .i64 1)), none⟩,
     ⟨some 8, .mov (.tmp 16), none⟩])))))
theorem Try.fx79 : FnX Try.prog 79 53 #[] Try.x79 :=
  ⟨Try.f79, Try.func79, by kernel_rfl, by kernel_rfl, by kernel_rfl, by kernel_rfl⟩
/-- slices.heapSortCmpFunc[int] -/
def Try.x80 : XCode :=
 .seq (.region [⟨some 13, .mov (.tmp 1), none⟩,
    ⟨some 8, .mov (.tmp 13), none⟩]) (
 .seq (.region [⟨some 9, .mov (.const (.int .i64 0)), none⟩]) (
 .seq (.region [⟨some 14, .mov (.tmp 2), none⟩,
    ⟨some 15, .mov (.tmp 1), none⟩,
    ⟨some 16, .bin .sub (.tmp 14) (.tmp 15), none⟩,
    ⟨some 10, .mov (.tmp 16), none⟩]) (
 .seq (.seq (.region [⟨some 17, .mov (.tmp 10), none⟩,
     ⟨some 18, .bin .sub (.tmp 17) (.const (.int .i64 1)), none⟩,
     ⟨some 19, .bin .quo (.tmp 18) (.const (.int .i64 2)), none⟩,
     ⟨some 11, .mov (.tmp 19), none⟩]) (
  .block 0 (
   .loop (
    .seq (.seq (.region [⟨some 20, .mov (.tmp 11), none⟩,
        ⟨some 21, .bin .geq (.tmp 20) (.const (.int .i64 0)), none⟩]) (
     .cond (.tmp 21) (
      .skip) (
      .exit 0))) (
    .seq (.block 1 (
      .region [⟨some 24, .mov (.tmp 0), none⟩,
        ⟨some 25, .mov (.tmp 11), none⟩,
        ⟨some 26, .mov (.tmp 10), none⟩,
        ⟨some 27, .mov (.tmp 8), none⟩,
        ⟨some 28, .mov (.tmp 3), none⟩,
        ⟨some 29, .call (.func 89) [(.tmp 24), (.tmp 25), (.tmp 26), (.tmp 27), (.tmp 28)], none⟩])) (
    .region [⟨some 22, .mov (.tmp 11), none⟩,
      ⟨some 23, .bin .sub (.tmp 22) (.const (.int .i64 1)), none⟩,
      ⟨some 11, .mov (.tmp 23), none⟩])))))) (
 .seq (.region [⟨some 30, .mov (.tmp 10), none⟩,
    ⟨some 31, .bin .sub (.tmp 30) (.const (.int .i64 1)), none⟩,
    ⟨some 12, .mov (.tmp 31), none⟩]) (
 .block 2 (
  .loop (
   .seq (.seq (.region [⟨some 32, .mov (.tmp 12), none⟩,
       ⟨some 33, .bin .geq (.tmp 32) (.const (.int .i64 0)), none⟩]) (
    .cond (.tmp 33) (
     .skip) (
     .exit 2))) (
   .seq (.block 3 (
     .seq (.draw (
       .q ⟨some 36, .mov (.tmp 0), none⟩ (
       .q ⟨some 37, .mov (.tmp 8), none⟩ (
       .q ⟨some 38, .mov (.tmp 0), none⟩ (
       .q ⟨some 39, .mov (.tmp 8), none⟩ (
       .q ⟨some 40, .mov (.tmp 12), none⟩ (
       .q ⟨some 41, .bin .add (.tmp 39) (.tmp 40), none⟩ (
       .q ⟨some 42, .mov (.tmp 0), none⟩ (
       .q ⟨some 43, .mov (.tmp 8), none⟩ (
       .q ⟨some 44, .mov (.tmp 12), none⟩ (
       .q ⟨some 45, .bin .add (.tmp 43) (.tmp 44), none⟩ (
       .q ⟨some 46, .iadr (.tmp 42) (.tmp 45) 1, none⟩ (
       .q ⟨some 47, .load1 (.tmp 46), none⟩ (
       .q ⟨some 48, .mov (.tmp 0), none⟩ (
       .q ⟨some 49, .mov (.tmp 8), none⟩ (
       .q ⟨some 50, .iadr (.tmp 48) (.tmp 49) 1, none⟩ (
       .q ⟨some 51, .load1 (.tmp 50), none⟩ (
       .q ⟨some 52, .iadr (.tmp 36) (.tmp 37) 1, none⟩ (
       .alt ⟨none, .store 1 (.tmp 52) (.tmp 47), none⟩ false (
        .q ⟨some 53, .iadr (.tmp 38) (.tmp 41) 1, none⟩ (
        .alt ⟨none, .store 1 (.tmp 53) (.tmp 51), none⟩ false (
         .done) (.noalt))) (.noalt)))))))))))))))))))) (
     .region [⟨some 54, .mov (.tmp 0), none⟩,
       ⟨some 55, .mov (.tmp 9), none⟩,
       ⟨some 56, .mov (.tmp 12), none⟩,
       ⟨some 57, .mov (.tmp 8), none⟩,
       ⟨some 58, .mov (.tmp 3), none⟩,
       ⟨some 59, .call (.func 89) [(.tmp 54), (.tmp 55), (.tmp 56), (.tmp 57), (.tmp 58)], none⟩]))) (
   .region [⟨some 34, .mov (.tmp 12), none⟩,
     ⟨some 35, .bin .sub (.tmp 34) (.const (.int .i64 1)), none⟩,
     ⟨some 12, .mov (.tmp 35), none⟩])))))))))
theorem Try.fx80 : FnX Try.prog 80 60 #[] Try.x80 :=
  ⟨Try.f80, Try.func80, by kernel_rfl, by kernel_rfl, by kernel_rfl, by kernel_rfl⟩
/-- slices.breakPatternsCmpFunc[int] -/
def Try.x81 : XCode :=
 .seq (.region [⟨some 13, .mov (.tmp 2), none⟩,
    ⟨some 14, .mov (.tmp 1), none⟩,
    ⟨some 15, .bin .sub (.tmp 13) (.tmp 14), none⟩,
    ⟨some 8, .mov (.tmp 15), none⟩]) (
 .seq (.region [⟨some 16, .mov (.tmp 8), none⟩,
    ⟨some 17, .bin .geq (.tmp 16) (.const (.int .i64 8)), none⟩]) (
 .cond (.tmp 17) (
  .seq (.region [⟨some 18, .mov (.tmp 8), none⟩,
     ⟨some 19, .conv .u64 (.tmp 18), none⟩,
     ⟨some 9, .alloc 123 [(.int .u64 0)], none⟩,
     ⟨none, .store 1 (.tmp 9) (.tmp 19), none⟩]) (
  .seq (.region [⟨some 20, .mov (.tmp 8), none⟩,
     ⟨some 21, .call (.func 90) [(.tmp 20)], none⟩,
     ⟨some 10, .mov (.tmp 21), none⟩]) (
  .seq (.region [⟨some 22, .mov (.tmp 1), none⟩,
     ⟨some 23, .mov (.tmp 8), none⟩,
     ⟨some 24, .bin .quo (.tmp 23) (.const (.int .i64 4)), none⟩,
     ⟨some 25, .bin .mul (.tmp 24) (.const (.int .i64 2)), none⟩,
     ⟨some 26, .bin .add (.tmp 22) (.tmp 25), none⟩,
     ⟨some 27, .bin .sub (.tmp 26) (.const (.int .i64 1)), none⟩,
     ⟨some 11, .mov (.tmp 27), none⟩]) (
  .block 0 (
   .loop (
    .seq (.seq (.region [⟨some 28, .mov (.tmp 11), none⟩,
        ⟨some 29, .mov (.tmp 1), none⟩,
        ⟨some 30, .mov (.tmp 8), none⟩,
        ⟨some 31, .bin .quo (.tmp 30) (.const (.int .i64 4)), none⟩,
        ⟨some 32, .bin .mul (.tmp 31) (.const (.int .i64 2)), none⟩,
        ⟨some 33, .bin .add (.tmp 29) (.tmp 32), none⟩,
        ⟨some 34, .bin .add (.tmp 33) (.const (.int .i64 1)), none⟩,
        ⟨some 35, .bin .leq (.tmp 28) (.tmp 34), none⟩]) (
     .cond (.tmp 35) (
      .skip) (
      .exit 0))) (
    .seq (.block 1 (
      .seq (.region [⟨some 38, .call (.func 91) [(.tmp 9)], none⟩,
         ⟨some 39, .mov (.tmp 10), none⟩,
         ⟨some 40, .bin .sub (.tmp 39) (.const (.int .u64 1)), none⟩,
         ⟨some 41, .bin .and (.tmp 38) (.tmp 40), none⟩,
         ⟨some 42, .conv .i64 (.tmp 41), none⟩,
         ⟨some 12, .mov (.tmp 42), none⟩]) (
      .seq (.seq (.region [⟨some 43, .mov (.tmp 12), none⟩,
          ⟨some 44, .mov (.tmp 8), none⟩,
          ⟨some 45, .bin .geq (.tmp 43) (.tmp 44), none⟩]) (
       .cond (.tmp 45) (
        .region [⟨some 46, .mov (.tmp 12), none⟩,
          ⟨some 47, .mov (.tmp 8), none⟩,
          ⟨some 48, .bin .sub (.tmp 46) (.tmp 47), none⟩,
          ⟨some 12, .mov (.tmp 48), none⟩]) (
        .skip))) (
      .draw (
       .q ⟨some 49, .mov (.tmp 0), none⟩ (
       .q ⟨some 50, .mov (.tmp 11), none⟩ (
       .q ⟨some 51, .mov (.tmp 0), none⟩ (
       .q ⟨some 52, .mov (.tmp 1), none⟩ (
       .q ⟨some 53, .mov (.tmp 12), none⟩ (
       .q ⟨some 54, .bin .add (.tmp 52) (.tmp 53), none⟩ (
       .q ⟨some 55, .mov (.tmp 0), none⟩ (
       .q ⟨some 56, .mov (.tmp 1), none⟩ (
       .q ⟨some 57, .mov (.tmp 12), none⟩ (
       .q ⟨some 58, .bin .add (.tmp 56) (.tmp 57), none⟩ (
       .q ⟨some 59, .iadr (.tmp 55) (.tmp 58) 1, none⟩ (
       .q ⟨some 60, .load1 (.tmp 59), none⟩ (
       .q ⟨some 61, .mov (.tmp 0), none⟩ (
       .q ⟨some 62, .mov (.tmp 11), none⟩ (
       .q ⟨some 63, .iadr (.tmp 61) (.tmp 62) 1, none⟩ (
       .q ⟨some 64, .load1 (.tmp 63), none⟩ (
       .q ⟨some 65, .iadr (.tmp 49) (.tmp 50) 1, none⟩ (
       .alt ⟨none, .store 1 (.tmp 65) (.tmp 60), none⟩ false (
        .q ⟨some 66, .iadr (.tmp 51) (.tmp 54) 1, none⟩ (
        .alt ⟨none, .store 1 (.tmp 66) (.tmp 64), none⟩ false (
         .done) (.noalt))) (.noalt))))))))))))))))))))))) (
    .region [⟨some 36, .mov (.tmp 11), none⟩,
      ⟨some 37, .bin .add (.tmp 36) (.const (.int .i64 1)), none⟩,
      ⟨some 11, .mov (.tmp 37), none⟩])))))))) (
  .skip)))
theorem Try.fx81 : FnX Try.prog 81 67 #[] Try.x81 :=
  ⟨Try.f81, Try.func81, by kernel_rfl, by kernel_rfl, by kernel_rfl, by kernel_rfl⟩
/-- slices.choosePivotCmpFunc[int] -/
def Try.x82 : XCode :=
 .seq (.region [⟨some 8, .mov (.const (.int .i64 0)), none⟩,
    ⟨some 9, .mov (.const (.int .i64 0)), none⟩]) (
 .seq (.region [⟨some 15, .mov (.tmp 2), none⟩,
    ⟨some 16, .mov (.tmp 1), none⟩,
    ⟨some 17, .bin .sub (.tmp 15) (.tmp 16), none⟩,
    ⟨some 10, .mov (.tmp 17), none⟩]) (
 .seq (.region [⟨some 11, .alloc 3 [(.int .i64 0)], none⟩]) (
 .seq (.region [⟨some 18, .mov (.tmp 1), none⟩,
    ⟨some 19, .mov (.tmp 10), none⟩,
    ⟨some 20, .bin .quo (.tmp 19) (.const (.int .i64 4)), none⟩,
    ⟨some 21, .bin .mul (.tmp 20) (.const (.int .i64 1)), none⟩,
    ⟨some 22, .bin .add (.tmp 18) (.tmp 21), none⟩,
    ⟨some 12, .mov (.tmp 22), none⟩]) (
 .seq (.region [⟨some 23, .mov (.tmp 1), none⟩,
    ⟨some 24, .mov (.tmp 10), none⟩,
    ⟨some 25, .bin .quo (.tmp 24) (.const (.int .i64 4)), none⟩,
    ⟨some 26, .bin .mul (.tmp 25) (.const (.int .i64 2)), none⟩,
    ⟨some 27, .bin .add (.tmp 23) (.tmp 26), none⟩,
    ⟨some 13, .mov (.tmp 27), none⟩]) (
 .seq (.region [⟨some 28, .mov (.tmp 1), none⟩,
    ⟨some 29, .mov (.tmp 10), none⟩,
    ⟨some 30, .bin .quo (.tmp 29) (.const (.int .i64 4)), none⟩,
    ⟨some 31, .bin .mul (.tmp 30) (.const (.int .i64 3)), none⟩,
    ⟨some 32, .bin .add (.tmp 28) (.tmp 31), none⟩,
    ⟨some 14, .mov (.tmp 32), none⟩]) (
 .seq (.seq (.region [⟨some 33, .mov (.tmp 10), none⟩,
     ⟨some 34, .bin .geq (.tmp 33) (.const (.int .i64 8)), none⟩]) (
  .cond (.tmp 34) (
   .seq (.seq (.region [⟨some 35, .mov (.tmp 10), none⟩,
       ⟨some 36, .bin .geq (.tmp 35) (.const (.int .i64 50)), none⟩]) (
    .cond (.tmp 36) (
     .seq (.region [⟨some 37, .mov (.tmp 0), none⟩,
        ⟨some 38, .mov (.tmp 12), none⟩,
        ⟨some 39, .mov (.tmp 3), none⟩,
        ⟨some 40, .call (.func 92) [(.tmp 37), (.tmp 38), (.tmp 11), (.tmp 39)], none⟩,
        ⟨some 12, .mov (.tmp 40), none⟩]) (
     .seq (.region [⟨some 41, .mov (.tmp 0), none⟩,
        ⟨some 42, .mov (.tmp 13), none⟩,
        ⟨some 43, .mov (.tmp 3), none⟩,
        ⟨some 44, .call (.func 92) [(.tmp 41), (.tmp 42), (.tmp 11), (.tmp 43)], none⟩,
        ⟨some 13, .mov (.tmp 44), none⟩]) (
     .region [⟨some 45, .mov (.tmp 0), none⟩,
       ⟨some 46, .mov (.tmp 14), none⟩,
       ⟨some 47, .mov (.tmp 3), none⟩,
       ⟨some 48, .call (.func 92) [(.tmp 45), (.tmp 46), (.tmp 11), (.tmp 47)], none⟩,
       ⟨some 14, .mov (.tmp 48), none⟩]))) (
     .skip))) (
   .region [⟨some 49, .mov (.tmp 0), none⟩,
     ⟨some 50, .mov (.tmp 12), none⟩,
     ⟨some 51, .mov (.tmp 13), none⟩,
     ⟨some 52, .mov (.tmp 14), none⟩,
     ⟨some 53, .mov (.tmp 3), none⟩,
     ⟨some 54, .call (.func 93) [(.tmp 49), (.tmp 50), (.tmp 51), (.tmp 52), (.tmp 11), (.tmp 53)], none⟩,
     ⟨some 13, .mov (.tmp 54), none⟩])) (
   .skip))) (
 .seq (.region [⟨some 55, .load1 (.tmp 11), none⟩]) (
 .block 0 (
  .seq (.region [⟨some 58, .bin .eql (.tmp 55) (.const (.int .i64 0)), none⟩,
     ⟨some 57, .mov (.tmp 58), none⟩]) (
  .cond (.tmp 57) (
   .seq (.region [⟨some 59, .mov (.tmp 13), none⟩,
      ⟨some 8, .mov (.tmp 59), none⟩,
      ⟨some 9, .mov (.const (.int .i64 1)), none⟩]) (
   .ret)) (
   .seq (.region [⟨some 61, .bin .eql (.tmp 55) (.const (.int .i64 12)), none⟩,
      ⟨some 60, .mov (.tmp 61), none⟩]) (
   .cond (.tmp 60) (
    .seq (.region [⟨some 62, .mov (.tmp 13), none⟩,
       ⟨some 8, .mov (.tmp 62), none⟩,
       ⟨some 9, .mov (.const (.int .i64 2)), none⟩]) (
    .ret)) (
    .seq (.region [⟨some 56, .mov (.tmp 13), none⟩,
       ⟨some 8, .mov (.tmp 56), none⟩,
       ⟨some 9, .mov (.const (.int .i64 0)), none⟩]) (
    .ret))))))))))))))
theorem Try.fx82 : FnX Try.prog 82 63 #[.tmp 8, .tmp 9] Try.x82 :=
  ⟨Try.f82, Try.func82, by kernel_rfl, by kernel_rfl, by kernel_rfl, by kernel_rfl⟩
/-- slices.reverseRangeCmpFunc[int] -/
def Try.x83 : XCode :=
 .seq (.region [⟨some 10, .mov (.tmp 1), none⟩,
    ⟨some 8, .mov (.tmp 10), none⟩]) (
 .seq (.region [⟨some 11, .mov (.tmp 2), none⟩,
    ⟨some 12, .bin .sub (.tmp 11) (.const (.int .i64 1)), none⟩,
    ⟨some 9, .mov (.tmp 12), none⟩]) (
 .block 0 (
  .loop (
   .seq (.seq (.region [⟨some 13, .mov (.tmp 8), none⟩,
       ⟨some 14, .mov (.tmp 9), none⟩,
       ⟨some 15, .bin .lss (.tmp 13) (.tmp 14), none⟩]) (
    .cond (.tmp 15) (
     .skip) (
     .exit 0))) (
   .block 1 (
    .seq (.draw (
      .q ⟨some 16, .mov (.tmp 0), none⟩ (
      .q ⟨some 17, .mov (.tmp 8), none⟩ (
      .q ⟨some 18, .mov (.tmp 0), none⟩ (
      .q ⟨some 19, .mov (.tmp 9), none⟩ (
      .q ⟨some 20, .mov (.tmp 0), none⟩ (
      .q ⟨some 21, .mov (.tmp 9), none⟩ (
      .q ⟨some 22, .iadr (.tmp 20) (.tmp 21) 1, none⟩ (
      .q ⟨some 23, .load1 (.tmp 22), none⟩ (
      .q ⟨some 24, .mov (.tmp 0), none⟩ (
      .q ⟨some 25, .mov (.tmp 8), none⟩ (
      .q ⟨some 26, .iadr (.tmp 24) (.tmp 25) 1, none⟩ (
      .q ⟨some 27, .load1 (.tmp 26), none⟩ (
      .q ⟨some 28, .iadr (.tmp 16) (.tmp 17) 1, none⟩ (
      .alt ⟨none, .store 1 (.tmp 28) (.tmp 23), none⟩ false (
       .q ⟨some 29, .iadr (.tmp 18) (.tmp 19) 1, none⟩ (
       .alt ⟨none, .store 1 (.tmp 29) (.tmp 27), none⟩ false (
        .done) (.noalt))) (.noalt)))))))))))))))) (
    .seq (.region [⟨some 30, .mov (.tmp 8), none⟩,
       ⟨some 31, .bin .add (.tmp 30) (.const (.int .i64 1)), none⟩,
       ⟨some 8, .mov (.tmp 31), none⟩]) (
    .region [⟨some 32, .mov (.tmp 9), none⟩,
      ⟨some 33, .bin .sub (.tmp 32) (.const (.int .i64 1)), none⟩,
      ⟨some 9, .mov (.tmp 33), none⟩]))))))))
theorem Try.fx83 : FnX Try.prog 83 34 #[] Try.x83 :=
  ⟨Try.f83, Try.func83, by kernel_rfl, by kernel_rfl, by kernel_rfl, by kernel_rfl⟩
/-- slices.partialInsertionSortCmpFunc[int] -/
def Try.x84 : XCode :=
 .seq (.region [⟨some 8, .mov (.const (.bool false)), none⟩]) (
 .seq (.region [⟨some 13, .mov (.tmp 1), none⟩,
    ⟨some 14, .bin .add (.tmp 13) (.const (.int .i64 1)), none⟩,
    ⟨some 9, .mov (.tmp 14), none⟩]) (
 .seq (.seq (.region [⟨some 10, .mov (.const (.int .i64 0)), none⟩]) (
  .block 0 (
   .loop (
    .seq (.seq (.region [⟨some 15, .mov (.tmp 10), none⟩,
        ⟨some 16, .bin .lss (.tmp 15) (.const (.int .i64 5)), none⟩]) (
     .cond (.tmp 16) (
      .skip) (
      .exit 0))) (
    .seq (.block 1 (
      .seq (.block 2 (
        .loop (
         .seq (.seq (.draw (
            .q ⟨some 19, .mov (.tmp 9), none⟩ (
            .q ⟨some 20, .mov (.tmp 2), none⟩ (
            .q ⟨some 21, .bin .lss (.tmp 19) (.tmp 20), none⟩ (
            .q ⟨some 22, .mov (.tmp 21), none⟩ (
            .q ⟨some 23, .mov (.tmp 3), some (22, true)⟩ (
            .q ⟨some 24, .mov (.tmp 0), some (22, true)⟩ (
            .q ⟨some 25, .mov (.tmp 9), some (22, true)⟩ (
            .q ⟨some 26, .iadr (.tmp 24) (.tmp 25) 1, some (22, true)⟩ (
            .q ⟨some 27, .load1 (.tmp 26), some (22, true)⟩ (
            .q ⟨some 28, .mov (.tmp 0), some (22, true)⟩ (
            .q ⟨some 29, .mov (.tmp 9), some (22, true)⟩ (
            .q ⟨some 30, .bin .sub (.tmp 29) (.const (.int .i64 1)), some (22, true)⟩ (
            .q ⟨some 31, .iadr (.tmp 28) (.tmp 30) 1, some (22, true)⟩ (
            .q ⟨some 32, .load1 (.tmp 31), some (22, true)⟩ (
            .alt ⟨some 33, .call (.tmp 23) [(.tmp 27), (.tmp 32)], some (22, true)⟩ false (
             .q ⟨some 34, .bin .lss (.tmp 33) (.const (.int .i64 0)), some (22, true)⟩ (
             .q ⟨some 35, .un .not (.tmp 34), some (22, true)⟩ (
             .q ⟨some 36, .pick (.tmp 22) (.tmp 35) (.const (.bool false)), none⟩ (
             .done)))) (.noalt))))))))))))))))) (
          .cond (.tmp 36) (
           .skip) (
           .exit 2))) (
         .block 3 (
          .region [⟨some 37, .mov (.tmp 9), none⟩,
            ⟨some 38, .bin .add (.tmp 37) (.const (.int .i64 1)), none⟩,
            ⟨some 9, .mov (.tmp 38), none⟩]))))) (
      .seq (.seq (.region [⟨some 39, .mov (.tmp 9), none⟩,
          ⟨some 40, .mov (.tmp 2), none⟩,
          ⟨some 41, .bin .eql (.tmp 39) (.tmp 40), none⟩]) (
       .cond (.tmp 41) (
        .seq (.region [⟨some 8, .mov (.const (.bool true)), none⟩]) (
        .ret)) (
        .skip))) (
      .seq (.seq (.region [⟨some 42, .mov (.tmp 2), none⟩,
          ⟨some 43, .mov (.tmp 1), none⟩,
          ⟨some 44, .bin .sub (.tmp 42) (.tmp 43), none⟩,
          ⟨some 45, .bin .lss (.tmp 44) (.const (.int .i64 50)), none⟩]) (
       .cond (.tmp 45) (
        .seq (.region [⟨some 8, .mov (.const (.bool false)), none⟩]) (
        .ret)) (
        .skip))) (
      .seq (.draw (
        .q ⟨some 46, .mov (.tmp 0), none⟩ (
        .q ⟨some 47, .mov (.tmp 9), none⟩ (
        .q ⟨some 48, .mov (.tmp 0), none⟩ (
        .q ⟨some 49, .mov (.tmp 9), none⟩ (
        .q ⟨some 50, .bin .sub (.tmp 49) (.const (.int .i64 1)), none⟩ (
        .q ⟨some 51, .mov (.tmp 0), none⟩ (
        .q ⟨some 52, .mov (.tmp 9), none⟩ (
        .q ⟨some 53, .bin .sub (.tmp 52) (.const (.int .i64 1)), none⟩ (
        .q ⟨some 54, .iadr (.tmp 51) (.tmp 53) 1, none⟩ (
        .q ⟨some 55, .load1 (.tmp 54), none⟩ (
        .q ⟨some 56, .mov (.tmp 0), none⟩ (
        .q ⟨some 57, .mov (.tmp 9), none⟩ (
        .q ⟨some 58, .iadr (.tmp 56) (.tmp 57) 1, none⟩ (
        .q ⟨some 59, .load1 (.tmp 58), none⟩ (
        .q ⟨some 60, .iadr (.tmp 46) (.tmp 47) 1, none⟩ (
        .alt ⟨none, .store 1 (.tmp 60) (.tmp 55), none⟩ false (
         .q ⟨some 61, .iadr (.tmp 48) (.tmp 50) 1, none⟩ (
         .alt ⟨none, .store 1 (.tmp 61) (.tmp 59), none⟩ false (
          .done) (.noalt))) (.noalt)))))))))))))))))) (
      .seq (.seq (.region [⟨some 62, .mov (.tmp 9), none⟩,
          ⟨some 63, .mov (.tmp 1), none⟩,
          ⟨some 64, .bin .sub (.tmp 62) (.tmp 63), none⟩,
          ⟨some 65, .bin .geq (.tmp 64) (.const (.int .i64 2)), none⟩]) (
       .cond (.tmp 65) (
        .seq (.region [⟨some 66, .mov (.tmp 9), none⟩,
           ⟨some 67, .bin .sub (.tmp 66) (.const (.int .i64 1)), none⟩,
           ⟨some 11, .mov (.tmp 67), none⟩]) (
        .block 4 (
         .loop (
          .seq (.seq (.region [⟨some 68, .mov (.tmp 11), none⟩,
              ⟨some 69, .bin .geq (.tmp 68) (.const (.int .i64 1)), none⟩]) (
           .cond (.tmp 69) (
            .skip) (
            .exit 4))) (
          .seq (.block 5 (
            .seq (.seq (.draw (
               .q ⟨some 72, .mov (.tmp 3), none⟩ (
               .q ⟨some 73, .mov (.tmp 0), none⟩ (
               .q ⟨some 74, .mov (.tmp 11), none⟩ (
               .q ⟨some 75, .iadr (.tmp 73) (.tmp 74) 1, none⟩ (
               .q ⟨some 76, .load1 (.tmp 75), none⟩ (
               .q ⟨some 77, .mov (.tmp 0), none⟩ (
               .q ⟨some 78, .mov (.tmp 11), none⟩ (
               .q ⟨some 79, .bin .sub (.tmp 78) (.const (.int .i64 1)), none⟩ (
               .q ⟨some 80, .iadr (.tmp 77) (.tmp 79) 1, none⟩ (
               .q ⟨some 81, .load1 (.tmp 80), none⟩ (
               .alt ⟨some 82, .call (.tmp 72) [(.tmp 76), (.tmp 81)], none⟩ false (
                .q ⟨some 83, .bin .lss (.tmp 82) (.const (.int .i64 0)), none⟩ (
                .q ⟨some 84, .un .not (.tmp 83), none⟩ (
                .done))) (.noalt))))))))))))) (
             .cond (.tmp 84) (
              .exit 4) (
              .skip))) (
            .draw (
             .q ⟨some 85, .mov (.tmp 0), none⟩ (
             .q ⟨some 86, .mov (.tmp 11), none⟩ (
             .q ⟨some 87, .mov (.tmp 0), none⟩ (
             .q ⟨some 88, .mov (.tmp 11), none⟩ (
             .q ⟨some 89, .bin .sub (.tmp 88) (.const (.int .i64 1)), none⟩ (
             .q ⟨some 90, .mov (.tmp 0), none⟩ (
             .q ⟨some 91, .mov (.tmp 11), none⟩ (
             .q ⟨some 92, .bin .sub (.tmp 91) (.const (.int .i64 1)), none⟩ (
             .q ⟨some 93, .iadr (.tmp 90) (.tmp 92) 1, none⟩ (
             .q ⟨some 94, .load1 (.tmp 93), none⟩ (
             .q ⟨some 95, .mov (.tmp 0), none⟩ (
             .q ⟨some 96, .mov (.tmp 11), none⟩ (
             .q ⟨some 97, .iadr (.tmp 95) (.tmp 96) 1, none⟩ (
             .q ⟨some 98, .load1 (.tmp 97), none⟩ (
             .q ⟨some 99, .iadr (.tmp 85) (.tmp 86) 1, none⟩ (
             .alt ⟨none, .store 1 (.tmp 99) (.tmp 94), none⟩ false (
              .q ⟨some 100, .iadr (.tmp 87) (.tmp 89) 1, none⟩ (
              .alt ⟨none, .store 1 (.tmp 100) (.tmp 98), none⟩ false (
               .done) (.noalt))) (.noalt)))))))))))))))))))) (
          .region [⟨some 70, .mov (.tmp 11), none⟩,
            ⟨some 71, .bin .sub (.tmp 70) (.const (.int .i64 1)), none⟩,
            ⟨some 11, .mov (.tmp 71), none⟩])))))) (
        .skip))) (
      .seq (.region [⟨some 101, .mov (.tmp 2), none⟩,
         ⟨some 102, .mov (.tmp 9), none⟩,
         ⟨some 103, .bin .sub (.tmp 101) (.tmp 102), none⟩,
         ⟨some 104, .bin .geq (.tmp 103) (.const (.int .i64 2)), none⟩]) (
      .cond (.tmp 104) (
       .seq (.region [⟨some 105, .mov (.tmp 9), none⟩,
          ⟨some 106, .bin .add (.tmp 105) (.const (.int .i64 1)), none⟩,
          ⟨some 12, .mov (.tmp 106), none⟩]) (
       .block 6 (
        .loop (
         .seq (.seq (.region [⟨some 107, .mov (.tmp 12), none⟩,
             ⟨some 108, .mov (.tmp 2), none⟩,
             ⟨some 109, .bin .lss (.tmp 107) (.tmp 108), none⟩]) (
          .cond (.tmp 109) (
           .skip) (
           .exit 6))) (
         .seq (.block 7 (
           .seq (.seq (.draw (
              .q ⟨some 112, .mov (.tmp 3), none⟩ (
              .q ⟨some 113, .mov (.tmp 0), none⟩ (
              .q ⟨some 114, .mov (.tmp 12), none⟩ (
              .q ⟨some 115, .iadr (.tmp 113) (.tmp 114) 1, none⟩ (
              .q ⟨some 116, .load1 (.tmp 115), none⟩ (
              .q ⟨some 117, .mov (.tmp 0), none⟩ (
              .q ⟨some 118, .mov (.tmp 12), none⟩ (
              .q ⟨some 119, .bin .sub (.tmp 118) (.const (.int .i64 1)), none⟩ (
              .q ⟨some 120, .iadr (.tmp 117) (.tmp 119) 1, none⟩ (
              .q ⟨some 121, .load1 (.tmp 120), none⟩ (
              .alt ⟨some 122, .call (.tmp 112) [(.tmp 116), (.tmp 121)], none⟩ false (
               .q ⟨some 123, .bin .lss (.tmp 122) (.const (.int .i64 0)), none⟩ (
               .q ⟨some 124, .un .not (.tmp 123), none⟩ (
               .done))) (.noalt))))))))))))) (
            .cond (.tmp 124) (
             .exit 6) (
             .skip))) (
           .draw (
            .q ⟨some 125, .mov (.tmp 0), none⟩ (
            .q ⟨some 126, .mov (.tmp 12), none⟩ (
            .q ⟨some 127, .mov (.tmp 0), none⟩ (
            .q ⟨some 128, .mov (.tmp 12), none⟩ (
            .q ⟨some 129, .bin .sub (.tmp 128) (.const (.int .i64 1)), none⟩ (
            .q ⟨some 130, .mov (.tmp 0), none⟩ (
            .q ⟨some 131, .mov (.tmp 12), none⟩ (
            .q ⟨some 132, .bin .sub (.tmp 131) (.const (.int .i64 1)), none⟩ (
            .q ⟨some 133, .iadr (.tmp 130) (.tmp 132) 1, none⟩ (
            .q ⟨some 134, .load1 (.tmp 133), none⟩ (
            .q ⟨some 135, .mov (.tmp 0), none⟩ (
            .q ⟨some 136, .mov (.tmp 12), none⟩ (
            .q ⟨some 137, .iadr (.tmp 135) (.tmp 136) 1, none⟩ (
            .q ⟨some 138, .load1 (.tmp 137), none⟩ (
            .q ⟨some 139, .iadr (.tmp 125) (.tmp 126) 1, none⟩ (
            .alt ⟨none, .store 1 (.tmp 139) (.tmp 134), none⟩ false (
             .q ⟨some 140, .iadr (.tmp 127) (.tmp 129) 1, none⟩ (
             .alt ⟨none, .store 1 (.tmp 140) (.tmp 138), none⟩ false (
              .done) (.noalt))) (.noalt)))))))))))))))))))) (
         .region [⟨some 110, .mov (.tmp 12), none⟩,
           ⟨some 111, .bin .add (.tmp 110) (.const (.int .i64 1)), none⟩,
           ⟨some 12, .mov (.tmp 111), none⟩])))))) (
       .skip))))))))) (
    .region [⟨some 17, .mov (.tmp 10), none⟩,
      ⟨some 18, .bin .add (.tmp 17) (.const (.int .i64 1)), none⟩,
      ⟨some 10, .mov (.tmp 18), none⟩])))))) (
 .seq (.region [⟨some 8, .mov (.const (.bool false)), none⟩]) (
 .ret))))
theorem Try.fx84 : FnX Try.prog 84 141 #[.tmp 8] Try.x84 :=
  ⟨Try.f84, Try.func84, by kernel_rfl, by kernel_rfl, by kernel_rfl, by kernel_rfl⟩
/-- slices.partitionEqualCmpFunc[int] -/
def Try.x85 : XCode :=
 .seq (.region [⟨some 10, .mov (.const (.int .i64 0)), none⟩]) (
 .seq (.draw (
   .q ⟨some 13, .mov (.tmp 0), none⟩ (
   .q ⟨some 14, .mov (.tmp 1), none⟩ (
   .q ⟨some 15, .mov (.tmp 0), none⟩ (
   .q ⟨some 16, .mov (.tmp 3), none⟩ (
   .q ⟨some 17, .mov (.tmp 0), none⟩ (
   .q ⟨some 18, .mov (.tmp 3), none⟩ (
   .q ⟨some 19, .iadr (.tmp 17) (.tmp 18) 1, none⟩ (
   .q ⟨some 20, .load1 (.tmp 19), none⟩ (
   .q ⟨some 21, .mov (.tmp 0), none⟩ (
   .q ⟨some 22, .mov (.tmp 1), none⟩ (
   .q ⟨some 23, .iadr (.tmp 21) (.tmp 22) 1, none⟩ (
   .q ⟨some 24, .load1 (.tmp 23), none⟩ (
   .q ⟨some 25, .iadr (.tmp 13) (.tmp 14) 1, none⟩ (
   .alt ⟨none, .store 1 (.tmp 25) (.tmp 20), none⟩ false (
    .q ⟨some 26, .iadr (.tmp 15) (.tmp 16) 1, none⟩ (
    .alt ⟨none, .store 1 (.tmp 26) (.tmp 24), none⟩ false (
     .done) (.noalt))) (.noalt)))))))))))))))) (
 .seq (.region [⟨some 27, .mov (.tmp 1), none⟩,
    ⟨some 28, .bin .add (.tmp 27) (.const (.int .i64 1)), none⟩,
    ⟨some 29, .mov (.tmp 2), none⟩,
    ⟨some 30, .bin .sub (.tmp 29) (.const (.int .i64 1)), none⟩,
    ⟨some 11, .mov (.tmp 28), none⟩,
    ⟨some 12, .mov (.tmp 30), none⟩]) (
 .seq (.block 0 (
   .loop (
    .block 1 (
     .seq (.block 2 (
       .loop (
        .seq (.seq (.draw (
           .q ⟨some 31, .mov (.tmp 11), none⟩ (
           .q ⟨some 32, .mov (.tmp 12), none⟩ (
           .q ⟨some 33, .bin .leq (.tmp 31) (.tmp 32), none⟩ (
           .q ⟨some 34, .mov (.tmp 33), none⟩ (
           .q ⟨some 35, .mov (.tmp 4), some (34, true)⟩ (
           .q ⟨some 36, .mov (.tmp 0), some (34, true)⟩ (
           .q ⟨some 37, .mov (.tmp 1), some (34, true)⟩ (
           .q ⟨some 38, .iadr (.tmp 36) (.tmp 37) 1, some (34, true)⟩ (
           .q ⟨some 39, .load1 (.tmp 38), some (34, true)⟩ (
           .q ⟨some 40, .mov (.tmp 0), some (34, true)⟩ (
           .q ⟨some 41, .mov (.tmp 11), some (34, true)⟩ (
           .q ⟨some 42, .iadr (.tmp 40) (.tmp 41) 1, some (34, true)⟩ (
           .q ⟨some 43, .load1 (.tmp 42), some (34, true)⟩ (
           .alt ⟨some 44, .call (.tmp 35) [(.tmp 39), (.tmp 43)], some (34, true)⟩ false (
            .q ⟨some 45, .bin .lss (.tmp 44) (.const (.int .i64 0)), some (34, true)⟩ (
            .q ⟨some 46, .un .not (.tmp 45), some (34, true)⟩ (
            .q ⟨some 47, .pick (.tmp 34) (.tmp 46) (.const (.bool false)), none⟩ (
            .done)))) (.noalt)))))))))))))))) (
         .cond (.tmp 47) (
          .skip) (
          .exit 2))) (
        .block 3 (
         .region [⟨some 48, .mov (.tmp 11), none⟩,
           ⟨some 49, .bin .add (.tmp 48) (.const (.int .i64 1)), none⟩,
           ⟨some 11, .mov (.tmp 49), none⟩]))))) (
     .seq (.block 4 (
       .loop (
        .seq (.seq (.draw (
           .q ⟨some 50, .mov (.tmp 11), none⟩ (
           .q ⟨some 51, .mov (.tmp 12), none⟩ (
           .q ⟨some 52, .bin .leq (.tmp 50) (.tmp 51), none⟩ (
           .q ⟨some 53, .mov (.tmp 52), none⟩ (
           .q ⟨some 54, .mov (.tmp 4), some (53, true)⟩ (
           .q ⟨some 55, .mov (.tmp 0), some (53, true)⟩ (
           .q ⟨some 56, .mov (.tmp 1), some (53, true)⟩ (
           .q ⟨some 57, .iadr (.tmp 55) (.tmp 56) 1, some (53, true)⟩ (
           .q ⟨some 58, .load1 (.tmp 57), some (53, true)⟩ (
           .q ⟨some 59, .mov (.tmp 0), some (53, true)⟩ (
           .q ⟨some 60, .mov (.tmp 12), some (53, true)⟩ (
           .q ⟨some 61, .iadr (.tmp 59) (.tmp 60) 1, some (53, true)⟩ (
           .q ⟨some 62, .load1 (.tmp 61), some (53, true)⟩ (
           .alt ⟨some 63, .call (.tmp 54) [(.tmp 58), (.tmp 62)], some (53, true)⟩ false (
            .q ⟨some 64, .bin .lss (.tmp 63) (.const (.int .i64 0)), some (53, true)⟩ (
            .q ⟨some 65, .pick (.tmp 53) (.tmp 64) (.const (.bool false)), none⟩ (
            .done))) (.noalt)))))))))))))))) (
         .cond (.tmp 65) (
          .skip) (
          .exit 4))) (
        .block 5 (
         .region [⟨some 66, .mov (.tmp 12), none⟩,
           ⟨some 67, .bin .sub (.tmp 66) (.const (.int .i64 1)), none⟩,
           ⟨some 12, .mov (.tmp 67), none⟩]))))) (
     .seq (.seq (.region [⟨some 68, .mov (.tmp 11), none⟩,
         ⟨some 69, .mov (.tmp 12), none⟩,
         ⟨some 70, .bin .gtr (.tmp 68) (.tmp 69), none⟩]) (
      .cond (.tmp 70) (
       .exit 0) (
       .skip))) (
     .seq (.draw (
       .q ⟨some 71, .mov (.tmp 0), none⟩ (
       .q ⟨some 72, .mov (.tmp 11), none⟩ (
       .q ⟨some 73, .mov (.tmp 0), none⟩ (
       .q ⟨some 74, .mov (.tmp 12), none⟩ (
       .q ⟨some 75, .mov (.tmp 0), none⟩ (
       .q ⟨some 76, .mov (.tmp 12), none⟩ (
       .q ⟨some 77, .iadr (.tmp 75) (.tmp 76) 1, none⟩ (
       .q ⟨some 78, .load1 (.tmp 77), none⟩ (
       .q ⟨some 79, .mov (.tmp 0), none⟩ (
       .q ⟨some 80, .mov (.tmp 11), none⟩ (
       .q ⟨some 81, .iadr (.tmp 79) (.tmp 80) 1, none⟩ (
       .q ⟨some 82, .load1 (.tmp 81), none⟩ (
       .q ⟨some 83, .iadr (.tmp 71) (.tmp 72) 1, none⟩ (
       .alt ⟨none, .store 1 (.tmp 83) (.tmp 78), none⟩ false (
        .q ⟨some 84, .iadr (.tmp 73) (.tmp 74) 1, none⟩ (
        .alt ⟨none, .store 1 (.tmp 84) (.tmp 82), none⟩ false (
         .done) (.noalt))) (.noalt)))))))))))))))) (
     .seq (.region [⟨some 85, .mov (.tmp 11), none⟩,
        ⟨some 86, .bin .add (.tmp 85) (.const (.int .i64 1)), none⟩,
        ⟨some 11, .mov (.tmp 86), none⟩]) (
     .region [⟨some 87, .mov (.tmp 12), none⟩,
       ⟨some 88, .bin .sub (.tmp 87) (.const (.int .i64 1)), none⟩,
       ⟨some 12, .mov (.tmp 88), none⟩]))))))))) (
 .seq (.region [⟨some 89, .mov (.tmp 11), none⟩,
    ⟨some 10, .mov (.tmp 89), none⟩]) (
 .ret)))))
theorem Try.fx85 : FnX Try.prog 85 90 #[.tmp 10] Try.x85 :=
  ⟨Try.f85, Try.func85, by kernel_rfl, by kernel_rfl, by kernel_rfl, by kernel_rfl⟩
/-- slices.partitionCmpFunc[int] -/
def Try.x86 : XCode :=
 .seq (.region [⟨some 10, .mov (.const (.int .i64 0)), none⟩,
    ⟨some 11, .mov (.const (.bool false)), none⟩]) (
 .seq (.draw (
   .q ⟨some 14, .mov (.tmp 0), none⟩ (
   .q ⟨some 15, .mov (.tmp 1), none⟩ (
   .q ⟨some 16, .mov (.tmp 0), none⟩ (
   .q ⟨some 17, .mov (.tmp 3), none⟩ (
   .q ⟨some 18, .mov (.tmp 0), none⟩ (
   .q ⟨some 19, .mov (.tmp 3), none⟩ (
   .q ⟨some 20, .iadr (.tmp 18) (.tmp 19) 1, none⟩ (
   .q ⟨some 21, .load1 (.tmp 20), none⟩ (
   .q ⟨some 22, .mov (.tmp 0), none⟩ (
   .q ⟨some 23, .mov (.tmp 1), none⟩ (
   .q ⟨some 24, .iadr (.tmp 22) (.tmp 23) 1, none⟩ (
   .q ⟨some 25, .load1 (.tmp 24), none⟩ (
   .q ⟨some 26, .iadr (.tmp 14) (.tmp 15) 1, none⟩ (
   .alt ⟨none, .store 1 (.tmp 26) (.tmp 21), none⟩ false (
    .q ⟨some 27, .iadr (.tmp 16) (.tmp 17) 1, none⟩ (
    .alt ⟨none, .store 1 (.tmp 27) (.tmp 25), none⟩ false (
     .done) (.noalt))) (.noalt)))))))))))))))) (
 .seq (.region [⟨some 28, .mov (.tmp 1), none⟩,
    ⟨some 29, .bin .add (.tmp 28) (.const (.int .i64 1)), none⟩,
    ⟨some 30, .mov (.tmp 2), none⟩,
    ⟨some 31, .bin .sub (.tmp 30) (.const (.int .i64 1)), none⟩,
    ⟨some 12, .mov (.tmp 29), none⟩,
    ⟨some 13, .mov (.tmp 31), none⟩]) (
 .seq (.block 0 (
   .loop (
    .seq (.seq (.draw (
       .q ⟨some 32, .mov (.tmp 12), none⟩ (
       .q ⟨some 33, .mov (.tmp 13), none⟩ (
       .q ⟨some 34, .bin .leq (.tmp 32) (.tmp 33), none⟩ (
       .q ⟨some 35, .mov (.tmp 34), none⟩ (
       .q ⟨some 36, .mov (.tmp 4), some (35, true)⟩ (
       .q ⟨some 37, .mov (.tmp 0), some (35, true)⟩ (
       .q ⟨some 38, .mov (.tmp 12), some (35, true)⟩ (
       .q ⟨some 39, .iadr (.tmp 37) (.tmp 38) 1, some (35, true)⟩ (
       .q ⟨some 40, .load1 (.tmp 39), some (35, true)⟩ (
       .q ⟨some 41, .mov (.tmp 0), some (35, true)⟩ (
       .q ⟨some 42, .mov (.tmp 1), some (35, true)⟩ (
       .q ⟨some 43, .iadr (.tmp 41) (.tmp 42) 1, some (35, true)⟩ (
       .q ⟨some 44, .load1 (.tmp 43), some (35, true)⟩ (
       .alt ⟨some 45, .call (.tmp 36) [(.tmp 40), (.tmp 44)], some (35, true)⟩ false (
        .q ⟨some 46, .bin .lss (.tmp 45) (.const (.int .i64 0)), some (35, true)⟩ (
        .q ⟨some 47, .pick (.tmp 35) (.tmp 46) (.const (.bool false)), none⟩ (
        .done))) (.noalt)))))))))))))))) (
     .cond (.tmp 47) (
      .skip) (
      .exit 0))) (
    .block 1 (
     .region [⟨some 48, .mov (.tmp 12), none⟩,
       ⟨some 49, .bin .add (.tmp 48) (.const (.int .i64 1)), none⟩,
       ⟨some 12, .mov (.tmp 49), none⟩]))))) (
 .seq (.block 2 (
   .loop (
    .seq (.seq (.draw (
       .q ⟨some 50, .mov (.tmp 12), none⟩ (
       .q ⟨some 51, .mov (.tmp 13), none⟩ (
       .q ⟨some 52, .bin .leq (.tmp 50) (.tmp 51), none⟩ (
       .q ⟨some 53, .mov (.tmp 52), none⟩ (
       .q ⟨some 54, .mov (.tmp 4), some (53, true)⟩ (
       .q ⟨some 55, .mov (.tmp 0), some (53, true)⟩ (
       .q ⟨some 56, .mov (.tmp 13), some (53, true)⟩ (
       .q ⟨some 57, .iadr (.tmp 55) (.tmp 56) 1, some (53, true)⟩ (
       .q ⟨some 58, .load1 (.tmp 57), some (53, true)⟩ (
       .q ⟨some 59, .mov (.tmp 0), some (53, true)⟩ (
       .q ⟨some 60, .mov (.tmp 1), some (53, true)⟩ (
       .q ⟨some 61, .iadr (.tmp 59) (.tmp 60) 1, some (53, true)⟩ (
       .q ⟨some 62, .load1 (.tmp 61), some (53, true)⟩ (
       .alt ⟨some 63, .call (.tmp 54) [(.tmp 58), (.tmp 62)], some (53, true)⟩ false (
        .q ⟨some 64, .bin .lss (.tmp 63) (.const (.int .i64 0)), some (53, true)⟩ (
        .q ⟨some 65, .un .not (.tmp 64), some (53, true)⟩ (
        .q ⟨some 66, .pick (.tmp 53) (.tmp 65) (.const (.bool false)), none⟩ (
        .done)))) (.noalt)))))))))))))))) (
     .cond (.tmp 66) (
      .skip) (
      .exit 2))) (
    .block 3 (
     .region [⟨some 67, .mov (.tmp 13), none⟩,
       ⟨some 68, .bin .sub (.tmp 67) (.const (.int .i64 1)), none⟩,
       ⟨some 13, .mov (.tmp 68), none⟩]))))) (
 .seq (.seq (.region [⟨some 69, .mov (.tmp 12), none⟩,
     ⟨some 70, .mov (.tmp 13), none⟩,
     ⟨some 71, .bin .gtr (.tmp 69) (.tmp 70), none⟩]) (
  .cond (.tmp 71) (
   .seq (.draw (
     .q ⟨some 72, .mov (.tmp 0), none⟩ (
     .q ⟨some 73, .mov (.tmp 13), none⟩ (
     .q ⟨some 74, .mov (.tmp 0), none⟩ (
     .q ⟨some 75, .mov (.tmp 1), none⟩ (
     .q ⟨some 76, .mov (.tmp 0), none⟩ (
     .q ⟨some 77, .mov (.tmp 1), none⟩ (
     .q ⟨some 78, .iadr (.tmp 76) (.tmp 77) 1, none⟩ (
     .q ⟨some 79, .load1 (.tmp 78), none⟩ (
     .q ⟨some 80, .mov (.tmp 0), none⟩ (
     .q ⟨some 81, .mov (.tmp 13), none⟩ (
     .q ⟨some 82, .iadr (.tmp 80) (.tmp 81) 1, none⟩ (
     .q ⟨some 83, .load1 (.tmp 82), none⟩ (
     .q ⟨some 84, .iadr (.tmp 72) (.tmp 73) 1, none⟩ (
     .alt ⟨none, .store 1 (.tmp 84) (.tmp 79), none⟩ false (
      .q ⟨some 85, .iadr (.tmp 74) (.tmp 75) 1, none⟩ (
      .alt ⟨none, .store 1 (.tmp 85) (.tmp 83), none⟩ false (
       .done) (.noalt))) (.noalt)))))))))))))))) (
   .seq (.region [⟨some 86, .mov (.tmp 13), none⟩,
      ⟨some 10, .mov (.tmp 86), none⟩,
      ⟨some 11, .mov (.const (.bool true)), none⟩]) (
   .ret))) (
   .skip))) (
 .seq (.draw (
   .q ⟨some 87, .mov (.tmp 0), none⟩ (
   .q ⟨some 88, .mov (.tmp 12), none⟩ (
   .q ⟨some 89, .mov (.tmp 0), none⟩ (
   .q ⟨some 90, .mov (.tmp 13), none⟩ (
   .q ⟨some 91, .mov (.tmp 0), none⟩ (
   .q ⟨some 92, .mov (.tmp 13), none⟩ (
   .q ⟨some 93, .iadr (.tmp 91) (.tmp 92) 1, none⟩ (
   .q ⟨some 94, .load1 (.tmp 93), none⟩ (
   .q ⟨some 95, .mov (.tmp 0), none⟩ (
   .q ⟨some 96, .mov (.tmp 12), none⟩ (
   .q ⟨some 97, .iadr (.tmp 95) (.tmp 96) 1, none⟩ (
   .q ⟨some 98, .load1 (.tmp 97), none⟩ (
   .q ⟨some 99, .iadr (.tmp 87) (.tmp 88) 1, none⟩ (
   .alt ⟨none, .store 1 (.tmp 99) (.tmp 94), none⟩ false (
    .q ⟨some 100, .iadr (.tmp 89) (.tmp 90) 1, none⟩ (
    .alt ⟨none, .store 1 (.tmp 100) (.tmp 98), none⟩ false (
     .done) (.noalt))) (.noalt)))))))))))))))) (
 .seq (.region [⟨some 101, .mov (.tmp 12), none⟩,
    ⟨some 102, .bin .add (.tmp 101) (.const (.int .i64 1)), none⟩,
    ⟨some 12, .mov (.tmp 102), none⟩]) (
 .seq (.region [⟨some 103, .mov (.tmp 13), none⟩,
    ⟨some 104, .bin .sub (.tmp 103) (.const (.int .i64 1)), none⟩,
    ⟨some 13, .mov (.tmp 104), none⟩]) (
 .seq (.block 4 (
   .loop (
    .block 5 (
     .seq (.block 6 (
       .loop (
        .seq (.seq (.draw (
           .q ⟨some 105, .mov (.tmp 12), none⟩ (
           .q ⟨some 106, .mov (.tmp 13), none⟩ (
           .q ⟨some 107, .bin .leq (.tmp 105) (.tmp 106), none⟩ (
           .q ⟨some 108, .mov (.tmp 107), none⟩ (
           .q ⟨some 109, .mov (.tmp 4), some (108, true)⟩ (
           .q ⟨some 110, .mov (.tmp 0), some (108, true)⟩ (
           .q ⟨some 111, .mov (.tmp 12), some (108, true)⟩ (
           .q ⟨some 112, .iadr (.tmp 110) (.tmp 111) 1, some (108, true)⟩ (
           .q ⟨some 113, .load1 (.tmp 112), some (108, true)⟩ (
           .q ⟨some 114, .mov (.tmp 0), some (108, true)⟩ (
           .q ⟨some 115, .mov (.tmp 1), some (108, true)⟩ (
           .q ⟨some 116, .iadr (.tmp 114) (.tmp 115) 1, some (108, true)⟩ (
           .q ⟨some 117, .load1 (.tmp 116), some (108, true)⟩ (
           .alt ⟨some 118, .call (.tmp 109) [(.tmp 113), (.tmp 117)], some (108, true)⟩ false (
            .q ⟨some 119, .bin .lss (.tmp 118) (.const (.int .i64 0)), some (108, true)⟩ (
            .q ⟨some 120, .pick (.tmp 108) (.tmp 119) (.const (.bool false)), none⟩ (
            .done))) (.noalt)))))))))))))))) (
         .cond (.tmp 120) (
          .skip) (
          .exit 6))) (
        .block 7 (
         .region [⟨some 121, .mov (.tmp 12), none⟩,
           ⟨some 122, .bin .add (.tmp 121) (.const (.int .i64 1)), none⟩,
           ⟨some 12, .mov (.tmp 122), none⟩]))))) (
     .seq (.block 8 (
       .loop (
        .seq (.seq (.draw (
           .q ⟨some 123, .mov (.tmp 12), none⟩ (
           .q ⟨some 124, .mov (.tmp 13), none⟩ (
           .q ⟨some 125, .bin .leq (.tmp 123) (.tmp 124), none⟩ (
           .q ⟨some 126, .mov (.tmp 125), none⟩ (
           .q ⟨some 127, .mov (.tmp 4), some (126, true)⟩ (
           .q ⟨some 128, .mov (.tmp 0), some (126, true)⟩ (
           .q ⟨some 129, .mov (.tmp 13), some (126, true)⟩ (
           .q ⟨some 130, .iadr (.tmp 128) (.tmp 129) 1, some (126, true)⟩ (
           .q ⟨some 131, .load1 (.tmp 130), some (126, true)⟩ (
           .q ⟨some 132, .mov (.tmp 0), some (126, true)⟩ (
           .q ⟨some 133, .mov (.tmp 1), some (126, true)⟩ (
           .q ⟨some 134, .iadr (.tmp 132) (.tmp 133) 1, some (126, true)⟩ (
           .q ⟨some 135, .load1 (.tmp 134), some (126, true)⟩ (
           .alt ⟨some 136, .call (.tmp 127) [(.tmp 131), (.tmp 135)], some (126, true)⟩ false (
            .q ⟨some 137, .bin .lss (.tmp 136) (.const (.int .i64 0)), some (126, true)⟩ (
            .q ⟨some 138, .un .not (.tmp 137), some (126, true)⟩ (
            .q ⟨some 139, .pick (.tmp 126) (.tmp 138) (.const (.bool false)), none⟩ (
            .done)))) (.noalt)))))))))))))))) (
         .cond (.tmp 139) (
          .skip) (
          .exit 8))) (
        .block 9 (
         .region [⟨some 140, .mov (.tmp 13), none⟩,
           ⟨some 141, .bin .sub (.tmp 140) (.const (.int .i64 1)), none⟩,
           ⟨some 13, .mov (.tmp 141), none⟩]))))) (
     .seq (.seq (.region [⟨some 142, .mov (.tmp 12), none⟩,
         ⟨some 143, .mov (.tmp 13), none⟩,
         ⟨some 144, .bin .gtr (.tmp 142) (.tmp 143), none⟩]) (
      .cond (.tmp 144) (
       .exit 4) (
       .skip))) (
     .seq (.draw (
       .q ⟨some 145, .mov (.tmp 0), none⟩ (
       .q ⟨some 146, .mov (.tmp 12), none⟩ (
       .q ⟨some 147, .mov (.tmp 0), none⟩ (
       .q ⟨some 148, .mov (.tmp 13), none⟩ (
       .q ⟨some 149, .mov (.tmp 0), none⟩ (
       .q ⟨some 150, .mov (.tmp 13), none⟩ (
       .q ⟨some 151, .iadr (.tmp 149) (.tmp 150) 1, none⟩ (
       .q ⟨some 152, .load1 (.tmp 151), none⟩ (
       .q ⟨some 153, .mov (.tmp 0), none⟩ (
       .q ⟨some 154, .mov (.tmp 12), none⟩ (
       .q ⟨some 155, .iadr (.tmp 153) (.tmp 154) 1, none⟩ (
       .q ⟨some 156, .load1 (.tmp 155), none⟩ (
       .q ⟨some 157, .iadr (.tmp 145) (.tmp 146) 1, none⟩ (
       .alt ⟨none, .store 1 (.tmp 157) (.tmp 152), none⟩ false (
        .q ⟨some 158, .iadr (.tmp 147) (.tmp 148) 1, none⟩ (
        .alt ⟨none, .store 1 (.tmp 158) (.tmp 156), none⟩ false (
         .done) (.noalt))) (.noalt)))))))))))))))) (
     .seq (.region [⟨some 159, .mov (.tmp 12), none⟩,
        ⟨some 160, .bin .add (.tmp 159) (.const (.int .i64 1)), none⟩,
        ⟨some 12, .mov (.tmp 160), none⟩]) (
     .region [⟨some 161, .mov (.tmp 13), none⟩,
       ⟨some 162, .bin .sub (.tmp 161) (.const (.int .i64 1)), none⟩,
       ⟨some 13, .mov (.tmp 162), none⟩]))))))))) (
 .seq (.draw (
   .q ⟨some 163, .mov (.tmp 0), none⟩ (
   .q ⟨some 164, .mov (.tmp 13), none⟩ (
   .q ⟨some 165, .mov (.tmp 0), none⟩ (
   .q ⟨some 166, .mov (.tmp 1), none⟩ (
   .q ⟨some 167, .mov (.tmp 0), none⟩ (
   .q ⟨some 168, .mov (.tmp 1), none⟩ (
   .q ⟨some 169, .iadr (.tmp 167) (.tmp 168) 1, none⟩ (
   .q ⟨some 170, .load1 (.tmp 169), none⟩ (
   .q ⟨some 171, .mov (.tmp 0), none⟩ (
   .q ⟨some 172, .mov (.tmp 13), none⟩ (
   .q ⟨some 173, .iadr (.tmp 171) (.tmp 172) 1, none⟩ (
   .q ⟨some 174, .load1 (.tmp 173), none⟩ (
   .q ⟨some 175, .iadr (.tmp 163) (.tmp 164) 1, none⟩ (
   .alt ⟨none, .store 1 (.tmp 175) (.tmp 170), none⟩ false (
    .q ⟨some 176, .iadr (.tmp 165) (.tmp 166) 1, none⟩ (
    .alt ⟨none, .store 1 (.tmp 176) (.tmp 174), none⟩ false (
     .done) (.noalt))) (.noalt)))))))))))))))) (
 .seq (.region [⟨some 177, .mov (.tmp 13), none⟩,
    ⟨some 10, .mov (.tmp 177), none⟩,
    ⟨some 11, .mov (.const (.bool false)), none⟩]) (
 .ret))))))))))))
theorem Try.fx86 : FnX Try.prog 86 178 #[.tmp 10, .tmp 11] Try.x86 :=
  ⟨Try.f86, Try.func86, by kernel_rfl, by kernel_rfl, by kernel_rfl, by kernel_rfl⟩
/-- math/bits.Len32 -/
def Try.x87 : XCode :=
 .seq (.region [⟨some 2, .mov (.const (.int .i64 0)), none⟩]) (
 .seq (.seq (.region [⟨some 3, .mov (.tmp 0), none⟩,
     ⟨some 4, .bin .geq (.tmp 3) (.const (.int .u32 65536)), none⟩]) (
  .cond (.tmp 4) (
   .seq (.region [⟨some 5, .mov (.tmp 0), none⟩,
      ⟨some 6, .bin .shr (.tmp 5) (.const (.int .u64 16)), none⟩,
      ⟨some 0, .mov (.tmp 6), none⟩]) (
   .region [⟨some 2, .mov (.const (.int .i64 16)), none⟩])) (
   .skip))) (
 .seq (.seq (.region [⟨some 7, .mov (.tmp 0), none⟩,
     ⟨some 8, .bin .geq (.tmp 7) (.const (.int .u32 256)), none⟩]) (
  .cond (.tmp 8) (
   .seq (.region [⟨some 9, .mov (.tmp 0), none⟩,
      ⟨some 10, .bin .shr (.tmp 9) (.const (.int .u64 8)), none⟩,
      ⟨some 0, .mov (.tmp 10), none⟩]) (
   .region [⟨some 11, .mov (.tmp 2), none⟩,
     ⟨some 12, .bin .add (.tmp 11) (.const (.int .i64 8)), none⟩,
     ⟨some 2, .mov (.tmp 12), none⟩])) (
   .skip))) (
 .seq (.region [⟨some 13, .mov (.tmp 2), none⟩,
    ⟨some 14, .mov (.tmp 0), none⟩,
    ⟨some 15, .conv .u8 (.tmp 14), none⟩,
    ⟨some 16, .sidx (.const (.string ⟨#[0, 1, 2, 2, 3, 3, 3, 3, 4, 4, 4, 4, 4, 4, 4, 4, 5, 5, 5, 5, 5, 5, 5, 5, 5, 5, 5, 5, 5, 5, 5, 5, 6, 6, 6, 6, 6, 6, 6, 6, 6, 6, 6, 6, 6, 6, 6, 6, 6, 6, 6, 6, 6, 6, 6, 6, 6, 6, 6, 6, 6, 6, 6, 6, 7, 7, 7, 7, 7, 7, 7, 7, 7, 7, 7, 7, 7, 7, 7, 7, 7, 7, 7, 7, 7, 7, 7, 7, 7, 7, 7, 7, 7, 7, 7, 7, 7, 7, 7, 7, 7, 7, 7, 7, 7, 7, 7, 7, 7, 7, 7, 7, 7, 7, 7, 7, 7, 7, 7, 7, 7, 7, 7, 7, 7, 7, 7, 7, 8, 8, 8, 8, 8, 8, 8, 8, 8, 8, 8, 8, 8, 8, 8, 8, 8, 8, 8, 8, 8, 8, 8, 8, 8, 8, 8, 8, 8, 8, 8, 8, 8, 8, 8, 8, 8, 8, 8, 8, 8, 8, 8, 8, 8, 8, 8, 8, 8, 8, 8, 8, 8, 8, 8, 8, 8, 8, 8, 8, 8, 8, 8, 8, 8, 8, 8, 8, 8, 8, 8, 8, 8, 8, 8, 8, 8, 8, 8, 8, 8, 8, 8, 8, 8, 8, 8, 8, 8, 8, 8, 8, 8, 8, 8, 8, 8, 8, 8, 8, 8, 8, 8, 8, 8, 8, 8, 8, 8, 8, 8, 8, 8, 8, 8, 8, 8, 8, 8, 8, 8, 8, 8, 8, 8, 8, 8, 8]⟩)) (.tmp 15), none⟩,
    ⟨some 17, .conv .i64 (.tmp 16), none⟩,
    ⟨some 18, .bin .add (.tmp 13) (.tmp 17), none⟩,
    ⟨some 2, .mov (.tmp 18), none⟩]) (
 .ret))))
theorem Try.fx87 : FnX Try.prog 87 19 #[.tmp 2] Try.x87 :=
  ⟨Try.f87, Try.func87, by kernel_rfl, by kernel_rfl, by kernel_rfl, by kernel_rfl⟩
/-- math/bits.Len64 -/
def Try.x88 : XCode :=
 .seq (.region [⟨some 2, .mov (.const (.int .i64 0)), none⟩]) (
 .seq (.seq (.region [⟨some 3, .mov (.tmp 0), none⟩,
     ⟨some 4, .bin .geq (.tmp 3) (.const (.int .u64 4294967296)), none⟩]) (
  .cond (.tmp 4) (
   .seq (.region [⟨some 5, .mov (.tmp 0), none⟩,
      ⟨some 6, .bin .shr (.tmp 5) (.const (.int .u64 32)), none⟩,
      ⟨some 0, .mov (.tmp 6), none⟩]) (
   .region [⟨some 2, .mov (.const (.int .i64 32)), none⟩])) (
   .skip))) (
 .seq (.seq (.region [⟨some 7, .mov (.tmp 0), none⟩,
     ⟨some 8, .bin .geq (.tmp 7) (.const (.int .u64 65536)), none⟩]) (
  .cond (.tmp 8) (
   .seq (.region [⟨some 9, .mov (.tmp 0), none⟩,
      ⟨some 10, .bin .shr (.tmp 9) (.const (.int .u64 16)), none⟩,
      ⟨some 0, .mov (.tmp 10), none⟩]) (
   .region [⟨some 11, .mov (.tmp 2), none⟩,
     ⟨some 12, .bin .add (.tmp 11) (.const (.int .i64 16)), none⟩,
     ⟨some 2, .mov (.tmp 12), none⟩])) (
   .skip))) (
 .seq (.seq (.region [⟨some 13, .mov (.tmp 0), none⟩,
     ⟨some 14, .bin .geq (.tmp 13) (.const (.int .u64 256)), none⟩]) (
  .cond (.tmp 14) (
   .seq (.region [⟨some 15, .mov (.tmp 0), none⟩,
      ⟨some 16, .bin .shr (.tmp 15) (.const (.int .u64 8)), none⟩,
      ⟨some 0, .mov (.tmp 16), none⟩]) (
   .region [⟨some 17, .mov (.tmp 2), none⟩,
     ⟨some 18, .bin .add (.tmp 17) (.const (.int .i64 8)), none⟩,
     ⟨some 2, .mov (.tmp 18), none⟩])) (
   .skip))) (
 .seq (.region [⟨some 19, .mov (.tmp 2), none⟩,
    ⟨some 20, .mov (.tmp 0), none⟩,
    ⟨some 21, .conv .u8 (.tmp 20), none⟩,
    ⟨some 22, .sidx (.const (.string ⟨#[0, 1, 2, 2, 3, 3, 3, 3, 4, 4, 4, 4, 4, 4, 4, 4, 5, 5, 5, 5, 5, 5, 5, 5, 5, 5, 5, 5, 5, 5, 5, 5, 6, 6, 6, 6, 6, 6, 6, 6, 6, 6, 6, 6, 6, 6, 6, 6, 6, 6, 6, 6, 6, 6, 6, 6, 6, 6, 6, 6, 6, 6, 6, 6, 7, 7, 7, 7, 7, 7, 7, 7, 7, 7, 7, 7, 7, 7, 7, 7, 7, 7, 7, 7, 7, 7, 7, 7, 7, 7, 7, 7, 7, 7, 7, 7, 7, 7, 7, 7, 7, 7, 7, 7, 7, 7, 7, 7, 7, 7, 7, 7, 7, 7, 7, 7, 7, 7, 7, 7, 7, 7, 7, 7, 7, 7, 7, 7, 8, 8, 8, 8, 8, 8, 8, 8, 8, 8, 8, 8, 8, 8, 8, 8, 8, 8, 8, 8, 8, 8, 8, 8, 8, 8, 8, 8, 8, 8, 8, 8, 8, 8, 8, 8, 8, 8, 8, 8, 8, 8, 8, 8, 8, 8, 8, 8, 8, 8, 8, 8, 8, 8, 8, 8, 8, 8, 8, 8, 8, 8, 8, 8, 8, 8, 8, 8, 8, 8, 8, 8, 8, 8, 8, 8, 8, 8, 8, 8, 8, 8, 8, 8, 8, 8, 8, 8, 8, 8, 8, 8, 8, 8, 8, 8, 8, 8, 8, 8, 8, 8, 8, 8, 8, 8, 8, 8, 8, 8, 8, 8, 8, 8, 8, 8, 8, 8, 8, 8, 8, 8, 8, 8, 8, 8, 8, 8]⟩)) (.tmp 21), none⟩,
    ⟨some 23, .conv .i64 (.tmp 22), none⟩,
    ⟨some 24, .bin .add (.tmp 19) (.tmp 23), none⟩,
    ⟨some 2, .mov (.tmp 24), none⟩]) (
 .ret)))))
theorem Try.fx88 : FnX Try.prog 88 25 #[.tmp 2] Try.x88 :=
  ⟨Try.f88, Try.func88, by kernel_rfl, by kernel_rfl, by kernel_rfl, by kernel_rfl⟩
/-- slices.siftDownCmpFunc[int] -/
def Try.x89 : XCode :=
 .seq (.region [⟨some 12, .mov (.tmp 1), none⟩,
    ⟨some 10, .mov (.tmp 12), none⟩]) (
 .block 0 (
  .loop (
   .block 1 (
    .seq (.region [⟨some 13, .mov (.tmp 10), none⟩,
       ⟨some 14, .bin .mul (.const (.int .i64 2)) (.tmp 13), none⟩,
       ⟨some 15, .bin .add (.tmp 14) (.const (.int .i64 1)), none⟩,
       ⟨some 11, .mov (.tmp 15), none⟩]) (
    .seq (.seq (.region [⟨some 16, .mov (.tmp 11), none⟩,
        ⟨some 17, .mov (.tmp 2), none⟩,
        ⟨some 18, .bin .geq (.tmp 16) (.tmp 17), none⟩]) (
     .cond (.tmp 18) (
      .exit 0) (
      .skip))) (
    .seq (.seq (.draw (
       .q ⟨some 19, .mov (.tmp 11), none⟩ (
       .q ⟨some 20, .bin .add (.tmp 19) (.const (.int .i64 1)), none⟩ (
       .q ⟨some 21, .mov (.tmp 2), none⟩ (
       .q ⟨some 22, .bin .lss (.tmp 20) (.tmp 21), none⟩ (
       .q ⟨some 23, .mov (.tmp 22), none⟩ (
       .q ⟨some 24, .mov (.tmp 4), some (23, true)⟩ (
       .q ⟨some 25, .mov (.tmp 0), some (23, true)⟩ (
       .q ⟨some 26, .mov (.tmp 3), some (23, true)⟩ (
       .q ⟨some 27, .mov (.tmp 11), some (23, true)⟩ (
       .q ⟨some 28, .bin .add (.tmp 26) (.tmp 27), some (23, true)⟩ (
       .q ⟨some 29, .iadr (.tmp 25) (.tmp 28) 1, some (23, true)⟩ (
       .q ⟨some 30, .load1 (.tmp 29), some (23, true)⟩ (
       .q ⟨some 31, .mov (.tmp 0), some (23, true)⟩ (
       .q ⟨some 32, .mov (.tmp 3), some (23, true)⟩ (
       .q ⟨some 33, .mov (.tmp 11), some (23, true)⟩ (
       .q ⟨some 34, .bin .add (.tmp 32) (.tmp 33), some (23, true)⟩ (
       .q ⟨some 35, .bin .add (.tmp 34) (.const (.int .i64 1)), some (23, true)⟩ (
       .q ⟨some 36, .iadr (.tmp 31) (.tmp 35) 1, some (23, true)⟩ (
       .q ⟨some 37, .load1 (.tmp 36), some (23, true)⟩ (
       .alt ⟨some 38, .call (.tmp 24) [(.tmp 30), (.tmp 37)], some (23, true)⟩ false (
        .q ⟨some 39, .bin .lss (.tmp 38) (.const (.int .i64 0)), some (23, true)⟩ (
        .q ⟨some 40, .pick (.tmp 23) (.tmp 39) (.const (.bool false)), none⟩ (
        .done))) (.noalt)))))))))))))))))))))) (
     .cond (.tmp 40) (
      .region [⟨some 41, .mov (.tmp 11), none⟩,
        ⟨some 42, .bin .add (.tmp 41) (.const (.int .i64 1)), none⟩,
        ⟨some 11, .mov (.tmp 42), none⟩]) (
      .skip))) (
    .seq (.seq (.draw (
       .q ⟨some 43, .mov (.tmp 4), none⟩ (
       .q ⟨some 44, .mov (.tmp 0), none⟩ (
       .q ⟨some 45, .mov (.tmp 3), none⟩ (
       .q ⟨some 46, .mov (.tmp 10), none⟩ (
       .q ⟨some 47, .bin .add (.tmp 45) (.tmp 46), none⟩ (
       .q ⟨some 48, .iadr (.tmp 44) (.tmp 47) 1, none⟩ (
       .q ⟨some 49, .load1 (.tmp 48), none⟩ (
       .q ⟨some 50, .mov (.tmp 0), none⟩ (
       .q ⟨some 51, .mov (.tmp 3), none⟩ (
       .q ⟨some 52, .mov (.tmp 11), none⟩ (
       .q ⟨some 53, .bin .add (.tmp 51) (.tmp 52), none⟩ (
       .q ⟨some 54, .iadr (.tmp 50) (.tmp 53) 1, none⟩ (
       .q ⟨some 55, .load1 (.tmp 54), none⟩ (
       .alt ⟨some 56, .call (.tmp 43) [(.tmp 49), (.tmp 55)], none⟩ false (
        .q ⟨some 57, .bin .lss (.tmp 56) (.const (.int .i64 0)), none⟩ (
        .q ⟨some 58, .un .not (.tmp 57), none⟩ (
        .done))) (.noalt)))))))))))))))) (
     .cond (.tmp 58) (
      .ret) (
      .skip))) (
    .seq (.draw (
      .q ⟨some 59, .mov (.tmp 0), none⟩ (
      .q ⟨some 60, .mov (.tmp 3), none⟩ (
      .q ⟨some 61, .mov (.tmp 10), none⟩ (
      .q ⟨some 62, .bin .add (.tmp 60) (.tmp 61), none⟩ (
      .q ⟨some 63, .mov (.tmp 0), none⟩ (
      .q ⟨some 64, .mov (.tmp 3), none⟩ (
      .q ⟨some 65, .mov (.tmp 11), none⟩ (
      .q ⟨some 66, .bin .add (.tmp 64) (.tmp 65), none⟩ (
      .q ⟨some 67, .mov (.tmp 0), none⟩ (
      .q ⟨some 68, .mov (.tmp 3), none⟩ (
      .q ⟨some 69, .mov (.tmp 11), none⟩ (
      .q ⟨some 70, .bin .add (.tmp 68) (.tmp 69), none⟩ (
      .q ⟨some 71, .iadr (.tmp 67) (.tmp 70) 1, none⟩ (
      .q ⟨some 72, .load1 (.tmp 71), none⟩ (
      .q ⟨some 73, .mov (.tmp 0), none⟩ (
      .q ⟨some 74, .mov (.tmp 3), none⟩ (
      .q ⟨some 75, .mov (.tmp 10), none⟩ (
      .q ⟨some 76, .bin .add (.tmp 74) (.tmp 75), none⟩ (
      .q ⟨some 77, .iadr (.tmp 73) (.tmp 76) 1, none⟩ (
      .q ⟨some 78, .load1 (.tmp 77), none⟩ (
      .q ⟨some 79, .iadr (.tmp 59) (.tmp 62) 1, none⟩ (
      .alt ⟨none, .store 1 (.tmp 79) (.tmp 72), none⟩ false (
       .q ⟨some 80, .iadr (.tmp 63) (.tmp 66) 1, none⟩ (
       .alt ⟨none, .store 1 (.tmp 80) (.tmp 78), none⟩ false (
        .done) (.noalt))) (.noalt)))))))))))))))))))))))) (
    .region [⟨some 81, .mov (.tmp 11), none⟩,
      ⟨some 10, .mov (.tmp 81), none⟩])))))))))
theorem Try.fx89 : FnX Try.prog 89 82 #[] Try.x89 :=
  ⟨Try.f89, Try.func89, by kernel_rfl, by kernel_rfl, by kernel_rfl, by kernel_rfl⟩
/-- slices.nextPowerOfTwo -/
def Try.x90 : XCode :=
 .seq (.region [⟨some 2, .mov (.const (.int .u64 0)), none⟩]) (
 .seq (.region [⟨some 3, .mov (.tmp 0), none⟩,
    ⟨some 4, .conv .u64 (.tmp 3), none⟩,
    ⟨some 5, .call (.func 75) [(.tmp 4)], none⟩,
    ⟨some 6, .bin .shl (.const (.int .u64 1)) (.tmp 5), none⟩,
    ⟨some 2, .mov (.tmp 6), none⟩]) (
 .ret))
theorem Try.fx90 : FnX Try.prog 90 7 #[.tmp 2] Try.x90 :=
  ⟨Try.f90, Try.func90, by kernel_rfl, by kernel_rfl, by kernel_rfl, by kernel_rfl⟩
/-- (*slices.xorshift).Next -/
def Try.x91 : XCode :=
 .seq (.region [⟨some 2, .mov (.const (.int .u64 0)), none⟩]) (
 .seq (.draw (
   .q ⟨some 3, .mov (.tmp 0), none⟩ (
   .q ⟨some 4, .nilc (.tmp 3), none⟩ (
   .q ⟨some 5, .load1 (.tmp 4), none⟩ (
   .q ⟨some 6, .mov (.tmp 0), none⟩ (
   .q ⟨some 7, .nilc (.tmp 6), none⟩ (
   .q ⟨some 8, .load1 (.tmp 7), none⟩ (
   .q ⟨some 9, .bin .shl (.tmp 8) (.const (.int .u64 13)), none⟩ (
   .q ⟨some 10, .bin .xor (.tmp 5) (.tmp 9), none⟩ (
   .q ⟨some 11, .nilc (.tmp 3), none⟩ (
   .alt ⟨none, .store 1 (.tmp 11) (.tmp 10), none⟩ false (
    .done) (.noalt)))))))))))) (
 .seq (.draw (
   .q ⟨some 12, .mov (.tmp 0), none⟩ (
   .q ⟨some 13, .nilc (.tmp 12), none⟩ (
   .q ⟨some 14, .load1 (.tmp 13), none⟩ (
   .q ⟨some 15, .mov (.tmp 0), none⟩ (
   .q ⟨some 16, .nilc (.tmp 15), none⟩ (
   .q ⟨some 17, .load1 (.tmp 16), none⟩ (
   .q ⟨some 18, .bin .shr (.tmp 17) (.const (.int .u64 7)), none⟩ (
   .q ⟨some 19, .bin .xor (.tmp 14) (.tmp 18), none⟩ (
   .q ⟨some 20, .nilc (.tmp 12), none⟩ (
   .alt ⟨none, .store 1 (.tmp 20) (.tmp 19), none⟩ false (
    .done) (.noalt)))))))))))) (
 .seq (.draw (
   .q ⟨some 21, .mov (.tmp 0), none⟩ (
   .q ⟨some 22, .nilc (.tmp 21), none⟩ (
   .q ⟨some 23, .load1 (.tmp 22), none⟩ (
   .q ⟨some 24, .mov (.tmp 0), none⟩ (
   .q ⟨some 25, .nilc (.tmp 24), none⟩ (
   .q ⟨some 26, .load1 (.tmp 25), none⟩ (
   .q ⟨some 27, .bin .shl (.tmp 26) (.const (.int .u64 17)), none⟩ (
   .q ⟨some 28, .bin .xor (.tmp 23) (.tmp 27), none⟩ (
   .q ⟨some 29, .nilc (.tmp 21), none⟩ (
   .alt ⟨none, .store 1 (.tmp 29) (.tmp 28), none⟩ false (
    .done) (.noalt)))))))))))) (
 .seq (.region [⟨some 30, .mov (.tmp 0), none⟩,
    ⟨some 31, .nilc (.tmp 30), none⟩,
    ⟨some 32, .load1 (.tmp 31), none⟩,
    ⟨some 2, .mov (.tmp 32), none⟩]) (
 .ret)))))
theorem Try.fx91 : FnX Try.prog 91 33 #[.tmp 2] Try.x91 :=
  ⟨Try.f91, Try.func91, by kernel_rfl, by kernel_rfl, by kernel_rfl, by kernel_rfl⟩
/-- slices.medianAdjacentCmpFunc[int] -/
def Try.x92 : XCode :=
 .seq (.region [⟨some 8, .mov (.const (.int .i64 0)), none⟩]) (
 .seq (.region [⟨some 9, .mov (.tmp 0), none⟩,
    ⟨some 10, .mov (.tmp 1), none⟩,
    ⟨some 11, .bin .sub (.tmp 10) (.const (.int .i64 1)), none⟩,
    ⟨some 12, .mov (.tmp 1), none⟩,
    ⟨some 13, .mov (.tmp 1), none⟩,
    ⟨some 14, .bin .add (.tmp 13) (.const (.int .i64 1)), none⟩,
    ⟨some 15, .mov (.tmp 2), none⟩,
    ⟨some 16, .mov (.tmp 3), none⟩,
    ⟨some 17, .call (.func 93) [(.tmp 9), (.tmp 11), (.tmp 12), (.tmp 14), (.tmp 15), (.tmp 16)], none⟩,
    ⟨some 8, .mov (.tmp 17), none⟩]) (
 .ret))
theorem Try.fx92 : FnX Try.prog 92 18 #[.tmp 8] Try.x92 :=
  ⟨Try.f92, Try.func92, by kernel_rfl, by kernel_rfl, by kernel_rfl, by kernel_rfl⟩
/-- slices.medianCmpFunc[int] -/
def Try.x93 : XCode :=
 .seq (.region [⟨some 12, .mov (.const (.int .i64 0)), none⟩]) (
 .seq (.region [⟨some 14, .mov (.tmp 0), none⟩,
    ⟨some 15, .mov (.tmp 1), none⟩,
    ⟨some 16, .mov (.tmp 2), none⟩,
    ⟨some 17, .mov (.tmp 4), none⟩,
    ⟨some 18, .mov (.tmp 5), none⟩,
    ⟨some 19, .call (.func 94) [(.tmp 14), (.tmp 15), (.tmp 16), (.tmp 17), (.tmp 18)], none⟩,
    ⟨some 13, .mov (.tmp 19), none⟩,
    ⟨some 20, .ext (.tmp 13) 0, none⟩,
    ⟨some 21, .ext (.tmp 13) 1, none⟩,
    ⟨some 1, .mov (.tmp 20), none⟩,
    ⟨some 2, .mov (.tmp 21), none⟩]) (
 .seq (.region [⟨some 23, .mov (.tmp 0), none⟩,
    ⟨some 24, .mov (.tmp 2), none⟩,
    ⟨some 25, .mov (.tmp 3), none⟩,
    ⟨some 26, .mov (.tmp 4), none⟩,
    ⟨some 27, .mov (.tmp 5), none⟩,
    ⟨some 28, .call (.func 94) [(.tmp 23), (.tmp 24), (.tmp 25), (.tmp 26), (.tmp 27)], none⟩,
    ⟨some 22, .mov (.tmp 28), none⟩,
    ⟨some 29, .ext (.tmp 22) 0, none⟩,
    ⟨some 30, .ext (.tmp 22) 1, none⟩,
    ⟨some 2, .mov (.tmp 29), none⟩,
    ⟨some 3, .mov (.tmp 30), none⟩]) (
 .seq (.region [⟨some 32, .mov (.tmp 0), none⟩,
    ⟨some 33, .mov (.tmp 1), none⟩,
    ⟨some 34, .mov (.tmp 2), none⟩,
    ⟨some 35, .mov (.tmp 4), none⟩,
    ⟨some 36, .mov (.tmp 5), none⟩,
    ⟨some 37, .call (.func 94) [(.tmp 32), (.tmp 33), (.tmp 34), (.tmp 35), (.tmp 36)], none⟩,
    ⟨some 31, .mov (.tmp 37), none⟩,
    ⟨some 38, .ext (.tmp 31) 0, none⟩,
    ⟨some 39, .ext (.tmp 31) 1, none⟩,
    ⟨some 1, .mov (.tmp 38), none⟩,
    ⟨some 2, .mov (.tmp 39), none⟩]) (
 .seq (.region [⟨some 40, .mov (.tmp 2), none⟩,
    ⟨some 12, .mov (.tmp 40), none⟩]) (
 .ret)))))
theorem Try.fx93 : FnX Try.prog 93 41 #[.tmp 12] Try.x93 :=
  ⟨Try.f93, Try.func93, by kernel_rfl, by kernel_rfl, by kernel_rfl, by kernel_rfl⟩
/-- slices.order2CmpFunc[int] -/
def Try.x94 : XCode :=
 .seq (.region [⟨some 10, .mov (.const (.int .i64 0)), none⟩,
    ⟨some 11, .mov (.const (.int .i64 0)), none⟩]) (
 .seq (.seq (.draw (
    .q ⟨some 12, .mov (.tmp 4), none⟩ (
    .q ⟨some 13, .mov (.tmp 0), none⟩ (
    .q ⟨some 14, .mov (.tmp 2), none⟩ (
    .q ⟨some 15, .iadr (.tmp 13) (.tmp 14) 1, none⟩ (
    .q ⟨some 16, .load1 (.tmp 15), none⟩ (
    .q ⟨some 17, .mov (.tmp 0), none⟩ (
    .q ⟨some 18, .mov (.tmp 1), none⟩ (
    .q ⟨some 19, .iadr (.tmp 17) (.tmp 18) 1, none⟩ (
    .q ⟨some 20, .load1 (.tmp 19), none⟩ (
    .alt ⟨some 21, .call (.tmp 12) [(.tmp 16), (.tmp 20)], none⟩ false (
     .q ⟨some 22, .bin .lss (.tmp 21) (.const (.int .i64 0)), none⟩ (
     .done)) (.noalt)))))))))))) (
  .cond (.tmp 22) (
   .seq (.region [⟨some 23, .mov (.tmp 3), none⟩,
      ⟨some 24, .nilc (.tmp 23), none⟩,
      ⟨some 25, .load1 (.tmp 24), none⟩,
      ⟨some 26, .bin .add (.tmp 25) (.const (.int .i64 1)), none⟩,
      ⟨some 27, .nilc (.tmp 23), none⟩,
      ⟨none, .store 1 (.tmp 27) (.tmp 26), none⟩]) (
   .seq (.region [⟨some 28, .mov (.tmp 2), none⟩,
      ⟨some 29, .mov (.tmp 1), none⟩,
      ⟨some 10, .mov (.tmp 28), none⟩,
      ⟨some 11, .mov (.tmp 29), none⟩]) (
   .ret))) (
   .skip))) (
 .seq (.region [⟨some 30, .mov (.tmp 1), none⟩,
    ⟨some 31, .mov (.tmp 2), none⟩,
    ⟨some 10, .mov (.tmp 30), none⟩,
    ⟨some 11, .mov (.tmp 31), none⟩]) (
 .ret)))
theorem Try.fx94 : FnX Try.prog 94 32 #[.tmp 10, .tmp 11] Try.x94 :=
  ⟨Try.f94, Try.func94, by kernel_rfl, by kernel_rfl, by kernel_rfl, by kernel_rfl⟩
end Go.Proofs.Ytkdbajfaaifkaaa
