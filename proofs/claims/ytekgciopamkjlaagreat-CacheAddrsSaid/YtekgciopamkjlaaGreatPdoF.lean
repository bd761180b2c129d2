/- The codes of slices.Sort and what it calls; printed by a program. -/
import Derived.Test.YtekgciopamkjlaaGreatB4
namespace Go.Xs
/-- slices.insertionSortOrdered -/
def Qg(ld:Operand→Wv)(k:Nat)(cf:Nat):zA:=
 .seq (.region [⟨some 8,.mov (.tmp 1),none⟩,
  ⟨some 9,.bin .add (.tmp 8) (.const (.int .i64 1)),none⟩,
  ⟨some 6,.mov (.tmp 9),none⟩]) (
 .block 0 (
  .loop (
   .seq (.seq (.region [⟨some 10,.mov (.tmp 6),none⟩,
    ⟨some 11,.mov (.tmp 2),none⟩,
    ⟨some 12,.bin .lss (.tmp 10) (.tmp 11),none⟩]) (
    .cond (.tmp 12) (
     .skip) (
     .exit 0))) (
   .seq (.block 1 (
    .seq (.region [⟨some 15,.mov (.tmp 6),none⟩,
     ⟨some 7,.mov (.tmp 15),none⟩]) (
    .block 2 (
     .loop (
      .seq (.seq (.draw (
       .q ⟨some 16,.mov (.tmp 7),none⟩ (
       .q ⟨some 17,.mov (.tmp 1),none⟩ (
       .q ⟨some 18,.bin .gtr (.tmp 16) (.tmp 17),none⟩ (
       .q ⟨some 19,.mov (.tmp 18),none⟩ (
       .q ⟨some 20,.mov (.tmp 0),some (19,true)⟩ (
       .q ⟨some 21,.mov (.tmp 7),some (19,true)⟩ (
       .q ⟨some 22,.iadr (.tmp 20) (.tmp 21) k,some (19,true)⟩ (
       .q ⟨some 23,ld (.tmp 22),some (19,true)⟩ (
       .q ⟨some 24,.mov (.tmp 0),some (19,true)⟩ (
       .q ⟨some 25,.mov (.tmp 7),some (19,true)⟩ (
       .q ⟨some 26,.bin .sub (.tmp 25) (.const (.int .i64 1)),some (19,true)⟩ (
       .q ⟨some 27,.iadr (.tmp 24) (.tmp 26) k,some (19,true)⟩ (
       .q ⟨some 28,ld (.tmp 27),some (19,true)⟩ (
       .alt ⟨some 29,.call (.func cf) [(.tmp 23),(.tmp 28)],some (19,true)⟩ false (
        .q ⟨some 30,.pick (.tmp 19) (.tmp 29) (.const (.bool false)),none⟩ (
        .done)) (.noalt)))))))))))))))) (
       .cond (.tmp 30) (
        .skip) (
        .exit 2))) (
      .seq (.block 3 (
       .draw (
        .q ⟨some 33,.mov (.tmp 0),none⟩ (
        .q ⟨some 34,.mov (.tmp 7),none⟩ (
        .q ⟨some 35,.mov (.tmp 0),none⟩ (
        .q ⟨some 36,.mov (.tmp 7),none⟩ (
        .q ⟨some 37,.bin .sub (.tmp 36) (.const (.int .i64 1)),none⟩ (
        .q ⟨some 38,.mov (.tmp 0),none⟩ (
        .q ⟨some 39,.mov (.tmp 7),none⟩ (
        .q ⟨some 40,.bin .sub (.tmp 39) (.const (.int .i64 1)),none⟩ (
        .q ⟨some 41,.iadr (.tmp 38) (.tmp 40) k,none⟩ (
        .q ⟨some 42,ld (.tmp 41),none⟩ (
        .q ⟨some 43,.mov (.tmp 0),none⟩ (
        .q ⟨some 44,.mov (.tmp 7),none⟩ (
        .q ⟨some 45,.iadr (.tmp 43) (.tmp 44) k,none⟩ (
        .q ⟨some 46,ld (.tmp 45),none⟩ (
        .q ⟨some 47,.iadr (.tmp 33) (.tmp 34) k,none⟩ (
        .alt ⟨none,.store k (.tmp 47) (.tmp 42),none⟩ false (
         .q ⟨some 48,.iadr (.tmp 35) (.tmp 37) k,none⟩ (
         .alt ⟨none,.store k (.tmp 48) (.tmp 46),none⟩ false (
          .done) (.noalt))) (.noalt))))))))))))))))))) (
      .region [⟨some 31,.mov (.tmp 7),none⟩,
       ⟨some 32,.bin .sub (.tmp 31) (.const (.int .i64 1)),none⟩,
       ⟨some 7,.mov (.tmp 32),none⟩]))))))) (
   .region [⟨some 13,.mov (.tmp 6),none⟩,
    ⟨some 14,.bin .add (.tmp 13) (.const (.int .i64 1)),none⟩,
    ⟨some 6,.mov (.tmp 14),none⟩])))))
/-- slices.siftDownOrdered -/
def kU(ld:Operand→Wv)(k:Nat)(cf:Nat):zA:=
 .seq (.region [⟨some 10,.mov (.tmp 1),none⟩,
  ⟨some 8,.mov (.tmp 10),none⟩]) (
 .block 0 (
  .loop (
   .block 1 (
    .seq (.region [⟨some 11,.mov (.tmp 8),none⟩,
     ⟨some 12,.bin .mul (.const (.int .i64 2)) (.tmp 11),none⟩,
     ⟨some 13,.bin .add (.tmp 12) (.const (.int .i64 1)),none⟩,
     ⟨some 9,.mov (.tmp 13),none⟩]) (
    .seq (.seq (.region [⟨some 14,.mov (.tmp 9),none⟩,
     ⟨some 15,.mov (.tmp 2),none⟩,
     ⟨some 16,.bin .geq (.tmp 14) (.tmp 15),none⟩]) (
     .cond (.tmp 16) (
      .exit 0) (
      .skip))) (
    .seq (.seq (.draw (
     .q ⟨some 17,.mov (.tmp 9),none⟩ (
     .q ⟨some 18,.bin .add (.tmp 17) (.const (.int .i64 1)),none⟩ (
     .q ⟨some 19,.mov (.tmp 2),none⟩ (
     .q ⟨some 20,.bin .lss (.tmp 18) (.tmp 19),none⟩ (
     .q ⟨some 21,.mov (.tmp 20),none⟩ (
     .q ⟨some 22,.mov (.tmp 0),some (21,true)⟩ (
     .q ⟨some 23,.mov (.tmp 3),some (21,true)⟩ (
     .q ⟨some 24,.mov (.tmp 9),some (21,true)⟩ (
     .q ⟨some 25,.bin .add (.tmp 23) (.tmp 24),some (21,true)⟩ (
     .q ⟨some 26,.iadr (.tmp 22) (.tmp 25) k,some (21,true)⟩ (
     .q ⟨some 27,ld (.tmp 26),some (21,true)⟩ (
     .q ⟨some 28,.mov (.tmp 0),some (21,true)⟩ (
     .q ⟨some 29,.mov (.tmp 3),some (21,true)⟩ (
     .q ⟨some 30,.mov (.tmp 9),some (21,true)⟩ (
     .q ⟨some 31,.bin .add (.tmp 29) (.tmp 30),some (21,true)⟩ (
     .q ⟨some 32,.bin .add (.tmp 31) (.const (.int .i64 1)),some (21,true)⟩ (
     .q ⟨some 33,.iadr (.tmp 28) (.tmp 32) k,some (21,true)⟩ (
     .q ⟨some 34,ld (.tmp 33),some (21,true)⟩ (
     .alt ⟨some 35,.call (.func cf) [(.tmp 27),(.tmp 34)],some (21,true)⟩ false (
      .q ⟨some 36,.pick (.tmp 21) (.tmp 35) (.const (.bool false)),none⟩ (
      .done)) (.noalt))))))))))))))))))))) (
     .cond (.tmp 36) (
      .region [⟨some 37,.mov (.tmp 9),none⟩,
       ⟨some 38,.bin .add (.tmp 37) (.const (.int .i64 1)),none⟩,
       ⟨some 9,.mov (.tmp 38),none⟩]) (
      .skip))) (
    .seq (.seq (.draw (
     .q ⟨some 39,.mov (.tmp 0),none⟩ (
     .q ⟨some 40,.mov (.tmp 3),none⟩ (
     .q ⟨some 41,.mov (.tmp 8),none⟩ (
     .q ⟨some 42,.bin .add (.tmp 40) (.tmp 41),none⟩ (
     .q ⟨some 43,.iadr (.tmp 39) (.tmp 42) k,none⟩ (
     .q ⟨some 44,ld (.tmp 43),none⟩ (
     .q ⟨some 45,.mov (.tmp 0),none⟩ (
     .q ⟨some 46,.mov (.tmp 3),none⟩ (
     .q ⟨some 47,.mov (.tmp 9),none⟩ (
     .q ⟨some 48,.bin .add (.tmp 46) (.tmp 47),none⟩ (
     .q ⟨some 49,.iadr (.tmp 45) (.tmp 48) k,none⟩ (
     .q ⟨some 50,ld (.tmp 49),none⟩ (
     .alt ⟨some 51,.call (.func cf) [(.tmp 44),(.tmp 50)],none⟩ false (
      .q ⟨some 52,.un .not (.tmp 51),none⟩ (
      .done)) (.noalt))))))))))))))) (
     .cond (.tmp 52) (
      .ret) (
      .skip))) (
    .seq (.draw (
     .q ⟨some 53,.mov (.tmp 0),none⟩ (
     .q ⟨some 54,.mov (.tmp 3),none⟩ (
     .q ⟨some 55,.mov (.tmp 8),none⟩ (
     .q ⟨some 56,.bin .add (.tmp 54) (.tmp 55),none⟩ (
     .q ⟨some 57,.mov (.tmp 0),none⟩ (
     .q ⟨some 58,.mov (.tmp 3),none⟩ (
     .q ⟨some 59,.mov (.tmp 9),none⟩ (
     .q ⟨some 60,.bin .add (.tmp 58) (.tmp 59),none⟩ (
     .q ⟨some 61,.mov (.tmp 0),none⟩ (
     .q ⟨some 62,.mov (.tmp 3),none⟩ (
     .q ⟨some 63,.mov (.tmp 9),none⟩ (
     .q ⟨some 64,.bin .add (.tmp 62) (.tmp 63),none⟩ (
     .q ⟨some 65,.iadr (.tmp 61) (.tmp 64) k,none⟩ (
     .q ⟨some 66,ld (.tmp 65),none⟩ (
     .q ⟨some 67,.mov (.tmp 0),none⟩ (
     .q ⟨some 68,.mov (.tmp 3),none⟩ (
     .q ⟨some 69,.mov (.tmp 8),none⟩ (
     .q ⟨some 70,.bin .add (.tmp 68) (.tmp 69),none⟩ (
     .q ⟨some 71,.iadr (.tmp 67) (.tmp 70) k,none⟩ (
     .q ⟨some 72,ld (.tmp 71),none⟩ (
     .q ⟨some 73,.iadr (.tmp 53) (.tmp 56) k,none⟩ (
     .alt ⟨none,.store k (.tmp 73) (.tmp 66),none⟩ false (
      .q ⟨some 74,.iadr (.tmp 57) (.tmp 60) k,none⟩ (
      .alt ⟨none,.store k (.tmp 74) (.tmp 72),none⟩ false (
       .done) (.noalt))) (.noalt)))))))))))))))))))))))) (
    .region [⟨some 75,.mov (.tmp 9),none⟩,
     ⟨some 8,.mov (.tmp 75),none⟩])))))))))
/-- slices.heapSortOrdered -/
def JC(ld:Operand→Wv)(k:Nat)(fSift:Nat):zA:=
 .seq (.region [⟨some 11,.mov (.tmp 1),none⟩,
  ⟨some 6,.mov (.tmp 11),none⟩]) (
 .seq (.region [⟨some 7,.mov (.const (.int .i64 0)),none⟩]) (
 .seq (.region [⟨some 12,.mov (.tmp 2),none⟩,
  ⟨some 13,.mov (.tmp 1),none⟩,
  ⟨some 14,.bin .sub (.tmp 12) (.tmp 13),none⟩,
  ⟨some 8,.mov (.tmp 14),none⟩]) (
 .seq (.seq (.region [⟨some 15,.mov (.tmp 8),none⟩,
  ⟨some 16,.bin .sub (.tmp 15) (.const (.int .i64 1)),none⟩,
  ⟨some 17,.bin .quo (.tmp 16) (.const (.int .i64 2)),none⟩,
  ⟨some 9,.mov (.tmp 17),none⟩]) (
  .block 0 (
   .loop (
    .seq (.seq (.region [⟨some 18,.mov (.tmp 9),none⟩,
     ⟨some 19,.bin .geq (.tmp 18) (.const (.int .i64 0)),none⟩]) (
     .cond (.tmp 19) (
      .skip) (
      .exit 0))) (
    .seq (.block 1 (
     .region [⟨some 22,.mov (.tmp 0),none⟩,
      ⟨some 23,.mov (.tmp 9),none⟩,
      ⟨some 24,.mov (.tmp 8),none⟩,
      ⟨some 25,.mov (.tmp 6),none⟩,
      ⟨some 26,.call (.func fSift) [(.tmp 22),(.tmp 23),(.tmp 24),(.tmp 25)],none⟩])) (
    .region [⟨some 20,.mov (.tmp 9),none⟩,
     ⟨some 21,.bin .sub (.tmp 20) (.const (.int .i64 1)),none⟩,
     ⟨some 9,.mov (.tmp 21),none⟩])))))) (
 .seq (.region [⟨some 27,.mov (.tmp 8),none⟩,
  ⟨some 28,.bin .sub (.tmp 27) (.const (.int .i64 1)),none⟩,
  ⟨some 10,.mov (.tmp 28),none⟩]) (
 .block 2 (
  .loop (
   .seq (.seq (.region [⟨some 29,.mov (.tmp 10),none⟩,
    ⟨some 30,.bin .geq (.tmp 29) (.const (.int .i64 0)),none⟩]) (
    .cond (.tmp 30) (
     .skip) (
     .exit 2))) (
   .seq (.block 3 (
    .seq (.draw (
     .q ⟨some 33,.mov (.tmp 0),none⟩ (
     .q ⟨some 34,.mov (.tmp 6),none⟩ (
     .q ⟨some 35,.mov (.tmp 0),none⟩ (
     .q ⟨some 36,.mov (.tmp 6),none⟩ (
     .q ⟨some 37,.mov (.tmp 10),none⟩ (
     .q ⟨some 38,.bin .add (.tmp 36) (.tmp 37),none⟩ (
     .q ⟨some 39,.mov (.tmp 0),none⟩ (
     .q ⟨some 40,.mov (.tmp 6),none⟩ (
     .q ⟨some 41,.mov (.tmp 10),none⟩ (
     .q ⟨some 42,.bin .add (.tmp 40) (.tmp 41),none⟩ (
     .q ⟨some 43,.iadr (.tmp 39) (.tmp 42) k,none⟩ (
     .q ⟨some 44,ld (.tmp 43),none⟩ (
     .q ⟨some 45,.mov (.tmp 0),none⟩ (
     .q ⟨some 46,.mov (.tmp 6),none⟩ (
     .q ⟨some 47,.iadr (.tmp 45) (.tmp 46) k,none⟩ (
     .q ⟨some 48,ld (.tmp 47),none⟩ (
     .q ⟨some 49,.iadr (.tmp 33) (.tmp 34) k,none⟩ (
     .alt ⟨none,.store k (.tmp 49) (.tmp 44),none⟩ false (
      .q ⟨some 50,.iadr (.tmp 35) (.tmp 38) k,none⟩ (
      .alt ⟨none,.store k (.tmp 50) (.tmp 48),none⟩ false (
       .done) (.noalt))) (.noalt)))))))))))))))))))) (
    .region [⟨some 51,.mov (.tmp 0),none⟩,
     ⟨some 52,.mov (.tmp 7),none⟩,
     ⟨some 53,.mov (.tmp 10),none⟩,
     ⟨some 54,.mov (.tmp 6),none⟩,
     ⟨some 55,.call (.func fSift) [(.tmp 51),(.tmp 52),(.tmp 53),(.tmp 54)],none⟩]))) (
   .region [⟨some 31,.mov (.tmp 10),none⟩,
    ⟨some 32,.bin .sub (.tmp 31) (.const (.int .i64 1)),none⟩,
    ⟨some 10,.mov (.tmp 32),none⟩])))))))))
/-- slices.breakPatternsOrdered -/
def dU(ld:Operand→Wv)(k:Nat)(fNpt fNxt t0:Nat):zA:=
 .seq (.region [⟨some 11,.mov (.tmp 2),none⟩,
  ⟨some 12,.mov (.tmp 1),none⟩,
  ⟨some 13,.bin .sub (.tmp 11) (.tmp 12),none⟩,
  ⟨some 6,.mov (.tmp 13),none⟩]) (
 .seq (.region [⟨some 14,.mov (.tmp 6),none⟩,
  ⟨some 15,.bin .geq (.tmp 14) (.const (.int .i64 8)),none⟩]) (
 .cond (.tmp 15) (
  .seq (.region [⟨some 16,.mov (.tmp 6),none⟩,
   ⟨some 17,.conv .u64 (.tmp 16),none⟩,
   ⟨some 7,.alloc t0 [(.int .u64 0)],none⟩,
   ⟨none,.store 1 (.tmp 7) (.tmp 17),none⟩]) (
  .seq (.region [⟨some 18,.mov (.tmp 6),none⟩,
   ⟨some 19,.call (.func fNpt) [(.tmp 18)],none⟩,
   ⟨some 8,.mov (.tmp 19),none⟩]) (
  .seq (.region [⟨some 20,.mov (.tmp 1),none⟩,
   ⟨some 21,.mov (.tmp 6),none⟩,
   ⟨some 22,.bin .quo (.tmp 21) (.const (.int .i64 4)),none⟩,
   ⟨some 23,.bin .mul (.tmp 22) (.const (.int .i64 2)),none⟩,
   ⟨some 24,.bin .add (.tmp 20) (.tmp 23),none⟩,
   ⟨some 25,.bin .sub (.tmp 24) (.const (.int .i64 1)),none⟩,
   ⟨some 9,.mov (.tmp 25),none⟩]) (
  .block 0 (
   .loop (
    .seq (.seq (.region [⟨some 26,.mov (.tmp 9),none⟩,
     ⟨some 27,.mov (.tmp 1),none⟩,
     ⟨some 28,.mov (.tmp 6),none⟩,
     ⟨some 29,.bin .quo (.tmp 28) (.const (.int .i64 4)),none⟩,
     ⟨some 30,.bin .mul (.tmp 29) (.const (.int .i64 2)),none⟩,
     ⟨some 31,.bin .add (.tmp 27) (.tmp 30),none⟩,
     ⟨some 32,.bin .add (.tmp 31) (.const (.int .i64 1)),none⟩,
     ⟨some 33,.bin .leq (.tmp 26) (.tmp 32),none⟩]) (
     .cond (.tmp 33) (
      .skip) (
      .exit 0))) (
    .seq (.block 1 (
     .seq (.region [⟨some 36,.call (.func fNxt) [(.tmp 7)],none⟩,
      ⟨some 37,.mov (.tmp 8),none⟩,
      ⟨some 38,.bin .sub (.tmp 37) (.const (.int .u64 1)),none⟩,
      ⟨some 39,.bin .and (.tmp 36) (.tmp 38),none⟩,
      ⟨some 40,.conv .i64 (.tmp 39),none⟩,
      ⟨some 10,.mov (.tmp 40),none⟩]) (
     .seq (.seq (.region [⟨some 41,.mov (.tmp 10),none⟩,
      ⟨some 42,.mov (.tmp 6),none⟩,
      ⟨some 43,.bin .geq (.tmp 41) (.tmp 42),none⟩]) (
      .cond (.tmp 43) (
       .region [⟨some 44,.mov (.tmp 10),none⟩,
        ⟨some 45,.mov (.tmp 6),none⟩,
        ⟨some 46,.bin .sub (.tmp 44) (.tmp 45),none⟩,
        ⟨some 10,.mov (.tmp 46),none⟩]) (
       .skip))) (
     .draw (
      .q ⟨some 47,.mov (.tmp 0),none⟩ (
      .q ⟨some 48,.mov (.tmp 9),none⟩ (
      .q ⟨some 49,.mov (.tmp 0),none⟩ (
      .q ⟨some 50,.mov (.tmp 1),none⟩ (
      .q ⟨some 51,.mov (.tmp 10),none⟩ (
      .q ⟨some 52,.bin .add (.tmp 50) (.tmp 51),none⟩ (
      .q ⟨some 53,.mov (.tmp 0),none⟩ (
      .q ⟨some 54,.mov (.tmp 1),none⟩ (
      .q ⟨some 55,.mov (.tmp 10),none⟩ (
      .q ⟨some 56,.bin .add (.tmp 54) (.tmp 55),none⟩ (
      .q ⟨some 57,.iadr (.tmp 53) (.tmp 56) k,none⟩ (
      .q ⟨some 58,ld (.tmp 57),none⟩ (
      .q ⟨some 59,.mov (.tmp 0),none⟩ (
      .q ⟨some 60,.mov (.tmp 9),none⟩ (
      .q ⟨some 61,.iadr (.tmp 59) (.tmp 60) k,none⟩ (
      .q ⟨some 62,ld (.tmp 61),none⟩ (
      .q ⟨some 63,.iadr (.tmp 47) (.tmp 48) k,none⟩ (
      .alt ⟨none,.store k (.tmp 63) (.tmp 58),none⟩ false (
       .q ⟨some 64,.iadr (.tmp 49) (.tmp 52) k,none⟩ (
       .alt ⟨none,.store k (.tmp 64) (.tmp 62),none⟩ false (
        .done) (.noalt))) (.noalt))))))))))))))))))))))) (
    .region [⟨some 34,.mov (.tmp 9),none⟩,
     ⟨some 35,.bin .add (.tmp 34) (.const (.int .i64 1)),none⟩,
     ⟨some 9,.mov (.tmp 35),none⟩])))))))) (
  .skip)))
/-- slices.order2Ordered -/
def xO(ld:Operand→Wv)(k:Nat)(cf:Nat):zA:=
 .seq (.region [⟨some 8,.mov (.const (.int .i64 0)),none⟩,
  ⟨some 9,.mov (.const (.int .i64 0)),none⟩]) (
 .seq (.seq (.draw (
  .q ⟨some 10,.mov (.tmp 0),none⟩ (
  .q ⟨some 11,.mov (.tmp 2),none⟩ (
  .q ⟨some 12,.iadr (.tmp 10) (.tmp 11) k,none⟩ (
  .q ⟨some 13,ld (.tmp 12),none⟩ (
  .q ⟨some 14,.mov (.tmp 0),none⟩ (
  .q ⟨some 15,.mov (.tmp 1),none⟩ (
  .q ⟨some 16,.iadr (.tmp 14) (.tmp 15) k,none⟩ (
  .q ⟨some 17,ld (.tmp 16),none⟩ (
  .alt ⟨some 18,.call (.func cf) [(.tmp 13),(.tmp 17)],none⟩ false (
   .done) (.noalt))))))))))) (
  .cond (.tmp 18) (
   .seq (.region [⟨some 19,.mov (.tmp 3),none⟩,
    ⟨some 20,.nilc (.tmp 19),none⟩,
    ⟨some 21,.load1 (.tmp 20),none⟩,
    ⟨some 22,.bin .add (.tmp 21) (.const (.int .i64 1)),none⟩,
    ⟨some 23,.nilc (.tmp 19),none⟩,
    ⟨none,.store 1 (.tmp 23) (.tmp 22),none⟩]) (
   .seq (.region [⟨some 24,.mov (.tmp 2),none⟩,
    ⟨some 25,.mov (.tmp 1),none⟩,
    ⟨some 8,.mov (.tmp 24),none⟩,
    ⟨some 9,.mov (.tmp 25),none⟩]) (
   .ret))) (
   .skip))) (
 .seq (.region [⟨some 26,.mov (.tmp 1),none⟩,
  ⟨some 27,.mov (.tmp 2),none⟩,
  ⟨some 8,.mov (.tmp 26),none⟩,
  ⟨some 9,.mov (.tmp 27),none⟩]) (
 .ret)))
/-- slices.medianOrdered -/
def jm(fOrd2:Nat):zA:=
 .seq (.region [⟨some 10,.mov (.const (.int .i64 0)),none⟩]) (
 .seq (.region [⟨some 12,.mov (.tmp 0),none⟩,
  ⟨some 13,.mov (.tmp 1),none⟩,
  ⟨some 14,.mov (.tmp 2),none⟩,
  ⟨some 15,.mov (.tmp 4),none⟩,
  ⟨some 16,.call (.func fOrd2) [(.tmp 12),(.tmp 13),(.tmp 14),(.tmp 15)],none⟩,
  ⟨some 11,.mov (.tmp 16),none⟩,
  ⟨some 17,.ext (.tmp 11) 0,none⟩,
  ⟨some 18,.ext (.tmp 11) 1,none⟩,
  ⟨some 1,.mov (.tmp 17),none⟩,
  ⟨some 2,.mov (.tmp 18),none⟩]) (
 .seq (.region [⟨some 20,.mov (.tmp 0),none⟩,
  ⟨some 21,.mov (.tmp 2),none⟩,
  ⟨some 22,.mov (.tmp 3),none⟩,
  ⟨some 23,.mov (.tmp 4),none⟩,
  ⟨some 24,.call (.func fOrd2) [(.tmp 20),(.tmp 21),(.tmp 22),(.tmp 23)],none⟩,
  ⟨some 19,.mov (.tmp 24),none⟩,
  ⟨some 25,.ext (.tmp 19) 0,none⟩,
  ⟨some 26,.ext (.tmp 19) 1,none⟩,
  ⟨some 2,.mov (.tmp 25),none⟩,
  ⟨some 3,.mov (.tmp 26),none⟩]) (
 .seq (.region [⟨some 28,.mov (.tmp 0),none⟩,
  ⟨some 29,.mov (.tmp 1),none⟩,
  ⟨some 30,.mov (.tmp 2),none⟩,
  ⟨some 31,.mov (.tmp 4),none⟩,
  ⟨some 32,.call (.func fOrd2) [(.tmp 28),(.tmp 29),(.tmp 30),(.tmp 31)],none⟩,
  ⟨some 27,.mov (.tmp 32),none⟩,
  ⟨some 33,.ext (.tmp 27) 0,none⟩,
  ⟨some 34,.ext (.tmp 27) 1,none⟩,
  ⟨some 1,.mov (.tmp 33),none⟩,
  ⟨some 2,.mov (.tmp 34),none⟩]) (
 .seq (.region [⟨some 35,.mov (.tmp 2),none⟩,
  ⟨some 10,.mov (.tmp 35),none⟩]) (
 .ret)))))
/-- slices.medianAdjacentOrdered -/
def Qf(fMed:Nat):zA:=
 .seq (.region [⟨some 6,.mov (.const (.int .i64 0)),none⟩]) (
 .seq (.region [⟨some 7,.mov (.tmp 0),none⟩,
  ⟨some 8,.mov (.tmp 1),none⟩,
  ⟨some 9,.bin .sub (.tmp 8) (.const (.int .i64 1)),none⟩,
  ⟨some 10,.mov (.tmp 1),none⟩,
  ⟨some 11,.mov (.tmp 1),none⟩,
  ⟨some 12,.bin .add (.tmp 11) (.const (.int .i64 1)),none⟩,
  ⟨some 13,.mov (.tmp 2),none⟩,
  ⟨some 14,.call (.func fMed) [(.tmp 7),(.tmp 9),(.tmp 10),(.tmp 12),(.tmp 13)],none⟩,
  ⟨some 6,.mov (.tmp 14),none⟩]) (
 .ret))
/-- slices.choosePivotOrdered -/
def dS(fMad fMed t0:Nat):zA:=
 .seq (.region [⟨some 6,.mov (.const (.int .i64 0)),none⟩,
  ⟨some 7,.mov (.const (.int .i64 0)),none⟩]) (
 .seq (.region [⟨some 13,.mov (.tmp 2),none⟩,
  ⟨some 14,.mov (.tmp 1),none⟩,
  ⟨some 15,.bin .sub (.tmp 13) (.tmp 14),none⟩,
  ⟨some 8,.mov (.tmp 15),none⟩]) (
 .seq (.region [⟨some 9,.alloc t0 [(.int .i64 0)],none⟩]) (
 .seq (.region [⟨some 16,.mov (.tmp 1),none⟩,
  ⟨some 17,.mov (.tmp 8),none⟩,
  ⟨some 18,.bin .quo (.tmp 17) (.const (.int .i64 4)),none⟩,
  ⟨some 19,.bin .mul (.tmp 18) (.const (.int .i64 1)),none⟩,
  ⟨some 20,.bin .add (.tmp 16) (.tmp 19),none⟩,
  ⟨some 10,.mov (.tmp 20),none⟩]) (
 .seq (.region [⟨some 21,.mov (.tmp 1),none⟩,
  ⟨some 22,.mov (.tmp 8),none⟩,
  ⟨some 23,.bin .quo (.tmp 22) (.const (.int .i64 4)),none⟩,
  ⟨some 24,.bin .mul (.tmp 23) (.const (.int .i64 2)),none⟩,
  ⟨some 25,.bin .add (.tmp 21) (.tmp 24),none⟩,
  ⟨some 11,.mov (.tmp 25),none⟩]) (
 .seq (.region [⟨some 26,.mov (.tmp 1),none⟩,
  ⟨some 27,.mov (.tmp 8),none⟩,
  ⟨some 28,.bin .quo (.tmp 27) (.const (.int .i64 4)),none⟩,
  ⟨some 29,.bin .mul (.tmp 28) (.const (.int .i64 3)),none⟩,
  ⟨some 30,.bin .add (.tmp 26) (.tmp 29),none⟩,
  ⟨some 12,.mov (.tmp 30),none⟩]) (
 .seq (.seq (.region [⟨some 31,.mov (.tmp 8),none⟩,
  ⟨some 32,.bin .geq (.tmp 31) (.const (.int .i64 8)),none⟩]) (
  .cond (.tmp 32) (
   .seq (.seq (.region [⟨some 33,.mov (.tmp 8),none⟩,
    ⟨some 34,.bin .geq (.tmp 33) (.const (.int .i64 50)),none⟩]) (
    .cond (.tmp 34) (
     .seq (.region [⟨some 35,.mov (.tmp 0),none⟩,
      ⟨some 36,.mov (.tmp 10),none⟩,
      ⟨some 37,.call (.func fMad) [(.tmp 35),(.tmp 36),(.tmp 9)],none⟩,
      ⟨some 10,.mov (.tmp 37),none⟩]) (
     .seq (.region [⟨some 38,.mov (.tmp 0),none⟩,
      ⟨some 39,.mov (.tmp 11),none⟩,
      ⟨some 40,.call (.func fMad) [(.tmp 38),(.tmp 39),(.tmp 9)],none⟩,
      ⟨some 11,.mov (.tmp 40),none⟩]) (
     .region [⟨some 41,.mov (.tmp 0),none⟩,
      ⟨some 42,.mov (.tmp 12),none⟩,
      ⟨some 43,.call (.func fMad) [(.tmp 41),(.tmp 42),(.tmp 9)],none⟩,
      ⟨some 12,.mov (.tmp 43),none⟩]))) (
     .skip))) (
   .region [⟨some 44,.mov (.tmp 0),none⟩,
    ⟨some 45,.mov (.tmp 10),none⟩,
    ⟨some 46,.mov (.tmp 11),none⟩,
    ⟨some 47,.mov (.tmp 12),none⟩,
    ⟨some 48,.call (.func fMed) [(.tmp 44),(.tmp 45),(.tmp 46),(.tmp 47),(.tmp 9)],none⟩,
    ⟨some 11,.mov (.tmp 48),none⟩])) (
   .skip))) (
 .seq (.region [⟨some 49,.load1 (.tmp 9),none⟩]) (
 .block 0 (
  .seq (.region [⟨some 52,.bin .eql (.tmp 49) (.const (.int .i64 0)),none⟩,
   ⟨some 51,.mov (.tmp 52),none⟩]) (
  .cond (.tmp 51) (
   .seq (.region [⟨some 53,.mov (.tmp 11),none⟩,
    ⟨some 6,.mov (.tmp 53),none⟩,
    ⟨some 7,.mov (.const (.int .i64 1)),none⟩]) (
   .ret)) (
   .seq (.region [⟨some 55,.bin .eql (.tmp 49) (.const (.int .i64 12)),none⟩,
    ⟨some 54,.mov (.tmp 55),none⟩]) (
   .cond (.tmp 54) (
    .seq (.region [⟨some 56,.mov (.tmp 11),none⟩,
     ⟨some 6,.mov (.tmp 56),none⟩,
     ⟨some 7,.mov (.const (.int .i64 2)),none⟩]) (
    .ret)) (
    .seq (.region [⟨some 50,.mov (.tmp 11),none⟩,
     ⟨some 6,.mov (.tmp 50),none⟩,
     ⟨some 7,.mov (.const (.int .i64 0)),none⟩]) (
    .ret))))))))))))))
/-- slices.reverseRangeOrdered -/
def dN(ld:Operand→Wv)(k:Nat):zA:=
 .seq (.region [⟨some 8,.mov (.tmp 1),none⟩,
  ⟨some 6,.mov (.tmp 8),none⟩]) (
 .seq (.region [⟨some 9,.mov (.tmp 2),none⟩,
  ⟨some 10,.bin .sub (.tmp 9) (.const (.int .i64 1)),none⟩,
  ⟨some 7,.mov (.tmp 10),none⟩]) (
 .block 0 (
  .loop (
   .seq (.seq (.region [⟨some 11,.mov (.tmp 6),none⟩,
    ⟨some 12,.mov (.tmp 7),none⟩,
    ⟨some 13,.bin .lss (.tmp 11) (.tmp 12),none⟩]) (
    .cond (.tmp 13) (
     .skip) (
     .exit 0))) (
   .block 1 (
    .seq (.draw (
     .q ⟨some 14,.mov (.tmp 0),none⟩ (
     .q ⟨some 15,.mov (.tmp 6),none⟩ (
     .q ⟨some 16,.mov (.tmp 0),none⟩ (
     .q ⟨some 17,.mov (.tmp 7),none⟩ (
     .q ⟨some 18,.mov (.tmp 0),none⟩ (
     .q ⟨some 19,.mov (.tmp 7),none⟩ (
     .q ⟨some 20,.iadr (.tmp 18) (.tmp 19) k,none⟩ (
     .q ⟨some 21,ld (.tmp 20),none⟩ (
     .q ⟨some 22,.mov (.tmp 0),none⟩ (
     .q ⟨some 23,.mov (.tmp 6),none⟩ (
     .q ⟨some 24,.iadr (.tmp 22) (.tmp 23) k,none⟩ (
     .q ⟨some 25,ld (.tmp 24),none⟩ (
     .q ⟨some 26,.iadr (.tmp 14) (.tmp 15) k,none⟩ (
     .alt ⟨none,.store k (.tmp 26) (.tmp 21),none⟩ false (
      .q ⟨some 27,.iadr (.tmp 16) (.tmp 17) k,none⟩ (
      .alt ⟨none,.store k (.tmp 27) (.tmp 25),none⟩ false (
       .done) (.noalt))) (.noalt)))))))))))))))) (
    .seq (.region [⟨some 28,.mov (.tmp 6),none⟩,
     ⟨some 29,.bin .add (.tmp 28) (.const (.int .i64 1)),none⟩,
     ⟨some 6,.mov (.tmp 29),none⟩]) (
    .region [⟨some 30,.mov (.tmp 7),none⟩,
     ⟨some 31,.bin .sub (.tmp 30) (.const (.int .i64 1)),none⟩,
     ⟨some 7,.mov (.tmp 31),none⟩]))))))))
/-- slices.partialInsertionSortOrdered -/
def dR(ld:Operand→Wv)(k:Nat)(cf:Nat):zA:=
 .seq (.region [⟨some 6,.mov (.const (.bool false)),none⟩]) (
 .seq (.region [⟨some 11,.mov (.tmp 1),none⟩,
  ⟨some 12,.bin .add (.tmp 11) (.const (.int .i64 1)),none⟩,
  ⟨some 7,.mov (.tmp 12),none⟩]) (
 .seq (.seq (.region [⟨some 8,.mov (.const (.int .i64 0)),none⟩]) (
  .block 0 (
   .loop (
    .seq (.seq (.region [⟨some 13,.mov (.tmp 8),none⟩,
     ⟨some 14,.bin .lss (.tmp 13) (.const (.int .i64 5)),none⟩]) (
     .cond (.tmp 14) (
      .skip) (
      .exit 0))) (
    .seq (.block 1 (
     .seq (.block 2 (
      .loop (
       .seq (.seq (.draw (
        .q ⟨some 17,.mov (.tmp 7),none⟩ (
        .q ⟨some 18,.mov (.tmp 2),none⟩ (
        .q ⟨some 19,.bin .lss (.tmp 17) (.tmp 18),none⟩ (
        .q ⟨some 20,.mov (.tmp 19),none⟩ (
        .q ⟨some 21,.mov (.tmp 0),some (20,true)⟩ (
        .q ⟨some 22,.mov (.tmp 7),some (20,true)⟩ (
        .q ⟨some 23,.iadr (.tmp 21) (.tmp 22) k,some (20,true)⟩ (
        .q ⟨some 24,ld (.tmp 23),some (20,true)⟩ (
        .q ⟨some 25,.mov (.tmp 0),some (20,true)⟩ (
        .q ⟨some 26,.mov (.tmp 7),some (20,true)⟩ (
        .q ⟨some 27,.bin .sub (.tmp 26) (.const (.int .i64 1)),some (20,true)⟩ (
        .q ⟨some 28,.iadr (.tmp 25) (.tmp 27) k,some (20,true)⟩ (
        .q ⟨some 29,ld (.tmp 28),some (20,true)⟩ (
        .alt ⟨some 30,.call (.func cf) [(.tmp 24),(.tmp 29)],some (20,true)⟩ false (
         .q ⟨some 31,.un .not (.tmp 30),some (20,true)⟩ (
         .q ⟨some 32,.pick (.tmp 20) (.tmp 31) (.const (.bool false)),none⟩ (
         .done))) (.noalt)))))))))))))))) (
        .cond (.tmp 32) (
         .skip) (
         .exit 2))) (
       .block 3 (
        .region [⟨some 33,.mov (.tmp 7),none⟩,
         ⟨some 34,.bin .add (.tmp 33) (.const (.int .i64 1)),none⟩,
         ⟨some 7,.mov (.tmp 34),none⟩]))))) (
     .seq (.seq (.region [⟨some 35,.mov (.tmp 7),none⟩,
      ⟨some 36,.mov (.tmp 2),none⟩,
      ⟨some 37,.bin .eql (.tmp 35) (.tmp 36),none⟩]) (
      .cond (.tmp 37) (
       .seq (.region [⟨some 6,.mov (.const (.bool true)),none⟩]) (
       .ret)) (
       .skip))) (
     .seq (.seq (.region [⟨some 38,.mov (.tmp 2),none⟩,
      ⟨some 39,.mov (.tmp 1),none⟩,
      ⟨some 40,.bin .sub (.tmp 38) (.tmp 39),none⟩,
      ⟨some 41,.bin .lss (.tmp 40) (.const (.int .i64 50)),none⟩]) (
      .cond (.tmp 41) (
       .seq (.region [⟨some 6,.mov (.const (.bool false)),none⟩]) (
       .ret)) (
       .skip))) (
     .seq (.draw (
      .q ⟨some 42,.mov (.tmp 0),none⟩ (
      .q ⟨some 43,.mov (.tmp 7),none⟩ (
      .q ⟨some 44,.mov (.tmp 0),none⟩ (
      .q ⟨some 45,.mov (.tmp 7),none⟩ (
      .q ⟨some 46,.bin .sub (.tmp 45) (.const (.int .i64 1)),none⟩ (
      .q ⟨some 47,.mov (.tmp 0),none⟩ (
      .q ⟨some 48,.mov (.tmp 7),none⟩ (
      .q ⟨some 49,.bin .sub (.tmp 48) (.const (.int .i64 1)),none⟩ (
      .q ⟨some 50,.iadr (.tmp 47) (.tmp 49) k,none⟩ (
      .q ⟨some 51,ld (.tmp 50),none⟩ (
      .q ⟨some 52,.mov (.tmp 0),none⟩ (
      .q ⟨some 53,.mov (.tmp 7),none⟩ (
      .q ⟨some 54,.iadr (.tmp 52) (.tmp 53) k,none⟩ (
      .q ⟨some 55,ld (.tmp 54),none⟩ (
      .q ⟨some 56,.iadr (.tmp 42) (.tmp 43) k,none⟩ (
      .alt ⟨none,.store k (.tmp 56) (.tmp 51),none⟩ false (
       .q ⟨some 57,.iadr (.tmp 44) (.tmp 46) k,none⟩ (
       .alt ⟨none,.store k (.tmp 57) (.tmp 55),none⟩ false (
        .done) (.noalt))) (.noalt)))))))))))))))))) (
     .seq (.seq (.region [⟨some 58,.mov (.tmp 7),none⟩,
      ⟨some 59,.mov (.tmp 1),none⟩,
      ⟨some 60,.bin .sub (.tmp 58) (.tmp 59),none⟩,
      ⟨some 61,.bin .geq (.tmp 60) (.const (.int .i64 2)),none⟩]) (
      .cond (.tmp 61) (
       .seq (.region [⟨some 62,.mov (.tmp 7),none⟩,
        ⟨some 63,.bin .sub (.tmp 62) (.const (.int .i64 1)),none⟩,
        ⟨some 9,.mov (.tmp 63),none⟩]) (
       .block 4 (
        .loop (
         .seq (.seq (.region [⟨some 64,.mov (.tmp 9),none⟩,
          ⟨some 65,.bin .geq (.tmp 64) (.const (.int .i64 1)),none⟩]) (
          .cond (.tmp 65) (
           .skip) (
           .exit 4))) (
         .seq (.block 5 (
          .seq (.seq (.draw (
           .q ⟨some 68,.mov (.tmp 0),none⟩ (
           .q ⟨some 69,.mov (.tmp 9),none⟩ (
           .q ⟨some 70,.iadr (.tmp 68) (.tmp 69) k,none⟩ (
           .q ⟨some 71,ld (.tmp 70),none⟩ (
           .q ⟨some 72,.mov (.tmp 0),none⟩ (
           .q ⟨some 73,.mov (.tmp 9),none⟩ (
           .q ⟨some 74,.bin .sub (.tmp 73) (.const (.int .i64 1)),none⟩ (
           .q ⟨some 75,.iadr (.tmp 72) (.tmp 74) k,none⟩ (
           .q ⟨some 76,ld (.tmp 75),none⟩ (
           .alt ⟨some 77,.call (.func cf) [(.tmp 71),(.tmp 76)],none⟩ false (
            .q ⟨some 78,.un .not (.tmp 77),none⟩ (
            .done)) (.noalt)))))))))))) (
           .cond (.tmp 78) (
            .exit 4) (
            .skip))) (
          .draw (
           .q ⟨some 79,.mov (.tmp 0),none⟩ (
           .q ⟨some 80,.mov (.tmp 9),none⟩ (
           .q ⟨some 81,.mov (.tmp 0),none⟩ (
           .q ⟨some 82,.mov (.tmp 9),none⟩ (
           .q ⟨some 83,.bin .sub (.tmp 82) (.const (.int .i64 1)),none⟩ (
           .q ⟨some 84,.mov (.tmp 0),none⟩ (
           .q ⟨some 85,.mov (.tmp 9),none⟩ (
           .q ⟨some 86,.bin .sub (.tmp 85) (.const (.int .i64 1)),none⟩ (
           .q ⟨some 87,.iadr (.tmp 84) (.tmp 86) k,none⟩ (
           .q ⟨some 88,ld (.tmp 87),none⟩ (
           .q ⟨some 89,.mov (.tmp 0),none⟩ (
           .q ⟨some 90,.mov (.tmp 9),none⟩ (
           .q ⟨some 91,.iadr (.tmp 89) (.tmp 90) k,none⟩ (
           .q ⟨some 92,ld (.tmp 91),none⟩ (
           .q ⟨some 93,.iadr (.tmp 79) (.tmp 80) k,none⟩ (
           .alt ⟨none,.store k (.tmp 93) (.tmp 88),none⟩ false (
            .q ⟨some 94,.iadr (.tmp 81) (.tmp 83) k,none⟩ (
            .alt ⟨none,.store k (.tmp 94) (.tmp 92),none⟩ false (
             .done) (.noalt))) (.noalt)))))))))))))))))))) (
         .region [⟨some 66,.mov (.tmp 9),none⟩,
          ⟨some 67,.bin .sub (.tmp 66) (.const (.int .i64 1)),none⟩,
          ⟨some 9,.mov (.tmp 67),none⟩])))))) (
       .skip))) (
     .seq (.region [⟨some 95,.mov (.tmp 2),none⟩,
      ⟨some 96,.mov (.tmp 7),none⟩,
      ⟨some 97,.bin .sub (.tmp 95) (.tmp 96),none⟩,
      ⟨some 98,.bin .geq (.tmp 97) (.const (.int .i64 2)),none⟩]) (
     .cond (.tmp 98) (
      .seq (.region [⟨some 99,.mov (.tmp 7),none⟩,
       ⟨some 100,.bin .add (.tmp 99) (.const (.int .i64 1)),none⟩,
       ⟨some 10,.mov (.tmp 100),none⟩]) (
      .block 6 (
       .loop (
        .seq (.seq (.region [⟨some 101,.mov (.tmp 10),none⟩,
         ⟨some 102,.mov (.tmp 2),none⟩,
         ⟨some 103,.bin .lss (.tmp 101) (.tmp 102),none⟩]) (
         .cond (.tmp 103) (
          .skip) (
          .exit 6))) (
        .seq (.block 7 (
         .seq (.seq (.draw (
          .q ⟨some 106,.mov (.tmp 0),none⟩ (
          .q ⟨some 107,.mov (.tmp 10),none⟩ (
          .q ⟨some 108,.iadr (.tmp 106) (.tmp 107) k,none⟩ (
          .q ⟨some 109,ld (.tmp 108),none⟩ (
          .q ⟨some 110,.mov (.tmp 0),none⟩ (
          .q ⟨some 111,.mov (.tmp 10),none⟩ (
          .q ⟨some 112,.bin .sub (.tmp 111) (.const (.int .i64 1)),none⟩ (
          .q ⟨some 113,.iadr (.tmp 110) (.tmp 112) k,none⟩ (
          .q ⟨some 114,ld (.tmp 113),none⟩ (
          .alt ⟨some 115,.call (.func cf) [(.tmp 109),(.tmp 114)],none⟩ false (
           .q ⟨some 116,.un .not (.tmp 115),none⟩ (
           .done)) (.noalt)))))))))))) (
          .cond (.tmp 116) (
           .exit 6) (
           .skip))) (
         .draw (
          .q ⟨some 117,.mov (.tmp 0),none⟩ (
          .q ⟨some 118,.mov (.tmp 10),none⟩ (
          .q ⟨some 119,.mov (.tmp 0),none⟩ (
          .q ⟨some 120,.mov (.tmp 10),none⟩ (
          .q ⟨some 121,.bin .sub (.tmp 120) (.const (.int .i64 1)),none⟩ (
          .q ⟨some 122,.mov (.tmp 0),none⟩ (
          .q ⟨some 123,.mov (.tmp 10),none⟩ (
          .q ⟨some 124,.bin .sub (.tmp 123) (.const (.int .i64 1)),none⟩ (
          .q ⟨some 125,.iadr (.tmp 122) (.tmp 124) k,none⟩ (
          .q ⟨some 126,ld (.tmp 125),none⟩ (
          .q ⟨some 127,.mov (.tmp 0),none⟩ (
          .q ⟨some 128,.mov (.tmp 10),none⟩ (
          .q ⟨some 129,.iadr (.tmp 127) (.tmp 128) k,none⟩ (
          .q ⟨some 130,ld (.tmp 129),none⟩ (
          .q ⟨some 131,.iadr (.tmp 117) (.tmp 118) k,none⟩ (
          .alt ⟨none,.store k (.tmp 131) (.tmp 126),none⟩ false (
           .q ⟨some 132,.iadr (.tmp 119) (.tmp 121) k,none⟩ (
           .alt ⟨none,.store k (.tmp 132) (.tmp 130),none⟩ false (
            .done) (.noalt))) (.noalt)))))))))))))))))))) (
        .region [⟨some 104,.mov (.tmp 10),none⟩,
         ⟨some 105,.bin .add (.tmp 104) (.const (.int .i64 1)),none⟩,
         ⟨some 10,.mov (.tmp 105),none⟩])))))) (
      .skip))))))))) (
    .region [⟨some 15,.mov (.tmp 8),none⟩,
     ⟨some 16,.bin .add (.tmp 15) (.const (.int .i64 1)),none⟩,
     ⟨some 8,.mov (.tmp 16),none⟩])))))) (
 .seq (.region [⟨some 6,.mov (.const (.bool false)),none⟩]) (
 .ret))))
/-- slices.partitionEqualOrdered -/
def dP(ld:Operand→Wv)(k:Nat)(cf:Nat):zA:=
 .seq (.region [⟨some 8,.mov (.const (.int .i64 0)),none⟩]) (
 .seq (.draw (
  .q ⟨some 11,.mov (.tmp 0),none⟩ (
  .q ⟨some 12,.mov (.tmp 1),none⟩ (
  .q ⟨some 13,.mov (.tmp 0),none⟩ (
  .q ⟨some 14,.mov (.tmp 3),none⟩ (
  .q ⟨some 15,.mov (.tmp 0),none⟩ (
  .q ⟨some 16,.mov (.tmp 3),none⟩ (
  .q ⟨some 17,.iadr (.tmp 15) (.tmp 16) k,none⟩ (
  .q ⟨some 18,ld (.tmp 17),none⟩ (
  .q ⟨some 19,.mov (.tmp 0),none⟩ (
  .q ⟨some 20,.mov (.tmp 1),none⟩ (
  .q ⟨some 21,.iadr (.tmp 19) (.tmp 20) k,none⟩ (
  .q ⟨some 22,ld (.tmp 21),none⟩ (
  .q ⟨some 23,.iadr (.tmp 11) (.tmp 12) k,none⟩ (
  .alt ⟨none,.store k (.tmp 23) (.tmp 18),none⟩ false (
   .q ⟨some 24,.iadr (.tmp 13) (.tmp 14) k,none⟩ (
   .alt ⟨none,.store k (.tmp 24) (.tmp 22),none⟩ false (
    .done) (.noalt))) (.noalt)))))))))))))))) (
 .seq (.region [⟨some 25,.mov (.tmp 1),none⟩,
  ⟨some 26,.bin .add (.tmp 25) (.const (.int .i64 1)),none⟩,
  ⟨some 27,.mov (.tmp 2),none⟩,
  ⟨some 28,.bin .sub (.tmp 27) (.const (.int .i64 1)),none⟩,
  ⟨some 9,.mov (.tmp 26),none⟩,
  ⟨some 10,.mov (.tmp 28),none⟩]) (
 .seq (.block 0 (
  .loop (
   .block 1 (
    .seq (.block 2 (
     .loop (
      .seq (.seq (.draw (
       .q ⟨some 29,.mov (.tmp 9),none⟩ (
       .q ⟨some 30,.mov (.tmp 10),none⟩ (
       .q ⟨some 31,.bin .leq (.tmp 29) (.tmp 30),none⟩ (
       .q ⟨some 32,.mov (.tmp 31),none⟩ (
       .q ⟨some 33,.mov (.tmp 0),some (32,true)⟩ (
       .q ⟨some 34,.mov (.tmp 1),some (32,true)⟩ (
       .q ⟨some 35,.iadr (.tmp 33) (.tmp 34) k,some (32,true)⟩ (
       .q ⟨some 36,ld (.tmp 35),some (32,true)⟩ (
       .q ⟨some 37,.mov (.tmp 0),some (32,true)⟩ (
       .q ⟨some 38,.mov (.tmp 9),some (32,true)⟩ (
       .q ⟨some 39,.iadr (.tmp 37) (.tmp 38) k,some (32,true)⟩ (
       .q ⟨some 40,ld (.tmp 39),some (32,true)⟩ (
       .alt ⟨some 41,.call (.func cf) [(.tmp 36),(.tmp 40)],some (32,true)⟩ false (
        .q ⟨some 42,.un .not (.tmp 41),some (32,true)⟩ (
        .q ⟨some 43,.pick (.tmp 32) (.tmp 42) (.const (.bool false)),none⟩ (
        .done))) (.noalt))))))))))))))) (
       .cond (.tmp 43) (
        .skip) (
        .exit 2))) (
      .block 3 (
       .region [⟨some 44,.mov (.tmp 9),none⟩,
        ⟨some 45,.bin .add (.tmp 44) (.const (.int .i64 1)),none⟩,
        ⟨some 9,.mov (.tmp 45),none⟩]))))) (
    .seq (.block 4 (
     .loop (
      .seq (.seq (.draw (
       .q ⟨some 46,.mov (.tmp 9),none⟩ (
       .q ⟨some 47,.mov (.tmp 10),none⟩ (
       .q ⟨some 48,.bin .leq (.tmp 46) (.tmp 47),none⟩ (
       .q ⟨some 49,.mov (.tmp 48),none⟩ (
       .q ⟨some 50,.mov (.tmp 0),some (49,true)⟩ (
       .q ⟨some 51,.mov (.tmp 1),some (49,true)⟩ (
       .q ⟨some 52,.iadr (.tmp 50) (.tmp 51) k,some (49,true)⟩ (
       .q ⟨some 53,ld (.tmp 52),some (49,true)⟩ (
       .q ⟨some 54,.mov (.tmp 0),some (49,true)⟩ (
       .q ⟨some 55,.mov (.tmp 10),some (49,true)⟩ (
       .q ⟨some 56,.iadr (.tmp 54) (.tmp 55) k,some (49,true)⟩ (
       .q ⟨some 57,ld (.tmp 56),some (49,true)⟩ (
       .alt ⟨some 58,.call (.func cf) [(.tmp 53),(.tmp 57)],some (49,true)⟩ false (
        .q ⟨some 59,.pick (.tmp 49) (.tmp 58) (.const (.bool false)),none⟩ (
        .done)) (.noalt))))))))))))))) (
       .cond (.tmp 59) (
        .skip) (
        .exit 4))) (
      .block 5 (
       .region [⟨some 60,.mov (.tmp 10),none⟩,
        ⟨some 61,.bin .sub (.tmp 60) (.const (.int .i64 1)),none⟩,
        ⟨some 10,.mov (.tmp 61),none⟩]))))) (
    .seq (.seq (.region [⟨some 62,.mov (.tmp 9),none⟩,
     ⟨some 63,.mov (.tmp 10),none⟩,
     ⟨some 64,.bin .gtr (.tmp 62) (.tmp 63),none⟩]) (
     .cond (.tmp 64) (
      .exit 0) (
      .skip))) (
    .seq (.draw (
     .q ⟨some 65,.mov (.tmp 0),none⟩ (
     .q ⟨some 66,.mov (.tmp 9),none⟩ (
     .q ⟨some 67,.mov (.tmp 0),none⟩ (
     .q ⟨some 68,.mov (.tmp 10),none⟩ (
     .q ⟨some 69,.mov (.tmp 0),none⟩ (
     .q ⟨some 70,.mov (.tmp 10),none⟩ (
     .q ⟨some 71,.iadr (.tmp 69) (.tmp 70) k,none⟩ (
     .q ⟨some 72,ld (.tmp 71),none⟩ (
     .q ⟨some 73,.mov (.tmp 0),none⟩ (
     .q ⟨some 74,.mov (.tmp 9),none⟩ (
     .q ⟨some 75,.iadr (.tmp 73) (.tmp 74) k,none⟩ (
     .q ⟨some 76,ld (.tmp 75),none⟩ (
     .q ⟨some 77,.iadr (.tmp 65) (.tmp 66) k,none⟩ (
     .alt ⟨none,.store k (.tmp 77) (.tmp 72),none⟩ false (
      .q ⟨some 78,.iadr (.tmp 67) (.tmp 68) k,none⟩ (
      .alt ⟨none,.store k (.tmp 78) (.tmp 76),none⟩ false (
       .done) (.noalt))) (.noalt)))))))))))))))) (
    .seq (.region [⟨some 79,.mov (.tmp 9),none⟩,
     ⟨some 80,.bin .add (.tmp 79) (.const (.int .i64 1)),none⟩,
     ⟨some 9,.mov (.tmp 80),none⟩]) (
    .region [⟨some 81,.mov (.tmp 10),none⟩,
     ⟨some 82,.bin .sub (.tmp 81) (.const (.int .i64 1)),none⟩,
     ⟨some 10,.mov (.tmp 82),none⟩]))))))))) (
 .seq (.region [⟨some 83,.mov (.tmp 9),none⟩,
  ⟨some 8,.mov (.tmp 83),none⟩]) (
 .ret)))))
/-- slices.partitionOrdered -/
def dO(ld:Operand→Wv)(k:Nat)(cf:Nat):zA:=
 .seq (.region [⟨some 8,.mov (.const (.int .i64 0)),none⟩,
  ⟨some 9,.mov (.const (.bool false)),none⟩]) (
 .seq (.draw (
  .q ⟨some 12,.mov (.tmp 0),none⟩ (
  .q ⟨some 13,.mov (.tmp 1),none⟩ (
  .q ⟨some 14,.mov (.tmp 0),none⟩ (
  .q ⟨some 15,.mov (.tmp 3),none⟩ (
  .q ⟨some 16,.mov (.tmp 0),none⟩ (
  .q ⟨some 17,.mov (.tmp 3),none⟩ (
  .q ⟨some 18,.iadr (.tmp 16) (.tmp 17) k,none⟩ (
  .q ⟨some 19,ld (.tmp 18),none⟩ (
  .q ⟨some 20,.mov (.tmp 0),none⟩ (
  .q ⟨some 21,.mov (.tmp 1),none⟩ (
  .q ⟨some 22,.iadr (.tmp 20) (.tmp 21) k,none⟩ (
  .q ⟨some 23,ld (.tmp 22),none⟩ (
  .q ⟨some 24,.iadr (.tmp 12) (.tmp 13) k,none⟩ (
  .alt ⟨none,.store k (.tmp 24) (.tmp 19),none⟩ false (
   .q ⟨some 25,.iadr (.tmp 14) (.tmp 15) k,none⟩ (
   .alt ⟨none,.store k (.tmp 25) (.tmp 23),none⟩ false (
    .done) (.noalt))) (.noalt)))))))))))))))) (
 .seq (.region [⟨some 26,.mov (.tmp 1),none⟩,
  ⟨some 27,.bin .add (.tmp 26) (.const (.int .i64 1)),none⟩,
  ⟨some 28,.mov (.tmp 2),none⟩,
  ⟨some 29,.bin .sub (.tmp 28) (.const (.int .i64 1)),none⟩,
  ⟨some 10,.mov (.tmp 27),none⟩,
  ⟨some 11,.mov (.tmp 29),none⟩]) (
 .seq (.block 0 (
  .loop (
   .seq (.seq (.draw (
    .q ⟨some 30,.mov (.tmp 10),none⟩ (
    .q ⟨some 31,.mov (.tmp 11),none⟩ (
    .q ⟨some 32,.bin .leq (.tmp 30) (.tmp 31),none⟩ (
    .q ⟨some 33,.mov (.tmp 32),none⟩ (
    .q ⟨some 34,.mov (.tmp 0),some (33,true)⟩ (
    .q ⟨some 35,.mov (.tmp 10),some (33,true)⟩ (
    .q ⟨some 36,.iadr (.tmp 34) (.tmp 35) k,some (33,true)⟩ (
    .q ⟨some 37,ld (.tmp 36),some (33,true)⟩ (
    .q ⟨some 38,.mov (.tmp 0),some (33,true)⟩ (
    .q ⟨some 39,.mov (.tmp 1),some (33,true)⟩ (
    .q ⟨some 40,.iadr (.tmp 38) (.tmp 39) k,some (33,true)⟩ (
    .q ⟨some 41,ld (.tmp 40),some (33,true)⟩ (
    .alt ⟨some 42,.call (.func cf) [(.tmp 37),(.tmp 41)],some (33,true)⟩ false (
     .q ⟨some 43,.pick (.tmp 33) (.tmp 42) (.const (.bool false)),none⟩ (
     .done)) (.noalt))))))))))))))) (
    .cond (.tmp 43) (
     .skip) (
     .exit 0))) (
   .block 1 (
    .region [⟨some 44,.mov (.tmp 10),none⟩,
     ⟨some 45,.bin .add (.tmp 44) (.const (.int .i64 1)),none⟩,
     ⟨some 10,.mov (.tmp 45),none⟩]))))) (
 .seq (.block 2 (
  .loop (
   .seq (.seq (.draw (
    .q ⟨some 46,.mov (.tmp 10),none⟩ (
    .q ⟨some 47,.mov (.tmp 11),none⟩ (
    .q ⟨some 48,.bin .leq (.tmp 46) (.tmp 47),none⟩ (
    .q ⟨some 49,.mov (.tmp 48),none⟩ (
    .q ⟨some 50,.mov (.tmp 0),some (49,true)⟩ (
    .q ⟨some 51,.mov (.tmp 11),some (49,true)⟩ (
    .q ⟨some 52,.iadr (.tmp 50) (.tmp 51) k,some (49,true)⟩ (
    .q ⟨some 53,ld (.tmp 52),some (49,true)⟩ (
    .q ⟨some 54,.mov (.tmp 0),some (49,true)⟩ (
    .q ⟨some 55,.mov (.tmp 1),some (49,true)⟩ (
    .q ⟨some 56,.iadr (.tmp 54) (.tmp 55) k,some (49,true)⟩ (
    .q ⟨some 57,ld (.tmp 56),some (49,true)⟩ (
    .alt ⟨some 58,.call (.func cf) [(.tmp 53),(.tmp 57)],some (49,true)⟩ false (
     .q ⟨some 59,.un .not (.tmp 58),some (49,true)⟩ (
     .q ⟨some 60,.pick (.tmp 49) (.tmp 59) (.const (.bool false)),none⟩ (
     .done))) (.noalt))))))))))))))) (
    .cond (.tmp 60) (
     .skip) (
     .exit 2))) (
   .block 3 (
    .region [⟨some 61,.mov (.tmp 11),none⟩,
     ⟨some 62,.bin .sub (.tmp 61) (.const (.int .i64 1)),none⟩,
     ⟨some 11,.mov (.tmp 62),none⟩]))))) (
 .seq (.seq (.region [⟨some 63,.mov (.tmp 10),none⟩,
  ⟨some 64,.mov (.tmp 11),none⟩,
  ⟨some 65,.bin .gtr (.tmp 63) (.tmp 64),none⟩]) (
  .cond (.tmp 65) (
   .seq (.draw (
    .q ⟨some 66,.mov (.tmp 0),none⟩ (
    .q ⟨some 67,.mov (.tmp 11),none⟩ (
    .q ⟨some 68,.mov (.tmp 0),none⟩ (
    .q ⟨some 69,.mov (.tmp 1),none⟩ (
    .q ⟨some 70,.mov (.tmp 0),none⟩ (
    .q ⟨some 71,.mov (.tmp 1),none⟩ (
    .q ⟨some 72,.iadr (.tmp 70) (.tmp 71) k,none⟩ (
    .q ⟨some 73,ld (.tmp 72),none⟩ (
    .q ⟨some 74,.mov (.tmp 0),none⟩ (
    .q ⟨some 75,.mov (.tmp 11),none⟩ (
    .q ⟨some 76,.iadr (.tmp 74) (.tmp 75) k,none⟩ (
    .q ⟨some 77,ld (.tmp 76),none⟩ (
    .q ⟨some 78,.iadr (.tmp 66) (.tmp 67) k,none⟩ (
    .alt ⟨none,.store k (.tmp 78) (.tmp 73),none⟩ false (
     .q ⟨some 79,.iadr (.tmp 68) (.tmp 69) k,none⟩ (
     .alt ⟨none,.store k (.tmp 79) (.tmp 77),none⟩ false (
      .done) (.noalt))) (.noalt)))))))))))))))) (
   .seq (.region [⟨some 80,.mov (.tmp 11),none⟩,
    ⟨some 8,.mov (.tmp 80),none⟩,
    ⟨some 9,.mov (.const (.bool true)),none⟩]) (
   .ret))) (
   .skip))) (
 .seq (.draw (
  .q ⟨some 81,.mov (.tmp 0),none⟩ (
  .q ⟨some 82,.mov (.tmp 10),none⟩ (
  .q ⟨some 83,.mov (.tmp 0),none⟩ (
  .q ⟨some 84,.mov (.tmp 11),none⟩ (
  .q ⟨some 85,.mov (.tmp 0),none⟩ (
  .q ⟨some 86,.mov (.tmp 11),none⟩ (
  .q ⟨some 87,.iadr (.tmp 85) (.tmp 86) k,none⟩ (
  .q ⟨some 88,ld (.tmp 87),none⟩ (
  .q ⟨some 89,.mov (.tmp 0),none⟩ (
  .q ⟨some 90,.mov (.tmp 10),none⟩ (
  .q ⟨some 91,.iadr (.tmp 89) (.tmp 90) k,none⟩ (
  .q ⟨some 92,ld (.tmp 91),none⟩ (
  .q ⟨some 93,.iadr (.tmp 81) (.tmp 82) k,none⟩ (
  .alt ⟨none,.store k (.tmp 93) (.tmp 88),none⟩ false (
   .q ⟨some 94,.iadr (.tmp 83) (.tmp 84) k,none⟩ (
   .alt ⟨none,.store k (.tmp 94) (.tmp 92),none⟩ false (
    .done) (.noalt))) (.noalt)))))))))))))))) (
 .seq (.region [⟨some 95,.mov (.tmp 10),none⟩,
  ⟨some 96,.bin .add (.tmp 95) (.const (.int .i64 1)),none⟩,
  ⟨some 10,.mov (.tmp 96),none⟩]) (
 .seq (.region [⟨some 97,.mov (.tmp 11),none⟩,
  ⟨some 98,.bin .sub (.tmp 97) (.const (.int .i64 1)),none⟩,
  ⟨some 11,.mov (.tmp 98),none⟩]) (
 .seq (.block 4 (
  .loop (
   .block 5 (
    .seq (.block 6 (
     .loop (
      .seq (.seq (.draw (
       .q ⟨some 99,.mov (.tmp 10),none⟩ (
       .q ⟨some 100,.mov (.tmp 11),none⟩ (
       .q ⟨some 101,.bin .leq (.tmp 99) (.tmp 100),none⟩ (
       .q ⟨some 102,.mov (.tmp 101),none⟩ (
       .q ⟨some 103,.mov (.tmp 0),some (102,true)⟩ (
       .q ⟨some 104,.mov (.tmp 10),some (102,true)⟩ (
       .q ⟨some 105,.iadr (.tmp 103) (.tmp 104) k,some (102,true)⟩ (
       .q ⟨some 106,ld (.tmp 105),some (102,true)⟩ (
       .q ⟨some 107,.mov (.tmp 0),some (102,true)⟩ (
       .q ⟨some 108,.mov (.tmp 1),some (102,true)⟩ (
       .q ⟨some 109,.iadr (.tmp 107) (.tmp 108) k,some (102,true)⟩ (
       .q ⟨some 110,ld (.tmp 109),some (102,true)⟩ (
       .alt ⟨some 111,.call (.func cf) [(.tmp 106),(.tmp 110)],some (102,true)⟩ false (
        .q ⟨some 112,.pick (.tmp 102) (.tmp 111) (.const (.bool false)),none⟩ (
        .done)) (.noalt))))))))))))))) (
       .cond (.tmp 112) (
        .skip) (
        .exit 6))) (
      .block 7 (
       .region [⟨some 113,.mov (.tmp 10),none⟩,
        ⟨some 114,.bin .add (.tmp 113) (.const (.int .i64 1)),none⟩,
        ⟨some 10,.mov (.tmp 114),none⟩]))))) (
    .seq (.block 8 (
     .loop (
      .seq (.seq (.draw (
       .q ⟨some 115,.mov (.tmp 10),none⟩ (
       .q ⟨some 116,.mov (.tmp 11),none⟩ (
       .q ⟨some 117,.bin .leq (.tmp 115) (.tmp 116),none⟩ (
       .q ⟨some 118,.mov (.tmp 117),none⟩ (
       .q ⟨some 119,.mov (.tmp 0),some (118,true)⟩ (
       .q ⟨some 120,.mov (.tmp 11),some (118,true)⟩ (
       .q ⟨some 121,.iadr (.tmp 119) (.tmp 120) k,some (118,true)⟩ (
       .q ⟨some 122,ld (.tmp 121),some (118,true)⟩ (
       .q ⟨some 123,.mov (.tmp 0),some (118,true)⟩ (
       .q ⟨some 124,.mov (.tmp 1),some (118,true)⟩ (
       .q ⟨some 125,.iadr (.tmp 123) (.tmp 124) k,some (118,true)⟩ (
       .q ⟨some 126,ld (.tmp 125),some (118,true)⟩ (
       .alt ⟨some 127,.call (.func cf) [(.tmp 122),(.tmp 126)],some (118,true)⟩ false (
        .q ⟨some 128,.un .not (.tmp 127),some (118,true)⟩ (
        .q ⟨some 129,.pick (.tmp 118) (.tmp 128) (.const (.bool false)),none⟩ (
        .done))) (.noalt))))))))))))))) (
       .cond (.tmp 129) (
        .skip) (
        .exit 8))) (
      .block 9 (
       .region [⟨some 130,.mov (.tmp 11),none⟩,
        ⟨some 131,.bin .sub (.tmp 130) (.const (.int .i64 1)),none⟩,
        ⟨some 11,.mov (.tmp 131),none⟩]))))) (
    .seq (.seq (.region [⟨some 132,.mov (.tmp 10),none⟩,
     ⟨some 133,.mov (.tmp 11),none⟩,
     ⟨some 134,.bin .gtr (.tmp 132) (.tmp 133),none⟩]) (
     .cond (.tmp 134) (
      .exit 4) (
      .skip))) (
    .seq (.draw (
     .q ⟨some 135,.mov (.tmp 0),none⟩ (
     .q ⟨some 136,.mov (.tmp 10),none⟩ (
     .q ⟨some 137,.mov (.tmp 0),none⟩ (
     .q ⟨some 138,.mov (.tmp 11),none⟩ (
     .q ⟨some 139,.mov (.tmp 0),none⟩ (
     .q ⟨some 140,.mov (.tmp 11),none⟩ (
     .q ⟨some 141,.iadr (.tmp 139) (.tmp 140) k,none⟩ (
     .q ⟨some 142,ld (.tmp 141),none⟩ (
     .q ⟨some 143,.mov (.tmp 0),none⟩ (
     .q ⟨some 144,.mov (.tmp 10),none⟩ (
     .q ⟨some 145,.iadr (.tmp 143) (.tmp 144) k,none⟩ (
     .q ⟨some 146,ld (.tmp 145),none⟩ (
     .q ⟨some 147,.iadr (.tmp 135) (.tmp 136) k,none⟩ (
     .alt ⟨none,.store k (.tmp 147) (.tmp 142),none⟩ false (
      .q ⟨some 148,.iadr (.tmp 137) (.tmp 138) k,none⟩ (
      .alt ⟨none,.store k (.tmp 148) (.tmp 146),none⟩ false (
       .done) (.noalt))) (.noalt)))))))))))))))) (
    .seq (.region [⟨some 149,.mov (.tmp 10),none⟩,
     ⟨some 150,.bin .add (.tmp 149) (.const (.int .i64 1)),none⟩,
     ⟨some 10,.mov (.tmp 150),none⟩]) (
    .region [⟨some 151,.mov (.tmp 11),none⟩,
     ⟨some 152,.bin .sub (.tmp 151) (.const (.int .i64 1)),none⟩,
     ⟨some 11,.mov (.tmp 152),none⟩]))))))))) (
 .seq (.draw (
  .q ⟨some 153,.mov (.tmp 0),none⟩ (
  .q ⟨some 154,.mov (.tmp 11),none⟩ (
  .q ⟨some 155,.mov (.tmp 0),none⟩ (
  .q ⟨some 156,.mov (.tmp 1),none⟩ (
  .q ⟨some 157,.mov (.tmp 0),none⟩ (
  .q ⟨some 158,.mov (.tmp 1),none⟩ (
  .q ⟨some 159,.iadr (.tmp 157) (.tmp 158) k,none⟩ (
  .q ⟨some 160,ld (.tmp 159),none⟩ (
  .q ⟨some 161,.mov (.tmp 0),none⟩ (
  .q ⟨some 162,.mov (.tmp 11),none⟩ (
  .q ⟨some 163,.iadr (.tmp 161) (.tmp 162) k,none⟩ (
  .q ⟨some 164,ld (.tmp 163),none⟩ (
  .q ⟨some 165,.iadr (.tmp 153) (.tmp 154) k,none⟩ (
  .alt ⟨none,.store k (.tmp 165) (.tmp 160),none⟩ false (
   .q ⟨some 166,.iadr (.tmp 155) (.tmp 156) k,none⟩ (
   .alt ⟨none,.store k (.tmp 166) (.tmp 164),none⟩ false (
    .done) (.noalt))) (.noalt)))))))))))))))) (
 .seq (.region [⟨some 167,.mov (.tmp 11),none⟩,
  ⟨some 8,.mov (.tmp 167),none⟩,
  ⟨some 9,.mov (.const (.bool false)),none⟩]) (
 .ret))))))))))))
/-- slices.pdqsortOrdered -/
def dQ(ld:Operand→Wv)(k:Nat)(cf:Nat)(fIns fHeap fBrk fChp fRev fPar fPeq fPrt fPdq:Nat):zA:=
 .seq (.region [⟨some 8,.mov (.const (.bool true)),none⟩]) (
 .seq (.region [⟨some 9,.mov (.const (.bool true)),none⟩]) (
 .block 0 (
  .loop (
   .block 1 (
    .seq (.region [⟨some 19,.mov (.tmp 2),none⟩,
     ⟨some 20,.mov (.tmp 1),none⟩,
     ⟨some 21,.bin .sub (.tmp 19) (.tmp 20),none⟩,
     ⟨some 10,.mov (.tmp 21),none⟩]) (
    .seq (.seq (.region [⟨some 22,.mov (.tmp 10),none⟩,
     ⟨some 23,.bin .leq (.tmp 22) (.const (.int .i64 12)),none⟩]) (
     .cond (.tmp 23) (
      .seq (.region [⟨some 24,.mov (.tmp 0),none⟩,
       ⟨some 25,.mov (.tmp 1),none⟩,
       ⟨some 26,.mov (.tmp 2),none⟩,
       ⟨some 27,.call (.func fIns) [(.tmp 24),(.tmp 25),(.tmp 26)],none⟩]) (
      .ret)) (
      .skip))) (
    .seq (.seq (.region [⟨some 28,.mov (.tmp 3),none⟩,
     ⟨some 29,.bin .eql (.tmp 28) (.const (.int .i64 0)),none⟩]) (
     .cond (.tmp 29) (
      .seq (.region [⟨some 30,.mov (.tmp 0),none⟩,
       ⟨some 31,.mov (.tmp 1),none⟩,
       ⟨some 32,.mov (.tmp 2),none⟩,
       ⟨some 33,.call (.func fHeap) [(.tmp 30),(.tmp 31),(.tmp 32)],none⟩]) (
      .ret)) (
      .skip))) (
    .seq (.seq (.region [⟨some 34,.mov (.tmp 8),none⟩,
     ⟨some 35,.un .not (.tmp 34),none⟩]) (
     .cond (.tmp 35) (
      .seq (.region [⟨some 36,.mov (.tmp 0),none⟩,
       ⟨some 37,.mov (.tmp 1),none⟩,
       ⟨some 38,.mov (.tmp 2),none⟩,
       ⟨some 39,.call (.func fBrk) [(.tmp 36),(.tmp 37),(.tmp 38)],none⟩]) (
      .region [⟨some 40,.mov (.tmp 3),none⟩,
       ⟨some 41,.bin .sub (.tmp 40) (.const (.int .i64 1)),none⟩,
       ⟨some 3,.mov (.tmp 41),none⟩])) (
      .skip))) (
    .seq (.region [⟨some 43,.mov (.tmp 0),none⟩,
     ⟨some 44,.mov (.tmp 1),none⟩,
     ⟨some 45,.mov (.tmp 2),none⟩,
     ⟨some 46,.call (.func fChp) [(.tmp 43),(.tmp 44),(.tmp 45)],none⟩,
     ⟨some 42,.mov (.tmp 46),none⟩,
     ⟨some 47,.ext (.tmp 42) 0,none⟩,
     ⟨some 48,.ext (.tmp 42) 1,none⟩,
     ⟨some 11,.mov (.tmp 47),none⟩,
     ⟨some 12,.mov (.tmp 48),none⟩]) (
    .seq (.seq (.region [⟨some 49,.mov (.tmp 12),none⟩,
     ⟨some 50,.bin .eql (.tmp 49) (.const (.int .i64 2)),none⟩]) (
     .cond (.tmp 50) (
      .seq (.region [⟨some 51,.mov (.tmp 0),none⟩,
       ⟨some 52,.mov (.tmp 1),none⟩,
       ⟨some 53,.mov (.tmp 2),none⟩,
       ⟨some 54,.call (.func fRev) [(.tmp 51),(.tmp 52),(.tmp 53)],none⟩]) (
      .seq (.region [⟨some 55,.mov (.tmp 2),none⟩,
       ⟨some 56,.bin .sub (.tmp 55) (.const (.int .i64 1)),none⟩,
       ⟨some 57,.mov (.tmp 11),none⟩,
       ⟨some 58,.mov (.tmp 1),none⟩,
       ⟨some 59,.bin .sub (.tmp 57) (.tmp 58),none⟩,
       ⟨some 60,.bin .sub (.tmp 56) (.tmp 59),none⟩,
       ⟨some 11,.mov (.tmp 60),none⟩]) (
      .region [⟨some 12,.mov (.const (.int .i64 1)),none⟩]))) (
      .skip))) (
    .seq (.seq (.region [⟨some 61,.mov (.tmp 8),none⟩,
     ⟨some 62,.mov (.tmp 61),none⟩,
     ⟨some 63,.mov (.tmp 9),some (62,true)⟩,
     ⟨some 64,.pick (.tmp 62) (.tmp 63) (.const (.bool false)),none⟩,
     ⟨some 65,.mov (.tmp 64),none⟩,
     ⟨some 66,.mov (.tmp 12),some (65,true)⟩,
     ⟨some 67,.bin .eql (.tmp 66) (.const (.int .i64 1)),some (65,true)⟩,
     ⟨some 68,.pick (.tmp 65) (.tmp 67) (.const (.bool false)),none⟩]) (
     .cond (.tmp 68) (
      .seq (.region [⟨some 69,.mov (.tmp 0),none⟩,
       ⟨some 70,.mov (.tmp 1),none⟩,
       ⟨some 71,.mov (.tmp 2),none⟩,
       ⟨some 72,.call (.func fPar) [(.tmp 69),(.tmp 70),(.tmp 71)],none⟩]) (
      .cond (.tmp 72) (
       .ret) (
       .skip))) (
      .skip))) (
    .seq (.seq (.draw (
     .q ⟨some 73,.mov (.tmp 1),none⟩ (
     .q ⟨some 74,.bin .gtr (.tmp 73) (.const (.int .i64 0)),none⟩ (
     .q ⟨some 75,.mov (.tmp 74),none⟩ (
     .q ⟨some 76,.mov (.tmp 0),some (75,true)⟩ (
     .q ⟨some 77,.mov (.tmp 1),some (75,true)⟩ (
     .q ⟨some 78,.bin .sub (.tmp 77) (.const (.int .i64 1)),some (75,true)⟩ (
     .q ⟨some 79,.iadr (.tmp 76) (.tmp 78) k,some (75,true)⟩ (
     .q ⟨some 80,ld (.tmp 79),some (75,true)⟩ (
     .q ⟨some 81,.mov (.tmp 0),some (75,true)⟩ (
     .q ⟨some 82,.mov (.tmp 11),some (75,true)⟩ (
     .q ⟨some 83,.iadr (.tmp 81) (.tmp 82) k,some (75,true)⟩ (
     .q ⟨some 84,ld (.tmp 83),some (75,true)⟩ (
     .alt ⟨some 85,.call (.func cf) [(.tmp 80),(.tmp 84)],some (75,true)⟩ false (
      .q ⟨some 86,.un .not (.tmp 85),some (75,true)⟩ (
      .q ⟨some 87,.pick (.tmp 75) (.tmp 86) (.const (.bool false)),none⟩ (
      .done))) (.noalt))))))))))))))) (
     .cond (.tmp 87) (
      .seq (.region [⟨some 88,.mov (.tmp 0),none⟩,
       ⟨some 89,.mov (.tmp 1),none⟩,
       ⟨some 90,.mov (.tmp 2),none⟩,
       ⟨some 91,.mov (.tmp 11),none⟩,
       ⟨some 92,.call (.func fPeq) [(.tmp 88),(.tmp 89),(.tmp 90),(.tmp 91)],none⟩,
       ⟨some 13,.mov (.tmp 92),none⟩]) (
      .seq (.region [⟨some 93,.mov (.tmp 13),none⟩,
       ⟨some 1,.mov (.tmp 93),none⟩]) (
      .exit 1))) (
      .skip))) (
    .seq (.region [⟨some 95,.mov (.tmp 0),none⟩,
     ⟨some 96,.mov (.tmp 1),none⟩,
     ⟨some 97,.mov (.tmp 2),none⟩,
     ⟨some 98,.mov (.tmp 11),none⟩,
     ⟨some 99,.call (.func fPrt) [(.tmp 95),(.tmp 96),(.tmp 97),(.tmp 98)],none⟩,
     ⟨some 94,.mov (.tmp 99),none⟩,
     ⟨some 100,.ext (.tmp 94) 0,none⟩,
     ⟨some 101,.ext (.tmp 94) 1,none⟩,
     ⟨some 14,.mov (.tmp 100),none⟩,
     ⟨some 15,.mov (.tmp 101),none⟩]) (
    .seq (.region [⟨some 102,.mov (.tmp 15),none⟩,
     ⟨some 9,.mov (.tmp 102),none⟩]) (
    .seq (.region [⟨some 103,.mov (.tmp 14),none⟩,
     ⟨some 104,.mov (.tmp 1),none⟩,
     ⟨some 105,.bin .sub (.tmp 103) (.tmp 104),none⟩,
     ⟨some 106,.mov (.tmp 2),none⟩,
     ⟨some 107,.mov (.tmp 14),none⟩,
     ⟨some 108,.bin .sub (.tmp 106) (.tmp 107),none⟩,
     ⟨some 16,.mov (.tmp 105),none⟩,
     ⟨some 17,.mov (.tmp 108),none⟩]) (
    .seq (.region [⟨some 109,.mov (.tmp 10),none⟩,
     ⟨some 110,.bin .quo (.tmp 109) (.const (.int .i64 8)),none⟩,
     ⟨some 18,.mov (.tmp 110),none⟩]) (
    .seq (.region [⟨some 111,.mov (.tmp 16),none⟩,
     ⟨some 112,.mov (.tmp 17),none⟩,
     ⟨some 113,.bin .lss (.tmp 111) (.tmp 112),none⟩]) (
    .cond (.tmp 113) (
     .seq (.region [⟨some 114,.mov (.tmp 16),none⟩,
      ⟨some 115,.mov (.tmp 18),none⟩,
      ⟨some 116,.bin .geq (.tmp 114) (.tmp 115),none⟩,
      ⟨some 8,.mov (.tmp 116),none⟩]) (
     .seq (.region [⟨some 117,.mov (.tmp 0),none⟩,
      ⟨some 118,.mov (.tmp 1),none⟩,
      ⟨some 119,.mov (.tmp 14),none⟩,
      ⟨some 120,.mov (.tmp 3),none⟩,
      ⟨some 121,.call (.func fPdq) [(.tmp 117),(.tmp 118),(.tmp 119),(.tmp 120)],none⟩]) (
     .region [⟨some 122,.mov (.tmp 14),none⟩,
      ⟨some 123,.bin .add (.tmp 122) (.const (.int .i64 1)),none⟩,
      ⟨some 1,.mov (.tmp 123),none⟩]))) (
     .seq (.region [⟨some 124,.mov (.tmp 17),none⟩,
      ⟨some 125,.mov (.tmp 18),none⟩,
      ⟨some 126,.bin .geq (.tmp 124) (.tmp 125),none⟩,
      ⟨some 8,.mov (.tmp 126),none⟩]) (
     .seq (.region [⟨some 127,.mov (.tmp 0),none⟩,
      ⟨some 128,.mov (.tmp 14),none⟩,
      ⟨some 129,.bin .add (.tmp 128) (.const (.int .i64 1)),none⟩,
      ⟨some 130,.mov (.tmp 2),none⟩,
      ⟨some 131,.mov (.tmp 3),none⟩,
      ⟨some 132,.call (.func fPdq) [(.tmp 127),(.tmp 129),(.tmp 130),(.tmp 131)],none⟩]) (
     .region [⟨some 133,.mov (.tmp 14),none⟩,
      ⟨some 2,.mov (.tmp 133),none⟩])))))))))))))))))))))
end Go.Xs