/- slices.SortStableFunc: what it is made of: swapRange, rotate, symMerge. slices.SortStableFunc: symMerge. slices.SortStableFunc: symMerge of one element and many. slices.SortStableFunc: symMerge. slices.SortStableFunc: the whole. -/
import Derived.Test.YtekgciopamkjlaaGreatB3
namespace Go.Xs
open Enc (enc)
variable {P:Program} {α:Type} [Enc α] {S:zB}
def jr(k:Nat):zA:=
 .seq (.region [⟨some 10,.mov (.const (.int .i64 0)),none⟩]) (
 .block 0 (
  .loop (
   .seq (.seq (.region [⟨some 11,.mov (.tmp 10),none⟩,
    ⟨some 12,.mov (.tmp 3),none⟩,
    ⟨some 13,.bin .lss (.tmp 11) (.tmp 12),none⟩]) (
    .cond (.tmp 13) (
     .skip) (
     .exit 0))) (
   .seq (.block 1 (
    .draw (
     .q ⟨some 16,.mov (.tmp 0),none⟩ (
     .q ⟨some 17,.mov (.tmp 1),none⟩ (
     .q ⟨some 18,.mov (.tmp 10),none⟩ (
     .q ⟨some 19,.bin .add (.tmp 17) (.tmp 18),none⟩ (
     .q ⟨some 20,.mov (.tmp 0),none⟩ (
     .q ⟨some 21,.mov (.tmp 2),none⟩ (
     .q ⟨some 22,.mov (.tmp 10),none⟩ (
     .q ⟨some 23,.bin .add (.tmp 21) (.tmp 22),none⟩ (
     .q ⟨some 24,.mov (.tmp 0),none⟩ (
     .q ⟨some 25,.mov (.tmp 2),none⟩ (
     .q ⟨some 26,.mov (.tmp 10),none⟩ (
     .q ⟨some 27,.bin .add (.tmp 25) (.tmp 26),none⟩ (
     .q ⟨some 28,.iadr (.tmp 24) (.tmp 27) k,none⟩ (
     .q ⟨some 29,.loadN k (.tmp 28),none⟩ (
     .q ⟨some 30,.mov (.tmp 0),none⟩ (
     .q ⟨some 31,.mov (.tmp 1),none⟩ (
     .q ⟨some 32,.mov (.tmp 10),none⟩ (
     .q ⟨some 33,.bin .add (.tmp 31) (.tmp 32),none⟩ (
     .q ⟨some 34,.iadr (.tmp 30) (.tmp 33) k,none⟩ (
     .q ⟨some 35,.loadN k (.tmp 34),none⟩ (
     .q ⟨some 36,.iadr (.tmp 16) (.tmp 19) k,none⟩ (
     .alt ⟨none,.store k (.tmp 36) (.tmp 29),none⟩ false (
      .q ⟨some 37,.iadr (.tmp 20) (.tmp 23) k,none⟩ (
      .alt ⟨none,.store k (.tmp 37) (.tmp 35),none⟩ false (
       .done) (.noalt))) (.noalt))))))))))))))))))))))))) (
   .region [⟨some 14,.mov (.tmp 10),none⟩,
    ⟨some 15,.bin .add (.tmp 14) (.const (.int .i64 1)),none⟩,
    ⟨some 10,.mov (.tmp 15),none⟩])))))
def ny(fs:Nat):zA:=
 .seq (.region [⟨some 12,.mov (.tmp 2),none⟩,
  ⟨some 13,.mov (.tmp 1),none⟩,
  ⟨some 14,.bin .sub (.tmp 12) (.tmp 13),none⟩,
  ⟨some 10,.mov (.tmp 14),none⟩]) (
 .seq (.region [⟨some 15,.mov (.tmp 3),none⟩,
  ⟨some 16,.mov (.tmp 2),none⟩,
  ⟨some 17,.bin .sub (.tmp 15) (.tmp 16),none⟩,
  ⟨some 11,.mov (.tmp 17),none⟩]) (
 .seq (.block 0 (
  .loop (
   .seq (.seq (.region [⟨some 18,.mov (.tmp 10),none⟩,
    ⟨some 19,.mov (.tmp 11),none⟩,
    ⟨some 20,.bin .neq (.tmp 18) (.tmp 19),none⟩]) (
    .cond (.tmp 20) (
     .skip) (
     .exit 0))) (
   .block 1 (
    .seq (.region [⟨some 21,.mov (.tmp 10),none⟩,
     ⟨some 22,.mov (.tmp 11),none⟩,
     ⟨some 23,.bin .gtr (.tmp 21) (.tmp 22),none⟩]) (
    .cond (.tmp 23) (
     .seq (.region [⟨some 24,.mov (.tmp 0),none⟩,
      ⟨some 25,.mov (.tmp 2),none⟩,
      ⟨some 26,.mov (.tmp 10),none⟩,
      ⟨some 27,.bin .sub (.tmp 25) (.tmp 26),none⟩,
      ⟨some 28,.mov (.tmp 2),none⟩,
      ⟨some 29,.mov (.tmp 11),none⟩,
      ⟨some 30,.mov (.tmp 4),none⟩,
      ⟨some 31,.call (.func fs) [(.tmp 24),(.tmp 27),(.tmp 28),(.tmp 29),(.tmp 30)],none⟩]) (
     .region [⟨some 32,.mov (.tmp 10),none⟩,
      ⟨some 33,.mov (.tmp 11),none⟩,
      ⟨some 34,.bin .sub (.tmp 32) (.tmp 33),none⟩,
      ⟨some 10,.mov (.tmp 34),none⟩])) (
     .seq (.region [⟨some 35,.mov (.tmp 0),none⟩,
      ⟨some 36,.mov (.tmp 2),none⟩,
      ⟨some 37,.mov (.tmp 10),none⟩,
      ⟨some 38,.bin .sub (.tmp 36) (.tmp 37),none⟩,
      ⟨some 39,.mov (.tmp 2),none⟩,
      ⟨some 40,.mov (.tmp 11),none⟩,
      ⟨some 41,.bin .add (.tmp 39) (.tmp 40),none⟩,
      ⟨some 42,.mov (.tmp 10),none⟩,
      ⟨some 43,.bin .sub (.tmp 41) (.tmp 42),none⟩,
      ⟨some 44,.mov (.tmp 10),none⟩,
      ⟨some 45,.mov (.tmp 4),none⟩,
      ⟨some 46,.call (.func fs) [(.tmp 35),(.tmp 38),(.tmp 43),(.tmp 44),(.tmp 45)],none⟩]) (
     .region [⟨some 47,.mov (.tmp 11),none⟩,
      ⟨some 48,.mov (.tmp 10),none⟩,
      ⟨some 49,.bin .sub (.tmp 47) (.tmp 48),none⟩,
      ⟨some 11,.mov (.tmp 49),none⟩])))))))) (
 .region [⟨some 50,.mov (.tmp 0),none⟩,
  ⟨some 51,.mov (.tmp 2),none⟩,
  ⟨some 52,.mov (.tmp 10),none⟩,
  ⟨some 53,.bin .sub (.tmp 51) (.tmp 52),none⟩,
  ⟨some 54,.mov (.tmp 2),none⟩,
  ⟨some 55,.mov (.tmp 10),none⟩,
  ⟨some 56,.mov (.tmp 4),none⟩,
  ⟨some 57,.call (.func fs) [(.tmp 50),(.tmp 53),(.tmp 54),(.tmp 55),(.tmp 56)],none⟩])))
def JD(k fr fs:Nat):zA:=
 .seq (.seq (.region [⟨some 25,.mov (.tmp 2),none⟩,
  ⟨some 26,.mov (.tmp 1),none⟩,
  ⟨some 27,.bin .sub (.tmp 25) (.tmp 26),none⟩,
  ⟨some 28,.bin .eql (.tmp 27) (.const (.int .i64 1)),none⟩]) (
  .cond (.tmp 28) (
   .seq (.region [⟨some 29,.mov (.tmp 2),none⟩,
    ⟨some 10,.mov (.tmp 29),none⟩]) (
   .seq (.region [⟨some 30,.mov (.tmp 3),none⟩,
    ⟨some 11,.mov (.tmp 30),none⟩]) (
   .seq (.block 0 (
    .loop (
     .seq (.seq (.region [⟨some 31,.mov (.tmp 10),none⟩,
      ⟨some 32,.mov (.tmp 11),none⟩,
      ⟨some 33,.bin .lss (.tmp 31) (.tmp 32),none⟩]) (
      .cond (.tmp 33) (
       .skip) (
       .exit 0))) (
     .block 1 (
      .seq (.region [⟨some 34,.mov (.tmp 10),none⟩,
       ⟨some 35,.mov (.tmp 11),none⟩,
       ⟨some 36,.bin .add (.tmp 34) (.tmp 35),none⟩,
       ⟨some 37,.conv .u64 (.tmp 36),none⟩,
       ⟨some 38,.bin .shr (.tmp 37) (.const (.int .u64 1)),none⟩,
       ⟨some 39,.conv .i64 (.tmp 38),none⟩,
       ⟨some 12,.mov (.tmp 39),none⟩]) (
      .seq (.draw (
       .q ⟨some 40,.mov (.tmp 4),none⟩ (
       .q ⟨some 41,.mov (.tmp 0),none⟩ (
       .q ⟨some 42,.mov (.tmp 12),none⟩ (
       .q ⟨some 43,.iadr (.tmp 41) (.tmp 42) k,none⟩ (
       .q ⟨some 44,.loadN k (.tmp 43),none⟩ (
       .q ⟨some 45,.mov (.tmp 0),none⟩ (
       .q ⟨some 46,.mov (.tmp 1),none⟩ (
       .q ⟨some 47,.iadr (.tmp 45) (.tmp 46) k,none⟩ (
       .q ⟨some 48,.loadN k (.tmp 47),none⟩ (
       .alt ⟨some 49,.call (.tmp 40) [(.tmp 44),(.tmp 48)],none⟩ false (
        .q ⟨some 50,.bin .lss (.tmp 49) (.const (.int .i64 0)),none⟩ (
        .done)) (.noalt)))))))))))) (
      .cond (.tmp 50) (
       .region [⟨some 51,.mov (.tmp 12),none⟩,
        ⟨some 52,.bin .add (.tmp 51) (.const (.int .i64 1)),none⟩,
        ⟨some 10,.mov (.tmp 52),none⟩]) (
       .region [⟨some 53,.mov (.tmp 12),none⟩,
        ⟨some 11,.mov (.tmp 53),none⟩])))))))) (
   .seq (.seq (.region [⟨some 54,.mov (.tmp 1),none⟩,
    ⟨some 13,.mov (.tmp 54),none⟩]) (
    .block 2 (
     .loop (
      .seq (.seq (.region [⟨some 55,.mov (.tmp 13),none⟩,
       ⟨some 56,.mov (.tmp 10),none⟩,
       ⟨some 57,.bin .sub (.tmp 56) (.const (.int .i64 1)),none⟩,
       ⟨some 58,.bin .lss (.tmp 55) (.tmp 57),none⟩]) (
       .cond (.tmp 58) (
        .skip) (
        .exit 2))) (
      .seq (.block 3 (
       .draw (
        .q ⟨some 61,.mov (.tmp 0),none⟩ (
        .q ⟨some 62,.mov (.tmp 13),none⟩ (
        .q ⟨some 63,.mov (.tmp 0),none⟩ (
        .q ⟨some 64,.mov (.tmp 13),none⟩ (
        .q ⟨some 65,.bin .add (.tmp 64) (.const (.int .i64 1)),none⟩ (
        .q ⟨some 66,.mov (.tmp 0),none⟩ (
        .q ⟨some 67,.mov (.tmp 13),none⟩ (
        .q ⟨some 68,.bin .add (.tmp 67) (.const (.int .i64 1)),none⟩ (
        .q ⟨some 69,.iadr (.tmp 66) (.tmp 68) k,none⟩ (
        .q ⟨some 70,.loadN k (.tmp 69),none⟩ (
        .q ⟨some 71,.mov (.tmp 0),none⟩ (
        .q ⟨some 72,.mov (.tmp 13),none⟩ (
        .q ⟨some 73,.iadr (.tmp 71) (.tmp 72) k,none⟩ (
        .q ⟨some 74,.loadN k (.tmp 73),none⟩ (
        .q ⟨some 75,.iadr (.tmp 61) (.tmp 62) k,none⟩ (
        .alt ⟨none,.store k (.tmp 75) (.tmp 70),none⟩ false (
         .q ⟨some 76,.iadr (.tmp 63) (.tmp 65) k,none⟩ (
         .alt ⟨none,.store k (.tmp 76) (.tmp 74),none⟩ false (
          .done) (.noalt))) (.noalt))))))))))))))))))) (
      .region [⟨some 59,.mov (.tmp 13),none⟩,
       ⟨some 60,.bin .add (.tmp 59) (.const (.int .i64 1)),none⟩,
       ⟨some 13,.mov (.tmp 60),none⟩])))))) (
   .ret))))) (
   .skip))) (
 .seq (.seq (.region [⟨some 77,.mov (.tmp 3),none⟩,
  ⟨some 78,.mov (.tmp 2),none⟩,
  ⟨some 79,.bin .sub (.tmp 77) (.tmp 78),none⟩,
  ⟨some 80,.bin .eql (.tmp 79) (.const (.int .i64 1)),none⟩]) (
  .cond (.tmp 80) (
   .seq (.region [⟨some 81,.mov (.tmp 1),none⟩,
    ⟨some 14,.mov (.tmp 81),none⟩]) (
   .seq (.region [⟨some 82,.mov (.tmp 2),none⟩,
    ⟨some 15,.mov (.tmp 82),none⟩]) (
   .seq (.block 4 (
    .loop (
     .seq (.seq (.region [⟨some 83,.mov (.tmp 14),none⟩,
      ⟨some 84,.mov (.tmp 15),none⟩,
      ⟨some 85,.bin .lss (.tmp 83) (.tmp 84),none⟩]) (
      .cond (.tmp 85) (
       .skip) (
       .exit 4))) (
     .block 5 (
      .seq (.region [⟨some 86,.mov (.tmp 14),none⟩,
       ⟨some 87,.mov (.tmp 15),none⟩,
       ⟨some 88,.bin .add (.tmp 86) (.tmp 87),none⟩,
       ⟨some 89,.conv .u64 (.tmp 88),none⟩,
       ⟨some 90,.bin .shr (.tmp 89) (.const (.int .u64 1)),none⟩,
       ⟨some 91,.conv .i64 (.tmp 90),none⟩,
       ⟨some 16,.mov (.tmp 91),none⟩]) (
      .seq (.draw (
       .q ⟨some 92,.mov (.tmp 4),none⟩ (
       .q ⟨some 93,.mov (.tmp 0),none⟩ (
       .q ⟨some 94,.mov (.tmp 2),none⟩ (
       .q ⟨some 95,.iadr (.tmp 93) (.tmp 94) k,none⟩ (
       .q ⟨some 96,.loadN k (.tmp 95),none⟩ (
       .q ⟨some 97,.mov (.tmp 0),none⟩ (
       .q ⟨some 98,.mov (.tmp 16),none⟩ (
       .q ⟨some 99,.iadr (.tmp 97) (.tmp 98) k,none⟩ (
       .q ⟨some 100,.loadN k (.tmp 99),none⟩ (
       .alt ⟨some 101,.call (.tmp 92) [(.tmp 96),(.tmp 100)],none⟩ false (
        .q ⟨some 102,.bin .lss (.tmp 101) (.const (.int .i64 0)),none⟩ (
        .q ⟨some 103,.un .not (.tmp 102),none⟩ (
        .done))) (.noalt)))))))))))) (
      .cond (.tmp 103) (
       .region [⟨some 104,.mov (.tmp 16),none⟩,
        ⟨some 105,.bin .add (.tmp 104) (.const (.int .i64 1)),none⟩,
        ⟨some 14,.mov (.tmp 105),none⟩]) (
       .region [⟨some 106,.mov (.tmp 16),none⟩,
        ⟨some 15,.mov (.tmp 106),none⟩])))))))) (
   .seq (.seq (.region [⟨some 107,.mov (.tmp 2),none⟩,
    ⟨some 17,.mov (.tmp 107),none⟩]) (
    .block 6 (
     .loop (
      .seq (.seq (.region [⟨some 108,.mov (.tmp 17),none⟩,
       ⟨some 109,.mov (.tmp 14),none⟩,
       ⟨some 110,.bin .gtr (.tmp 108) (.tmp 109),none⟩]) (
       .cond (.tmp 110) (
        .skip) (
        .exit 6))) (
      .seq (.block 7 (
       .draw (
        .q ⟨some 113,.mov (.tmp 0),none⟩ (
        .q ⟨some 114,.mov (.tmp 17),none⟩ (
        .q ⟨some 115,.mov (.tmp 0),none⟩ (
        .q ⟨some 116,.mov (.tmp 17),none⟩ (
        .q ⟨some 117,.bin .sub (.tmp 116) (.const (.int .i64 1)),none⟩ (
        .q ⟨some 118,.mov (.tmp 0),none⟩ (
        .q ⟨some 119,.mov (.tmp 17),none⟩ (
        .q ⟨some 120,.bin .sub (.tmp 119) (.const (.int .i64 1)),none⟩ (
        .q ⟨some 121,.iadr (.tmp 118) (.tmp 120) k,none⟩ (
        .q ⟨some 122,.loadN k (.tmp 121),none⟩ (
        .q ⟨some 123,.mov (.tmp 0),none⟩ (
        .q ⟨some 124,.mov (.tmp 17),none⟩ (
        .q ⟨some 125,.iadr (.tmp 123) (.tmp 124) k,none⟩ (
        .q ⟨some 126,.loadN k (.tmp 125),none⟩ (
        .q ⟨some 127,.iadr (.tmp 113) (.tmp 114) k,none⟩ (
        .alt ⟨none,.store k (.tmp 127) (.tmp 122),none⟩ false (
         .q ⟨some 128,.iadr (.tmp 115) (.tmp 117) k,none⟩ (
         .alt ⟨none,.store k (.tmp 128) (.tmp 126),none⟩ false (
          .done) (.noalt))) (.noalt))))))))))))))))))) (
      .region [⟨some 111,.mov (.tmp 17),none⟩,
       ⟨some 112,.bin .sub (.tmp 111) (.const (.int .i64 1)),none⟩,
       ⟨some 17,.mov (.tmp 112),none⟩])))))) (
   .ret))))) (
   .skip))) (
 .seq (.region [⟨some 129,.mov (.tmp 1),none⟩,
  ⟨some 130,.mov (.tmp 3),none⟩,
  ⟨some 131,.bin .add (.tmp 129) (.tmp 130),none⟩,
  ⟨some 132,.conv .u64 (.tmp 131),none⟩,
  ⟨some 133,.bin .shr (.tmp 132) (.const (.int .u64 1)),none⟩,
  ⟨some 134,.conv .i64 (.tmp 133),none⟩,
  ⟨some 18,.mov (.tmp 134),none⟩]) (
 .seq (.region [⟨some 135,.mov (.tmp 18),none⟩,
  ⟨some 136,.mov (.tmp 2),none⟩,
  ⟨some 137,.bin .add (.tmp 135) (.tmp 136),none⟩,
  ⟨some 19,.mov (.tmp 137),none⟩]) (
 .seq (.region [⟨some 20,.mov (.const (.int .i64 0)),none⟩,
  ⟨some 21,.mov (.const (.int .i64 0)),none⟩]) (
 .seq (.seq (.region [⟨some 138,.mov (.tmp 2),none⟩,
  ⟨some 139,.mov (.tmp 18),none⟩,
  ⟨some 140,.bin .gtr (.tmp 138) (.tmp 139),none⟩]) (
  .cond (.tmp 140) (
   .seq (.region [⟨some 141,.mov (.tmp 19),none⟩,
    ⟨some 142,.mov (.tmp 3),none⟩,
    ⟨some 143,.bin .sub (.tmp 141) (.tmp 142),none⟩,
    ⟨some 20,.mov (.tmp 143),none⟩]) (
   .region [⟨some 144,.mov (.tmp 18),none⟩,
    ⟨some 21,.mov (.tmp 144),none⟩])) (
   .seq (.region [⟨some 145,.mov (.tmp 1),none⟩,
    ⟨some 20,.mov (.tmp 145),none⟩]) (
   .region [⟨some 146,.mov (.tmp 2),none⟩,
    ⟨some 21,.mov (.tmp 146),none⟩])))) (
 .seq (.region [⟨some 147,.mov (.tmp 19),none⟩,
  ⟨some 148,.bin .sub (.tmp 147) (.const (.int .i64 1)),none⟩,
  ⟨some 22,.mov (.tmp 148),none⟩]) (
 .seq (.block 8 (
  .loop (
   .seq (.seq (.region [⟨some 149,.mov (.tmp 20),none⟩,
    ⟨some 150,.mov (.tmp 21),none⟩,
    ⟨some 151,.bin .lss (.tmp 149) (.tmp 150),none⟩]) (
    .cond (.tmp 151) (
     .skip) (
     .exit 8))) (
   .block 9 (
    .seq (.region [⟨some 152,.mov (.tmp 20),none⟩,
     ⟨some 153,.mov (.tmp 21),none⟩,
     ⟨some 154,.bin .add (.tmp 152) (.tmp 153),none⟩,
     ⟨some 155,.conv .u64 (.tmp 154),none⟩,
     ⟨some 156,.bin .shr (.tmp 155) (.const (.int .u64 1)),none⟩,
     ⟨some 157,.conv .i64 (.tmp 156),none⟩,
     ⟨some 23,.mov (.tmp 157),none⟩]) (
    .seq (.draw (
     .q ⟨some 158,.mov (.tmp 4),none⟩ (
     .q ⟨some 159,.mov (.tmp 0),none⟩ (
     .q ⟨some 160,.mov (.tmp 22),none⟩ (
     .q ⟨some 161,.mov (.tmp 23),none⟩ (
     .q ⟨some 162,.bin .sub (.tmp 160) (.tmp 161),none⟩ (
     .q ⟨some 163,.iadr (.tmp 159) (.tmp 162) k,none⟩ (
     .q ⟨some 164,.loadN k (.tmp 163),none⟩ (
     .q ⟨some 165,.mov (.tmp 0),none⟩ (
     .q ⟨some 166,.mov (.tmp 23),none⟩ (
     .q ⟨some 167,.iadr (.tmp 165) (.tmp 166) k,none⟩ (
     .q ⟨some 168,.loadN k (.tmp 167),none⟩ (
     .alt ⟨some 169,.call (.tmp 158) [(.tmp 164),(.tmp 168)],none⟩ false (
      .q ⟨some 170,.bin .lss (.tmp 169) (.const (.int .i64 0)),none⟩ (
      .q ⟨some 171,.un .not (.tmp 170),none⟩ (
      .done))) (.noalt)))))))))))))) (
    .cond (.tmp 171) (
     .region [⟨some 172,.mov (.tmp 23),none⟩,
      ⟨some 173,.bin .add (.tmp 172) (.const (.int .i64 1)),none⟩,
      ⟨some 20,.mov (.tmp 173),none⟩]) (
     .region [⟨some 174,.mov (.tmp 23),none⟩,
      ⟨some 21,.mov (.tmp 174),none⟩])))))))) (
 .seq (.region [⟨some 175,.mov (.tmp 19),none⟩,
  ⟨some 176,.mov (.tmp 20),none⟩,
  ⟨some 177,.bin .sub (.tmp 175) (.tmp 176),none⟩,
  ⟨some 24,.mov (.tmp 177),none⟩]) (
 .seq (.seq (.region [⟨some 178,.mov (.tmp 20),none⟩,
  ⟨some 179,.mov (.tmp 2),none⟩,
  ⟨some 180,.bin .lss (.tmp 178) (.tmp 179),none⟩,
  ⟨some 181,.mov (.tmp 180),none⟩,
  ⟨some 182,.mov (.tmp 2),some (181,true)⟩,
  ⟨some 183,.mov (.tmp 24),some (181,true)⟩,
  ⟨some 184,.bin .lss (.tmp 182) (.tmp 183),some (181,true)⟩,
  ⟨some 185,.pick (.tmp 181) (.tmp 184) (.const (.bool false)),none⟩]) (
  .cond (.tmp 185) (
   .region [⟨some 186,.mov (.tmp 0),none⟩,
    ⟨some 187,.mov (.tmp 20),none⟩,
    ⟨some 188,.mov (.tmp 2),none⟩,
    ⟨some 189,.mov (.tmp 24),none⟩,
    ⟨some 190,.mov (.tmp 4),none⟩,
    ⟨some 191,.call (.func fr) [(.tmp 186),(.tmp 187),(.tmp 188),(.tmp 189),(.tmp 190)],none⟩]) (
   .skip))) (
 .seq (.seq (.region [⟨some 192,.mov (.tmp 1),none⟩,
  ⟨some 193,.mov (.tmp 20),none⟩,
  ⟨some 194,.bin .lss (.tmp 192) (.tmp 193),none⟩,
  ⟨some 195,.mov (.tmp 194),none⟩,
  ⟨some 196,.mov (.tmp 20),some (195,true)⟩,
  ⟨some 197,.mov (.tmp 18),some (195,true)⟩,
  ⟨some 198,.bin .lss (.tmp 196) (.tmp 197),some (195,true)⟩,
  ⟨some 199,.pick (.tmp 195) (.tmp 198) (.const (.bool false)),none⟩]) (
  .cond (.tmp 199) (
   .region [⟨some 200,.mov (.tmp 0),none⟩,
    ⟨some 201,.mov (.tmp 1),none⟩,
    ⟨some 202,.mov (.tmp 20),none⟩,
    ⟨some 203,.mov (.tmp 18),none⟩,
    ⟨some 204,.mov (.tmp 4),none⟩,
    ⟨some 205,.call (.func fs) [(.tmp 200),(.tmp 201),(.tmp 202),(.tmp 203),(.tmp 204)],none⟩]) (
   .skip))) (
 .seq (.region [⟨some 206,.mov (.tmp 18),none⟩,
  ⟨some 207,.mov (.tmp 24),none⟩,
  ⟨some 208,.bin .lss (.tmp 206) (.tmp 207),none⟩,
  ⟨some 209,.mov (.tmp 208),none⟩,
  ⟨some 210,.mov (.tmp 24),some (209,true)⟩,
  ⟨some 211,.mov (.tmp 3),some (209,true)⟩,
  ⟨some 212,.bin .lss (.tmp 210) (.tmp 211),some (209,true)⟩,
  ⟨some 213,.pick (.tmp 209) (.tmp 212) (.const (.bool false)),none⟩]) (
 .cond (.tmp 213) (
  .region [⟨some 214,.mov (.tmp 0),none⟩,
   ⟨some 215,.mov (.tmp 18),none⟩,
   ⟨some 216,.mov (.tmp 24),none⟩,
   ⟨some 217,.mov (.tmp 3),none⟩,
   ⟨some 218,.mov (.tmp 4),none⟩,
   ⟨some 219,.call (.func fs) [(.tmp 214),(.tmp 215),(.tmp 216),(.tmp 217),(.tmp 218)],none⟩]) (
  .skip)))))))))))))
theorem Zf.re{ty b:Nat}{L L' sp:List α}{fz:Nat × Nat}{n c:Nat}(hz:uQ fz (cells (L++sp)).length)(hl:L'.length=L.length)(hn:n=L.length)(hc:c=L.length+sp.length):
 Zf ty (.slice (some ⟨b,0,none⟩) n c) L' [(b,.cells (cells (L'++sp)).toArray ty fz)]:=by
 subst hn hc;rw[←hl];refine .row ?_;rw[zJ,List.length_append,hl, ←List.length_append, ←zJ]; exact hz
theorem eX{β:Type}(U V W:List β)(x y:β):((U++x::(V++y::W)).set U.length y).set (U.length+1+V.length) x=U++y::(V++x::W):=by
 rw[List.set_append_right _ _ (by omega),Nat.sub_self,List.set_cons_zero,List.set_append_right _ _ (by omega)];rw[show U.length+1+V.length-U.length=V.length+1 from by omega,List.set_cons_succ,List.set_append_right _ _ (by omega),Nat.sub_self,List.set_cons_zero]
theorem Uq{f k ty:Nat}(hf:Z6 P f 38 #[] (jr k))(hk:Enc.k α=k){v cv:Value}{p A M B q:List α}{H:List Chunk}(hL:Zf ty v (p++A++M++B++q) H)(hlen:(p++A++M++B++q).length<2 ^ 40)
 (hab:A.length=B.length) {a b n:Int} (ha:a=p.length) (hb:b=p.length+A.length+M.length) (hn:n=A.length):
 Tri P f #[v,.int .i64 a,.int .i64 b,.int .i64 n,cv] [H] (fun r S=>r= .tuple #[]∧∃H',Zf ty v (p++B++M++A++q) H'∧S=[H']):=by
 subst ha hb hn;refine Tri.forget (zn hf (Nat.le_of_ble_eq_true rfl) ?_);unfold jr;have hN:(p++A++M++B++q).length=p.length+A.length+M.length+B.length+q.length:=by simp; omega
 generalize hNN:(p++A++M++B++q).length=N at*
 obtain⟨a0,c0,hv⟩:=hL.isSlice;rw[hNN] at hv;subst hv;refine ze (z8 (yp pC (zf (za (zo ?_)))));refine Z4 (σ:=Nat) (fun i E S=>Has E [(0,.slice a0 N c0),(1,.int .i64 p.length),(2,.int .i64 (p.length+A.length+M.length:Int)),(3,.int .i64 A.length),(10,.int .i64 i)]∧i≤A.length∧∃H',Zf ty (.slice a0 N c0) (p++(B.take i++A.drop i)++M++(A.take i++B.drop i)++q) H'∧zG S [H']) (fun i=>A.length-i) 0 ⟨⟨rfl,rfl,rfl,rfl,rfl,trivial⟩,Nat.zero_le _,H,by simpa using hL,.self⟩ fun i E S ⟨hE,hi,H1,hL1,hJ⟩=>?_
 obtain⟨E0,e0⟩:=zl hE; subst e0; clear hE;refine zm hJ (ze (ze (z8 (yp (pI rfl) (yp (pI rfl) (yp (ZL rfl rfl) (zf (za ?_))))))));refine zO rfl (fun h=>?_) (fun h=>?_)
 ·have hA:i<A.length:=by omega
  have hB:i<B.length:=by omega
  obtain⟨bb,sp,fz,hz,rfl,hN2,hc0,rfl⟩:=hL1.at' (by intro h; have:=congrArg List.length h; simp at this; omega);have hAd:A.drop i=A[i]::A.drop (i+1):=List.drop_eq_getElem_cons hA;have hBd:B.drop i=B[i]::B.drop (i+1):=List.drop_eq_getElem_cons hB;have hAt:A.take (i+1)=A.take i++[A[i]]:=by rw[List.take_add_one,List.getElem?_eq_getElem hA]; rfl
  have hBt:B.take (i+1)=B.take i++[B[i]]:=by rw[List.take_add_one,List.getElem?_eq_getElem hB]; rfl
  generalize A[i]=x at hAd hAt;generalize B[i]=y at hBd hBt;have hsh:p++(B.take i++A.drop i)++M++(A.take i++B.drop i)++q=(p++B.take i)++x::((A.drop (i+1)++M++A.take i)++y::(B.drop (i+1)++q)):=by
   rw[hAd,hBd]; simp
  have hsh2:p++(B.take (i+1)++A.drop (i+1))++M++(A.take (i+1)++B.drop (i+1))++q=(p++B.take i)++y::((A.drop (i+1)++M++A.take i)++x::(B.drop (i+1)++q)):=by
   rw[hAt,hBt]; simp
  have hu:(p++B.take i).length=p.length+i:=by simp; omega
  have hw:(A.drop (i+1)++M++A.take i).length=A.length+M.length-1:=by simp; omega
  have hl2:(p++(B.take (i+1)++A.drop (i+1))++M++(A.take (i+1)++B.drop (i+1))++q).length=(p++(B.take i++A.drop i)++M++(A.take i++B.drop i)++q).length:=by
   rw[hsh2,hsh]; simp
  generalize p++(B.take i++A.drop i)++M++(A.take i++B.drop i)++q=LL at*
  generalize hh:p++(B.take (i+1)++A.drop (i+1))++M++(A.take (i+1)++B.drop (i+1))++q=LL2 at*
  have hx1:LL[p.length+i]?=some x:=by
   rw[hsh, ←hu,List.getElem?_append_right (by omega)]; simp
  have hy1:LL[p.length+A.length+M.length+i]?=some y:=by
   rw[hsh,List.getElem?_append_right (by omega),hu];rw[show p.length+A.length+M.length+i-(p.length+i)=(A.length+M.length-1)+1 from by omega,List.getElem?_cons_succ, ←hw,List.getElem?_append_right (by omega)]; simp
  refine zq (za (ze (zo (zY (zi (pS rfl) (zi (pI rfl) (zi (pI rfl) (zi (Zi rfl rfl (by omega)) (zi (pS rfl) (zi (pI rfl) (zi (pI rfl) (zi (Zi rfl rfl (by omega)) (zi (pS rfl) (zi (pI rfl) (zi (pI rfl) (zi (Zi rfl rfl (by omega)) (zi (zN rfl rfl (by omega)) (VA (l:=enc y) rfl (ZE hy1 hk) (by rw[Enc.len,hk]) (zi (pS rfl) (zi (pI rfl) (zi (pI rfl) (zi (Zi rfl rfl (by omega)) (zi (zN rfl rfl (by omega)) (VA (l:=enc x) rfl (ZE hx1 hk) (by rw[Enc.len,hk]) (zi (zN rfl rfl (by omega)) ?_)))))))))))))))))))))))));have hb1:p.length+i<(LL++sp).length:=by rw[List.length_append]; omega
  have hb2:p.length+A.length+M.length+i<(LL++sp).length:=by rw[List.length_append]; omega
  refine zH (Z7 (y:=y) rfl hb1 hk rfl hz ?_) zM;refine zi (zN rfl rfl (by omega)) ?_;refine zH (Z7 (y:=x) rfl (by rw[List.length_set]; exact hb2) hk rfl (by rw[zJ,List.length_set, ←zJ]; exact hz) ?_) zM;refine zD (zT (za (z8 (yp (pI rfl) (yp (Za rfl rfl (by omega)) (yp (pI rfl) (zf (za ?_))))))));have hsw:((LL++sp).set (p.length+i) y).set (p.length+A.length+M.length+i) x=LL2++sp:=by
   have:=eX (p++B.take i) (A.drop (i+1)++M++A.take i) (B.drop (i+1)++q++sp) x y;rw[hu,hw,show p.length+i+1+(A.length+M.length-1)=p.length+A.length+M.length+i from by omega] at this;rw[hsh,hsh2];simp at this ⊢;exact this
  rw[hsw];exact⟨i+1,⟨⟨rfl,rfl,rfl,rfl,rfl,trivial⟩,by omega,[(bb,.cells (cells (LL2++sp)).toArray ty fz)],by rw[hh]; exact Zf.re hz hl2 hN2 hc0,.of⟩,by omega⟩
 ·refine zV (zy (zy (zW ?_)));have:i=A.length:=by omega
  subst this;rw[List.take_of_length_le (by omega),List.take_of_length_le (by omega),List.drop_eq_nil_of_le (by omega),List.drop_eq_nil_of_le (by omega),List.append_nil,List.append_nil] at hL1;exact ZF ZG ⟨_,.of,rfl,_,hL1,rfl⟩
theorem rotate{f fs k ty:Nat}(hf:Z6 P f 58 #[] (ny fs))(hs:Z6 P fs 38 #[] (jr k))(hk:Enc.k α=k){cf:Nat}{v:Value}{p X Y q:List α}{H:List Chunk}(hL:Zf ty v (p++X++Y++q) H)(hlen:(p++X++Y++q).length<2 ^ 40)
 (hx:0<X.length) (hy:0<Y.length) {a m b:Int} (ha:a=p.length) (hm:m=p.length+X.length) (hb:b=p.length+X.length+Y.length):
 Tri P f #[v,.int .i64 a,.int .i64 m,.int .i64 b,.func (.func cf) #[] #[]] [H] (fun r S=>r= .tuple #[]∧∃H',Zf ty v (p++Y++X++q) H'∧S=[H']):=by
 subst ha hm hb;refine Tri.forget (zn hf (Nat.le_of_ble_eq_true rfl) ?_);unfold ny;have hN:(p++X++Y++q).length=p.length+X.length+Y.length+q.length:=by simp; omega
 generalize hNN:(p++X++Y++q).length=N at*
 obtain⟨a0,c0,hv⟩:=hL.isSlice;rw[hNN] at hv;subst hv;refine ze (z8 (yp (pI rfl) (yp (pI rfl) (yp (Zt rfl rfl (by omega)) (yp (pI rfl) (zf (za (ze (z8 (yp (pI rfl) (yp (pI rfl) (yp (Zt rfl rfl (by omega)) (yp (pI rfl) (zf (za (ze (zo ?_)))))))))))))))));refine Z4 (σ:=List α × List α × List α × List α) (fun s E S=>Has E [(0,.slice a0 N c0),(2,.int .i64 (p.length+X.length:Int)),(4,.func (.func cf) #[] #[]),(10,.int .i64 s.2.1.length),(11,.int .i64 s.2.2.1.length)]∧Y++X=s.1++s.2.2.1++s.2.1++s.2.2.2∧s.1.length+s.2.1.length=X.length∧0<s.2.1.length∧0<s.2.2.1.length∧∃H',Zf ty (.slice a0 N c0) (p++s.1++s.2.1++s.2.2.1++s.2.2.2++q) H'∧zG S [H']) (fun s=>s.2.1.length+s.2.2.1.length) ([],X,Y,[]) ⟨⟨rfl,rfl,rfl,?_,?_,trivial⟩,by simp,by simp,hx,hy,H,by simpa using hL,.self⟩ fun s E S ⟨hE,hYX,hDm,hX0,hY0,H1,hL1,hJ⟩=>?_
 ·show Value.int .i64 ((p.length:Int)+X.length-p.length)= .int .i64 (X.length:Int);congr 1; omega
 ·show Value.int .i64 ((p.length:Int)+X.length+Y.length-(p.length+X.length))= .int .i64 (Y.length:Int);congr 1; omega
 obtain⟨D,X',Y',Z⟩:=s;simp only at hE hYX hDm hX0 hY0 hL1;have hll:=congrArg List.length hYX;simp only[List.length_append] at hll;obtain⟨E0,e0⟩:=zl hE; subst e0; clear hE;refine zm hJ (ze (ze (z8 (yp (pI rfl) (yp (pI rfl) (yp (UF rfl rfl) (zf (za ?_))))))));refine wE rfl (fun h=>?_) (fun h=>?_)
 ·refine zq (za (zo (ze (z8 (yp (pI rfl) (yp (pI rfl) (yp (VE rfl rfl) (zf (za ?_)))))))));refine zO rfl (fun h2=>?_) (fun h2=>?_)
  ·refine ze (z8 (yp (pS rfl) (yp (pI rfl) (yp (pI rfl) (yp (Zt rfl rfl (by omega)) (yp (pI rfl) (yp (pI rfl) (yp (pF rfl) ?_))))))));have e1:p++D++X'++Y'++Z++q=(p++D)++X'.take Y'.length++X'.drop Y'.length++Y'++(Z++q):=by
    conv=>lhs; rw[←List.take_append_drop Y'.length X']
    simp only[List.append_assoc]
   rw[e1] at hL1;have hle:(p++D++X'.take Y'.length++X'.drop Y'.length++Y'++(Z++q)).length<2 ^ 40:=by rw[←e1]; simp only[List.length_append]; omega
   refine zh (zk (Uq hs hk hL1 hle (by simp; omega) (a:=(p.length:Int)+X.length-X'.length) (b:=(p.length:Int)+X.length) (n:=(Y'.length:Int)) (by simp; omega) (by simp; omega) (by simp; omega)) rfl rfl fun r S' h=>?_);obtain⟨rfl,H2,hL2,rfl⟩:=h;refine zf (za (z8 (yp (pI rfl) (yp (pI rfl) (yp (Zt rfl rfl (by omega)) (yp (pI rfl) (zf (zT (za ?_)))))))));refine⟨(D++Y',X'.drop Y'.length,X'.take Y'.length,Z),⟨⟨rfl,rfl,rfl,?_,?_,trivial⟩,?_,?_,?_,?_,H2,?_,.of⟩,?_⟩
   ·show Value.int .i64 ((X'.length:Int)-Y'.length)= .int .i64 ((X'.drop Y'.length).length:Int);congr 1; simp; omega
   ·show Value.int .i64 (Y'.length:Int)= .int .i64 ((X'.take Y'.length).length:Int);congr 1; simp; omega
   ·rw[hYX]
    conv=>lhs; rw[←List.take_append_drop Y'.length X']
    simp only[List.append_assoc]
   ·simp; omega
   ·simp; omega
   ·simp; omega
   ·simpa only[List.append_assoc] using hL2
   ·simp; omega
  ·refine ze (z8 (yp (pS rfl) (yp (pI rfl) (yp (pI rfl) (yp (Zt rfl rfl (by omega)) (yp (pI rfl) (yp (pI rfl) (yp (Zi rfl rfl (by omega)) (yp (pI rfl) (yp (Zt rfl rfl (by omega)) (yp (pI rfl) (yp (pF rfl) ?_))))))))))));have e1:p++D++X'++Y'++Z++q=(p++D)++X'++Y'.take (Y'.length-X'.length)++Y'.drop (Y'.length-X'.length)++(Z++q):=by
    conv=>lhs; rw[←List.take_append_drop (Y'.length-X'.length) Y']
    simp only[List.append_assoc]
   rw[e1] at hL1;have hle:(p++D++X'++Y'.take (Y'.length-X'.length)++Y'.drop (Y'.length-X'.length)++(Z++q)).length<2 ^ 40:=by rw[←e1]; simp only[List.length_append]; omega
   refine zh (zk (Uq hs hk hL1 hle (by simp; omega) (a:=(p.length:Int)+X.length-X'.length) (b:=(p.length:Int)+X.length+Y'.length-X'.length) (n:=(X'.length:Int)) (by simp; omega) (by simp; omega) (by simp)) rfl rfl fun r S' h=>?_);obtain⟨rfl,H2,hL2,rfl⟩:=h;refine zf (za (z8 (yp (pI rfl) (yp (pI rfl) (yp (Zt rfl rfl (by omega)) (yp (pI rfl) (zf (zT (za ?_)))))))));refine⟨(D,Y'.drop (Y'.length-X'.length),Y'.take (Y'.length-X'.length),X'++Z),⟨⟨rfl,rfl,rfl,?_,?_,trivial⟩,?_,?_,?_,?_,H2,?_,.of⟩,?_⟩
   ·show Value.int .i64 (X'.length:Int)= .int .i64 ((Y'.drop (Y'.length-X'.length)).length:Int);congr 1; simp; omega
   ·show Value.int .i64 ((Y'.length:Int)-X'.length)= .int .i64 ((Y'.take (Y'.length-X'.length)).length:Int);congr 1; simp; omega
   ·rw[hYX]
    conv=>lhs; rw[←List.take_append_drop (Y'.length-X'.length) Y']
    simp only[List.append_assoc]
   ·simp; omega
   ·simp; omega
   ·simp; omega
   ·simpa only[List.append_assoc] using hL2
   ·simp; omega
 ·refine zV (zy (zy (zW (za (z8 (yp (pS rfl) (yp (pI rfl) (yp (pI rfl) (yp (Zt rfl rfl (by omega)) (yp (pI rfl) (yp (pI rfl) (yp (pF rfl) ?_))))))))))));have e1:p++D++X'++Y'++Z++q=(p++D)++X'++[]++Y'++(Z++q):=by simp only[List.append_assoc,List.nil_append]
  rw[e1] at hL1;have hle:(p++D++X'++[]++Y'++(Z++q)).length<2 ^ 40:=by rw[←e1]; simp only[List.length_append]; omega
  refine zh (zk (Uq hs hk hL1 hle (by omega) (a:=(p.length:Int)+X.length-X'.length) (b:=(p.length:Int)+X.length) (n:=(X'.length:Int)) (by simp; omega) (by simp; omega) rfl) rfl rfl fun r S' h=>?_);obtain⟨rfl,H2,hL2,rfl⟩:=h;refine zf ?_;refine ZF ZG ⟨_,.of,rfl,H2,?_,rfl⟩;have e2:p++Y++X++q=p++D++Y'++[]++X'++(Z++q):=by
   rw[List.append_assoc p Y X,hYX];simp only[List.append_assoc,List.nil_append]
  rw[e2]; exact hL2
end Go.Xs
namespace Go.Xs
open Enc (enc)
variable {P:Program} {α:Type} [Enc α] {S:zB}
def Sorted{β:Type}(key:β→Int)(L:List β):Prop:=L.Pairwise (fun a b=>key a≤key b)
theorem Sorted.Xy{β:Type}{key:β→Int}{Y:List β}(h:Sorted key Y){t:Nat}{w:β}(hw:Y[t]?=some w):∀e∈Y.take (t+1),key e≤key w:=by
 obtain⟨ht,rfl⟩:=List.getElem?_eq_some_iff.1 hw;intro e he;obtain⟨i,hi,rfl⟩:=List.mem_iff_getElem.1 he;simp only[List.length_take] at hi;rw[List.getElem_take];rcases Nat.lt_or_ge i t with h1 | h1
 ·exact List.pairwise_iff_getElem.1 h i t (by omega) ht h1
 ·have:i=t:=by omega
  subst this; exact Int.le_refl _
theorem Sorted.XI{β:Type}{key:β→Int}{Y:List β}(h:Sorted key Y){t:Nat}{w:β}(hw:Y[t]?=some w):∀e∈Y.drop t,key w≤key e:=by
 obtain⟨ht,rfl⟩:=List.getElem?_eq_some_iff.1 hw;intro e he;obtain⟨i,hi,rfl⟩:=List.mem_iff_getElem.1 he;simp only[List.length_drop] at hi;rw[List.getElem_drop];rcases Nat.eq_zero_or_pos i with h1 | h1
 ·subst h1; exact Int.le_refl _
 ·exact List.pairwise_iff_getElem.1 h t (t+i) ht (by omega) (by omega)
theorem Sorted.SS{β:Type}{key:β→Int}{Y:List β}(h:Sorted key Y):SS key Y Y:=⟨h,fun _=>rfl⟩
theorem Uy{β:Type}{key:β→Int}{k:Int}{L:List β}(h:∀e∈L,key e≠k):keyed key k L=[]:=by
 rw[keyed,List.filter_eq_nil_iff];intro e he;simpa using h e he
theorem SS.left{β:Type}{key:β→Int}{x:β}{A B:List β}(hp:Sorted key (A++B))(h1:∀e∈A,key e<key x)(h2:∀e∈B,key x≤key e):SS key (x::(A++B)) (A++x::B):=by
 obtain⟨p1,p2,p3⟩:=List.pairwise_append.1 hp;refine⟨List.pairwise_append.2 ⟨p1,List.pairwise_cons.2 ⟨h2,p2⟩,fun a ha b hb=>?_⟩,fun k=>?_⟩
 ·rcases List.mem_cons.1 hb with rfl | hb
  ·exact Int.le_of_lt (h1 a ha)
  ·exact p3 a ha b hb
 ·by_cases hx:key x=k
  ·have:keyed key k A=[]:=Uy fun e he=>by have:=h1 e he; omega
   simp only[keyed] at this;simp[keyed,List.filter_append,this,List.filter_cons]
  ·simp[keyed,List.filter_append,hx]
theorem SS.join{β:Type}{key:β→Int}{X1 X2 Y1 Y2 Z1 Z2:List β}(z1:SS key (X1++Y1) Z1)(z2:SS key (X2++Y2) Z2)(hX:Sorted key (X1++X2))(hY:Sorted key (Y1++Y2))
 (h1:∀a∈Y1,∀b∈X2,key a<key b) (h2:∀a∈X1,∀b∈Y2,key a≤key b):SS key ((X1++X2)++(Y1++Y2)) (Z1++Z2):=by
 obtain⟨_,_,hx⟩:=List.pairwise_append.1 hX;obtain⟨_,_,hy⟩:=List.pairwise_append.1 hY;refine⟨List.pairwise_append.2 ⟨z1.1,z2.1,fun a ha b hb=>?_⟩,fun k=>?_⟩
 ·have ha':=(z1.mem a).1 ha;have hb':=(z2.mem b).1 hb;rcases List.mem_append.1 ha' with ha' | ha'<;>rcases List.mem_append.1 hb' with hb' | hb'
  ·exact hx a ha' b hb'
  ·exact h2 a ha' b hb'
  ·exact Int.le_of_lt (h1 a ha' b hb')
  ·exact hy a ha' b hb'
 ·have e1:=z1.2 k;have e2:=z2.2 k;simp only[keyed,List.filter_append] at e1 e2 ⊢;rw[e1,e2];by_cases hk:∃a∈Y1,key a=k
  ·obtain⟨a,ha,hak⟩:=hk;have:keyed key k X2=[]:=Uy fun e he=>by have:=h1 a ha e he; omega
   simp only[keyed] at this;simp[this]
  ·have:keyed key k Y1=[]:=Uy fun e he h=>hk ⟨e,he,h⟩
   simp only[keyed] at this;simp[this]
end Go.Xs
namespace Go.Xs
open Enc (enc)
variable {P:Program} {α:Type} [Enc α] {S:zB}
theorem Yv{β:Type}{Y:List β}{t:Nat}{w:β}(hw:Y[t]?=some w):Y.take (t+1)=Y.take t++[w]:=by
 rw[List.take_add_one,hw]; rfl
theorem ko{β:Type}{Y:List β}{t:Nat}{w:β}(hw:Y[t]?=some w):Y.drop t=w::Y.drop (t+1):=by
 obtain⟨ht,rfl⟩:=List.getElem?_eq_some_iff.1 hw;exact List.drop_eq_getElem_cons ht
theorem KW{β:Type}{U V:List β}{w:β}{n:Nat}(hn:n=U.length):(U++w::V)[n]?=some w:=by
 subst hn;rw[List.getElem?_append_right (Nat.le_refl _)]; simp
theorem eT{f fr fs k ty:Nat}(hf:Z6 P f 220 #[] (JD k fr fs))(hk:Enc.k α=k)(key:α→Int){cf:Nat}
 (hc:∀a b:α,Tri P cf #[.agg (enc a).toArray,.agg (enc b).toArray] [] (fun r S=>(∃z,r= .int .i64 z∧(z<0↔key a<key b))∧S=[]))
 {v:Value} {p Y q:List α} {x:α} {H:List Chunk} (hL:Zf ty v (p++x::Y++q) H) (hlen:(p++x::Y++q).length<2 ^ 40) (hY:Sorted key Y)
 {a m b:Int} (ha:a=(p.length:Nat)) (hm:m=(p.length+1:Nat)) (hb:b=(p.length+1+Y.length:Nat)):
 Tri P f #[v,.int .i64 a,.int .i64 m,.int .i64 b,.func (.func cf) #[] #[]] [H] (fun r S=>r= .tuple #[]∧∃Z H',SS key (x::Y) Z∧Z.length=1+Y.length∧Zf ty v (p++Z++q) H'∧S=[H']):=by
 subst ha hm hb;refine Tri.forget (zn hf (Nat.le_of_ble_eq_true rfl) ?_);unfold JD;have hN:(p++x::Y++q).length=p.length+1+Y.length+q.length:=by simp; omega
 obtain⟨bb,sp,fz,hz,hv⟩:∃(bb:Nat) (sp:List α) (fz:Nat × Nat),uQ fz (cells (p++x::Y++q++sp)).length∧v= .slice (some ⟨bb,0,none⟩) (p++x::Y++q).length ((p++x::Y++q).length+sp.length)∧H=[(bb,.cells (cells (p++x::Y++q++sp)).toArray ty fz)]:=by
  rcases hL.inv with⟨_,h,_⟩ | ⟨b,sp,fz,hz,h1,h2⟩
  ·simp at h
  ·exact⟨b,sp,fz,hz,h1,h2⟩
 obtain⟨rfl,rfl⟩:=hv;generalize hNN:(p++x::Y++q).length=N at hlen hN;generalize hc0:N+sp.length=c0;have hx0:(p++x::Y++q)[p.length]?=some x:=by rw[List.append_assoc,List.cons_append]; exact KW rfl
 have hyt:∀t w,Y[t]?=some w→(p++x::Y++q)[p.length+1+t]?=some w:=by
  intro t w h;obtain⟨ht,_⟩:=List.getElem?_eq_some_iff.1 h;rw[List.append_assoc,List.getElem?_append_right (by omega),show p.length+1+t-p.length=t+1 from by omega,List.cons_append,List.getElem?_cons_succ,List.getElem?_append_left ht,h]
 refine ze (ze (z8 (yp (pI rfl) (yp (pI rfl) (yp (Zt rfl rfl (by omega)) (yp (WB rfl rfl) (zf (za ?_))))))));refine zO rfl (fun h=>?_) (fun h=>by omega);refine ze (z8 (yp (pI rfl) (yp (pI rfl) (zf (za (ze (z8 (yp (pI rfl) (yp (pI rfl) (zf (za (ze (zo ?_)))))))))))));refine Z4 (σ:=Nat × Nat) (fun s E S=>Has E [(0,.slice (some ⟨bb,0,none⟩) N c0),(1,.int .i64 (p.length:Nat)),(4,.func (.func cf) #[] #[]),(10,.int .i64 (p.length+1+s.1:Nat)),(11,.int .i64 (p.length+1+s.2:Nat))]∧s.1≤s.2∧s.2≤Y.length∧(∀e∈Y.take s.1,key e<key x)∧(∀e∈Y.drop s.2,key x≤key e)∧zG S [[(bb,.cells (cells (p++x::Y++q++sp)).toArray ty fz)]]) (fun s=>s.2-s.1) (0,Y.length) ⟨⟨rfl,rfl,rfl,rfl,rfl,trivial⟩,Nat.zero_le _,Nat.le_refl _,by simp,by simp,.self⟩ fun s E S ⟨hE,hi,hj,h1,h2,hJ⟩=>?_
 obtain⟨i,j⟩:=s;simp only at hE hi hj h1 h2;obtain⟨E0,e0⟩:=zl hE; subst e0; clear hE;refine zm hJ (ze (ze (z8 (yp (pI rfl) (yp (pI rfl) (yp (ZL rfl rfl) (zf (za ?_))))))));refine zO rfl (fun h=>?_) (fun h=>?_)
 ·have hij:i<j:=by omega
  refine zq (za (zo (ze (z8 (yp (pI rfl) (yp (pI rfl) (yp (Zi rfl rfl (by omega)) (yp (Xp rfl (by omega)) (yp (QC rfl) (yp (JY rfl (by omega)) ?_))))))))));rw[show(p.length+1+i+(p.length+1+j))/2=p.length+1+(i+j)/2 from by omega];have hh1:i≤(i+j)/2:=by omega
  have hh2:(i+j)/2<j:=by omega
  generalize (i+j)/2=g at hh1 hh2;obtain⟨w,hw⟩:∃w,Y[g]?=some w:=⟨_,List.getElem?_eq_getElem (by omega)⟩
  refine yp (pI rfl) (zf (za (ze (zY (zi (pF rfl) (zi (pS rfl) (zi (pI rfl) (zi (zN rfl rfl (by omega)) (VA (l:=enc w) rfl (ZE (hyt g w hw) hk) (by rw[Enc.len,hk]) (zi (pS rfl) (zi (pI rfl) (zi (zN rfl rfl (by omega)) (VA (l:=enc x) rfl (ZE hx0 hk) (by rw[Enc.len,hk]) ?_)))))))))))))
  skip
  refine zH (zk (hc w x) rfl rfl fun v S' h=>?_) zM;obtain⟨⟨z,rfl,hz2⟩,rfl⟩:=h;refine zi (ZL rfl rfl) (zD (za ?_));refine zO rfl (fun h3=>?_) (fun h3=>?_)
  ·refine z8 (yp (pI rfl) (yp (Za rfl rfl (by omega)) (yp (pI rfl) (zf (zT (za ?_))))));refine⟨(g+1,j),⟨⟨rfl,rfl,rfl,rfl,rfl,trivial⟩,by simp only; omega,hj,?_,h2,.of⟩,by simp only; omega⟩;intro e he;have h5:=hY.Xy hw e he;have h6:=hz2.1 h3;omega
  ·refine z8 (yp (pI rfl) (yp (pI rfl) (zf (zT (za ?_)))));refine⟨(i,g),⟨⟨rfl,rfl,rfl,rfl,rfl,trivial⟩,by simp only; omega,by simp only; omega,h1,?_,.of⟩,by simp only; omega⟩;intro e he;have h5:=hY.XI hw e he;have h6:¬key w<key x:=mt hz2.2 h3;omega
 obtain rfl:i=j:=by omega
 refine zV (zy (zy (zW (za (ze (ze (z8 (yp (pI rfl) (yp (pI rfl) (zf (za (zo ?_))))))))))));refine Z4 (σ:=Nat) (fun t E S=>Has E [(0,.slice (some ⟨bb,0,none⟩) N c0),(10,.int .i64 (p.length+1+i:Nat)),(13,.int .i64 (p.length+t:Nat))]∧t≤i∧zG S [[(bb,.cells (cells (p++(Y.take t++x::Y.drop t)++q++sp)).toArray ty fz)]]) (fun t=>i-t) 0 ⟨⟨rfl,rfl,rfl,trivial⟩,Nat.zero_le _,by simpa using .self⟩ fun t E S ⟨hE,ht,hJ2⟩=>?_
 obtain⟨E0,e0⟩:=zl hE; subst e0; clear hE;refine zm hJ2 (ze (ze (z8 (yp (pI rfl) (yp (pI rfl) (yp (Zq rfl rfl (by omega)) (yp (ZL rfl rfl) (zf (za ?_)))))))));have hlt:(p++(Y.take t++x::Y.drop t)++q).length=N:=by rw[hN]; simp; omega
 refine zO rfl (fun h=>?_) (fun h=>?_)
 ·have hti:t<i:=by omega
  obtain⟨w,hw⟩:∃w,Y[t]?=some w:=⟨_,List.getElem?_eq_getElem (by omega)⟩
  have hd:=ko hw;have hsh:p++(Y.take t++x::Y.drop t)++q=(p++Y.take t)++x::([]++w::(Y.drop (t+1)++q)):=by rw[hd]; simp
  have hsh2:p++(Y.take (t+1)++x::Y.drop (t+1))++q=(p++Y.take t)++w::([]++x::(Y.drop (t+1)++q)):=by rw[Yv hw]; simp
  have hu:(p++Y.take t).length=p.length+t:=by simp; omega
  have hfz:uQ fz (cells (p++(Y.take t++x::Y.drop t)++q++sp)).length:=by
   rw[zJ,List.length_append,hlt, ←hNN, ←List.length_append, ←zJ]; exact hz
  generalize p++(Y.take t++x::Y.drop t)++q=LL at*
  generalize hh:p++(Y.take (t+1)++x::Y.drop (t+1))++q=LL2 at*
  have hx1:LL[p.length+t]?=some x:=by rw[hsh]; exact KW hu.symm
  have hw1:LL[p.length+t+1]?=some w:=by
   rw[hsh,List.getElem?_append_right (by omega),hu,show p.length+t+1-(p.length+t)=0+1 from by omega]; rfl
  refine zq (za (ze (zo (zY (zi (pS rfl) (zi (pI rfl) (zi (pS rfl) (zi (pI rfl) (zi (Za rfl rfl (by omega)) (zi (pS rfl) (zi (pI rfl) (zi (Za rfl rfl (by omega)) (zi (zN rfl rfl (by omega)) (VA (l:=enc w) rfl (ZE hw1 hk) (by rw[Enc.len,hk]) (zi (pS rfl) (zi (pI rfl) (zi (zN rfl rfl (by omega)) (VA (l:=enc x) rfl (ZE hx1 hk) (by rw[Enc.len,hk]) (zi (zN rfl rfl (by omega)) ?_)))))))))))))))))));have hb1:p.length+t<(LL++sp).length:=by rw[List.length_append]; omega
  have hb2:p.length+t+1<(LL++sp).length:=by rw[List.length_append]; omega
  refine zH (Z7 (y:=w) rfl hb1 hk rfl hfz ?_) zM;refine zi (zN rfl rfl (by omega)) ?_;refine zH (Z7 (y:=x) rfl (by rw[List.length_set]; exact hb2) hk rfl (by rw[zJ,List.length_set, ←zJ]; exact hfz) ?_) zM;refine zD (zT (za (z8 (yp (pI rfl) (yp (Za rfl rfl (by omega)) (yp (pI rfl) (zf (za ?_))))))));have hsw:((LL++sp).set (p.length+t) w).set (p.length+t+1) x=LL2++sp:=by
   have:=eX (p++Y.take t) [] (Y.drop (t+1)++q++sp) x w;rw[hu,List.length_nil,Nat.add_zero] at this;rw[hsh,hsh2];simp at this ⊢;exact this
  rw[hsw, ←hh];exact⟨t+1,⟨⟨rfl,rfl,rfl,trivial⟩,by omega,.of⟩,by omega⟩
 ·obtain rfl:t=i:=by omega
  refine zV (zy (zy (zW (za (zL (zX ?_))))));have hl2:(p++(Y.take t++x::Y.drop t)++q).length=(p++x::Y++q).length:=by rw[hlt,hNN]
  have hS:SS key (x::Y) (Y.take t++x::Y.drop t):=by
   have:=SS.left (key:=key) (x:=x) (A:=Y.take t) (B:=Y.drop t) (by rw[List.take_append_drop]; exact hY) h1 h2
   rwa [List.take_append_drop] at this
  exact zK ZG ⟨_,.of,rfl,Y.take t++x::Y.drop t,_,hS,by simp; omega,Zf.re hz hl2 hNN.symm (by rw[hNN]; exact hc0.symm),rfl⟩
theorem aS{f fr fs k ty:Nat}(hf:Z6 P f 220 #[] (JD k fr fs))(hk:Enc.k α=k)(key:α→Int){cf:Nat}
 (hc:∀a b:α,Tri P cf #[.agg (enc a).toArray,.agg (enc b).toArray] [] (fun r S=>(∃z,r= .int .i64 z∧(z<0↔key a<key b))∧S=[]))
 {v:Value} {p X q:List α} {y:α} {H:List Chunk} (hL:Zf ty v (p++X++[y]++q) H) (hlen:(p++X++[y]++q).length<2 ^ 40) (hX:Sorted key X) (hX1:X.length≠1)
 {a m b:Int} (ha:a=(p.length:Nat)) (hm:m=(p.length+X.length:Nat)) (hb:b=(p.length+X.length+1:Nat)):
 Tri P f #[v,.int .i64 a,.int .i64 m,.int .i64 b,.func (.func cf) #[] #[]] [H] (fun r S=>r= .tuple #[]∧∃Z H',SS key (X++[y]) Z∧Z.length=X.length+1∧Zf ty v (p++Z++q) H'∧S=[H']):=by
 subst ha hm hb;refine Tri.forget (zn hf (Nat.le_of_ble_eq_true rfl) ?_);unfold JD;have hN:(p++X++[y]++q).length=p.length+X.length+1+q.length:=by simp; omega
 obtain⟨bb,sp,fz,hz,hv⟩:∃(bb:Nat) (sp:List α) (fz:Nat × Nat),uQ fz (cells (p++X++[y]++q++sp)).length∧v= .slice (some ⟨bb,0,none⟩) (p++X++[y]++q).length ((p++X++[y]++q).length+sp.length)∧H=[(bb,.cells (cells (p++X++[y]++q++sp)).toArray ty fz)]:=by
  rcases hL.inv with⟨_,h,_⟩ | ⟨b,sp,fz,hz,h1,h2⟩
  ·simp at h
  ·exact⟨b,sp,fz,hz,h1,h2⟩
 obtain⟨rfl,rfl⟩:=hv;generalize hNN:(p++X++[y]++q).length=N at hlen hN;generalize hc0:N+sp.length=c0;have hy0:(p++X++[y]++q)[p.length+X.length]?=some y:=by rw[List.append_assoc]; exact KW (by simp)
 have hxt:∀t w,X[t]?=some w→(p++X++[y]++q)[p.length+t]?=some w:=by
  intro t w h;obtain⟨ht,_⟩:=List.getElem?_eq_some_iff.1 h;rw[List.append_assoc,List.append_assoc,List.getElem?_append_right (by omega),show p.length+t-p.length=t from by omega,List.getElem?_append_left ht,h]
 refine ze (ze (z8 (yp (pI rfl) (yp (pI rfl) (yp (Zt rfl rfl (by omega)) (yp (WB rfl rfl) (zf (za ?_))))))));refine zO rfl (fun h=>by omega) (fun _=>?_);refine zq (za (ze (ze (z8 (yp (pI rfl) (yp (pI rfl) (yp (Zt rfl rfl (by omega)) (yp (WB rfl rfl) (zf (za ?_))))))))));refine zO rfl (fun h=>?_) (fun h=>by omega);refine ze (z8 (yp (pI rfl) (yp (pI rfl) (zf (za (ze (z8 (yp (pI rfl) (yp (pI rfl) (zf (za (ze (zo ?_)))))))))))));refine Z4 (σ:=Nat × Nat) (fun s E S=>Has E [(0,.slice (some ⟨bb,0,none⟩) N c0),(2,.int .i64 (p.length+X.length:Nat)),(4,.func (.func cf) #[] #[]),(14,.int .i64 (p.length+s.1:Nat)),(15,.int .i64 (p.length+s.2:Nat))]∧s.1≤s.2∧s.2≤X.length∧(∀e∈X.take s.1,key e≤key y)∧(∀e∈X.drop s.2,key y<key e)∧zG S [[(bb,.cells (cells (p++X++[y]++q++sp)).toArray ty fz)]]) (fun s=>s.2-s.1) (0,X.length) ⟨⟨rfl,rfl,rfl,rfl,rfl,trivial⟩,Nat.zero_le _,Nat.le_refl _,by simp,by simp,.self⟩ fun s E S ⟨hE,hi,hj,h1,h2,hJ⟩=>?_
 obtain⟨i,j⟩:=s;simp only at hE hi hj h1 h2;obtain⟨E0,e0⟩:=zl hE; subst e0; clear hE;refine zm hJ (ze (ze (z8 (yp (pI rfl) (yp (pI rfl) (yp (ZL rfl rfl) (zf (za ?_))))))));refine zO rfl (fun h=>?_) (fun h=>?_)
 ·have hij:i<j:=by omega
  refine zq (za (zo (ze (z8 (yp (pI rfl) (yp (pI rfl) (yp (Zi rfl rfl (by omega)) (yp (Xp rfl (by omega)) (yp (QC rfl) (yp (JY rfl (by omega)) ?_))))))))));rw[show(p.length+i+(p.length+j))/2=p.length+(i+j)/2 from by omega];have hh1:i≤(i+j)/2:=by omega
  have hh2:(i+j)/2<j:=by omega
  generalize (i+j)/2=g at hh1 hh2;obtain⟨w,hw⟩:∃w,X[g]?=some w:=⟨_,List.getElem?_eq_getElem (by omega)⟩
  refine yp (pI rfl) (zf (za (ze (zY (zi (pF rfl) (zi (pS rfl) (zi (pI rfl) (zi (zN rfl rfl (by omega)) (VA (l:=enc y) rfl (ZE hy0 hk) (by rw[Enc.len,hk]) (zi (pS rfl) (zi (pI rfl) (zi (zN rfl rfl (by omega)) (VA (l:=enc w) rfl (ZE (hxt g w hw) hk) (by rw[Enc.len,hk]) ?_)))))))))))))
  skip
  refine zH (zk (hc y w) rfl rfl fun v S' h=>?_) zM;obtain⟨⟨z,rfl,hz2⟩,rfl⟩:=h;refine zi (ZL rfl rfl) (zi (Ze rfl) (zD (za ?_)));by_cases h3:z<0
  ·rw[decide_eq_true h3];refine zw rfl (z8 (yp (pI rfl) (yp (pI rfl) (zf (zT (za ?_))))));refine⟨(i,g),⟨⟨rfl,rfl,rfl,rfl,rfl,trivial⟩,by simp only; omega,by simp only; omega,h1,?_,.of⟩,by simp only; omega⟩;intro e he;have h5:=hX.XI hw e he;have h6:=hz2.1 h3;omega
  ·rw[decide_eq_false h3];refine zI rfl (z8 (yp (pI rfl) (yp (Za rfl rfl (by omega)) (yp (pI rfl) (zf (zT (za ?_)))))));refine⟨(g+1,j),⟨⟨rfl,rfl,rfl,rfl,rfl,trivial⟩,by simp only; omega,hj,?_,h2,.of⟩,by simp only; omega⟩;intro e he;have h5:=hX.Xy hw e he;have h6:¬key y<key w:=mt hz2.2 h3;omega
 obtain rfl:i=j:=by omega
 refine zV (zy (zy (zW (za (ze (ze (z8 (yp (pI rfl) (yp (pI rfl) (zf (za (zo ?_))))))))))));refine Z4 (σ:=Nat) (fun t E S=>Has E [(0,.slice (some ⟨bb,0,none⟩) N c0),(14,.int .i64 (p.length+i:Nat)),(17,.int .i64 (p.length+t:Nat))]∧i≤t∧t≤X.length∧zG S [[(bb,.cells (cells (p++(X.take t++y::X.drop t)++q++sp)).toArray ty fz)]]) (fun t=>t) X.length ⟨⟨rfl,rfl,rfl,trivial⟩,hj,Nat.le_refl _,by simpa using .self⟩ fun t E S ⟨hE,ht,ht2,hJ2⟩=>?_
 obtain⟨E0,e0⟩:=zl hE; subst e0; clear hE;refine zm hJ2 (ze (ze (z8 (yp (pI rfl) (yp (pI rfl) (yp (VE rfl rfl) (zf (za ?_))))))));have hlt:(p++(X.take t++y::X.drop t)++q).length=N:=by rw[hN]; simp; omega
 refine zO rfl (fun h=>?_) (fun h=>?_)
 ·obtain⟨u,rfl⟩:∃u,t=u+1:=⟨t-1,by omega⟩
  obtain⟨w,hw⟩:∃w,X[u]?=some w:=⟨_,List.getElem?_eq_getElem (by omega)⟩
  have hd:=ko hw;have hsh:p++(X.take (u+1)++y::X.drop (u+1))++q=(p++X.take u)++w::([]++y::(X.drop (u+1)++q)):=by rw[Yv hw]; simp
  have hsh2:p++(X.take u++y::X.drop u)++q=(p++X.take u)++y::([]++w::(X.drop (u+1)++q)):=by rw[hd]; simp
  have hu:(p++X.take u).length=p.length+u:=by simp; omega
  have hfz:uQ fz (cells (p++(X.take (u+1)++y::X.drop (u+1))++q++sp)).length:=by
   rw[zJ,List.length_append,hlt, ←hNN, ←List.length_append, ←zJ]; exact hz
  generalize p++(X.take (u+1)++y::X.drop (u+1))++q=LL at*
  generalize hh:p++(X.take u++y::X.drop u)++q=LL2 at*
  have hx1:LL[p.length+u]?=some w:=by rw[hsh]; exact KW hu.symm
  have hw1:LL[p.length+(u+1)]?=some y:=by
   rw[hsh,List.getElem?_append_right (by omega),hu,show p.length+(u+1)-(p.length+u)=0+1 from by omega]; rfl
  refine zq (za (ze (zo (zY (zi (pS rfl) (zi (pI rfl) (zi (pS rfl) (zi (pI rfl) (zi (Zq rfl rfl (by omega)) (zi (pS rfl) (zi (pI rfl) (zi (Zq rfl rfl (by omega)) (zi (zN rfl rfl (by omega)) (VA (l:=enc w) rfl (ZE (by rw[show p.length+(u+1)-1=p.length+u from by omega]; exact hx1) hk) (by rw[Enc.len,hk]) (zi (pS rfl) (zi (pI rfl) (zi (zN rfl rfl (by omega)) (VA (l:=enc y) rfl (ZE hw1 hk) (by rw[Enc.len,hk]) (zi (zN rfl rfl (by omega)) ?_)))))))))))))))))));have hb1:p.length+(u+1)<(LL++sp).length:=by rw[List.length_append]; omega
  have hb2:p.length+(u+1)-1<(LL++sp).length:=by rw[List.length_append]; omega
  refine zH (Z7 (y:=w) rfl hb1 hk rfl hfz ?_) zM;refine zi (zN rfl rfl (by omega)) ?_;refine zH (Z7 (y:=y) rfl (by rw[List.length_set]; exact hb2) hk rfl (by rw[zJ,List.length_set, ←zJ]; exact hfz) ?_) zM;refine zD (zT (za (z8 (yp (pI rfl) (yp (Zq rfl rfl (by omega)) (yp (pI rfl) (zf (za ?_))))))));have hsw:((LL++sp).set (p.length+(u+1)) w).set (p.length+(u+1)-1) y=LL2++sp:=by
   have:=eX (p++X.take u) [] (X.drop (u+1)++q++sp) w y;rw[hu,List.length_nil,Nat.add_zero] at this;rw[show p.length+(u+1)-1=p.length+u from by omega,show p.length+(u+1)=p.length+u+1 from by omega];rw[hsh,hsh2,List.set_comm _ _ (by omega)];simp at this ⊢;exact this
  rw[hsw, ←hh];exact⟨u,⟨⟨rfl,rfl,rfl,trivial⟩,by omega,by omega,.of⟩,by omega⟩
 ·obtain rfl:t=i:=by omega
  refine zV (zy (zy (zW (za (zL (zX ?_))))));have hl2:(p++(X.take t++y::X.drop t)++q).length=(p++X++[y]++q).length:=by rw[hlt,hNN]
  have hS:SS key (X++[y]) (X.take t++y::X.drop t):=by
   refine SS.insert (D:=X) ?_ ?_ h2
   ·rw[List.take_append_drop]; exact hX.SS
   ·intro a ha;exact h1 a (List.mem_of_getLast? ha)
  exact zK ZG ⟨_,.of,rfl,X.take t++y::X.drop t,_,hS,by simp; omega,Zf.re hz hl2 hNN.symm (by rw[hNN]; exact hc0.symm),rfl⟩
end Go.Xs
namespace Go.Xs
open Enc (enc)
variable {P:Program} {α:Type} [Enc α] {S:zB}
theorem Yw{f fr fs k ty:Nat}(hf:Z6 P f 220 #[] (JD k fr f))(hr:Z6 P fr 58 #[] (ny fs))(hsw:Z6 P fs 38 #[] (jr k))(hk:Enc.k α=k)(key:α→Int){cf:Nat}
 (hc:∀a b:α,Tri P cf #[.agg (enc a).toArray,.agg (enc b).toArray] [] (fun r S=>(∃z,r= .int .i64 z∧(z<0↔key a<key b))∧S=[])):
 ∀(s:Nat) {v:Value} {p X Y q:List α} {H:List Chunk} (_hL:Zf ty v (p++X++Y++q) H) (_hlen:(p++X++Y++q).length<2 ^ 40) (_hX:Sorted key X) (_hY:Sorted key Y) (_hx:0<X.length) (_hy:0<Y.length) (_hs:X.length+Y.length≤s)
  {a m b:Int} (_ha:a=(p.length:Nat)) (_hm:m=(p.length+X.length:Nat)) (_hb:b=(p.length+X.length+Y.length:Nat)),
  Tri P f #[v,.int .i64 a,.int .i64 m,.int .i64 b,.func (.func cf) #[] #[]] [H] (fun r S=>r= .tuple #[]∧∃Z H',SS key (X++Y) Z∧Z.length=X.length+Y.length∧Zf ty v (p++Z++q) H'∧S=[H']):=by
 intro s
 induction s with
 | zero=>intro v p X Y q H hL hlen hX hY hx hy hs; omega
 | succ s ih=>
 intro v p X Y q H hL hlen hX hY hx hy hs a m b ha hm hb;by_cases hx1:X.length=1
 ·obtain⟨x,rfl⟩:=List.length_eq_one_iff.1 hx1;have:=eT hf hk key hc (x:=x) (p:=p) (Y:=Y) (q:=q) (by simpa using hL) (by simpa using hlen) hY ha (by simpa using hm) (by simpa using hb);simpa using this
 by_cases hy1:Y.length=1
 ·obtain⟨y,rfl⟩:=List.length_eq_one_iff.1 hy1;exact aS hf hk key hc hL hlen hX hx1 ha hm (by simpa using hb)
 subst ha hm hb;refine Tri.forget (zn hf (Nat.le_of_ble_eq_true rfl) ?_);have hN:(p++X++Y++q).length=p.length+X.length+Y.length+q.length:=by simp; omega
 obtain⟨a0,c0,hv⟩:=hL.isSlice;generalize hNN:(p++X++Y++q).length=N at hlen hN hv;subst hv;unfold JD;refine ze (ze (z8 (yp (pI rfl) (yp (pI rfl) (yp (Zt rfl rfl (by omega)) (yp (WB rfl rfl) (zf (za ?_))))))));refine zO rfl (fun h=>by omega) (fun _=>?_);refine zq (za (ze (ze (z8 (yp (pI rfl) (yp (pI rfl) (yp (Zt rfl rfl (by omega)) (yp (WB rfl rfl) (zf (za ?_))))))))));refine zO rfl (fun h=>by omega) (fun _=>?_);refine zq (za (ze (z8 (yp (pI rfl) (yp (pI rfl) (yp (Zi rfl rfl (by omega)) (yp (Xp rfl (by omega)) (yp (QC rfl) (yp (JY rfl (by omega)) ?_)))))))));obtain⟨c,hcd⟩:∃c,c=(X.length+Y.length)/2:=⟨_,rfl⟩
 rw[show(p.length+(p.length+X.length+Y.length))/2=p.length+c from by omega];refine yp (pI rfl) (zf (za (ze (z8 (yp (pI rfl) (yp (pI rfl) (yp (Zi rfl rfl (by omega)) (yp (pI rfl) (zf (za (ze (z8 (yp pC (yp pC (zf (za ?_))))))))))))))));refine w9 (fun E S=>Has E [(0,.slice a0 N c0),(1,.int .i64 (p.length:Nat)),(2,.int .i64 (p.length+X.length:Nat)),(3,.int .i64 (p.length+X.length+Y.length:Nat)),(4,.func (.func cf) #[] #[]),(18,.int .i64 (p.length+c:Nat)),(19,.int .i64 (p.length+c+(p.length+X.length):Nat)),(20,.int .i64 (p.length+(c-Y.length):Nat)),(21,.int .i64 (p.length+min c X.length:Nat))]∧zG S [H]) ?_ ?_
 ·refine ze (z8 (yp (pI rfl) (yp (pI rfl) (yp (VE rfl rfl) (zf (za ?_))))));refine zO rfl (fun h=>?_) (fun h=>?_)
  ·refine ze (z8 (yp (pI rfl) (yp (pI rfl) (yp (Zt rfl rfl (by omega)) (yp (pI rfl) (zf (za (z8 (yp (pI rfl) (yp (pI rfl) (zf (za ?_))))))))))));refine⟨⟨rfl,rfl,rfl,rfl,rfl,rfl,rfl,?_,?_,trivial⟩,.self⟩
   ·show Value.int .i64 (((p.length+c+(p.length+X.length):Nat):Int)-((p.length+X.length+Y.length:Nat):Int))= .int .i64 ((p.length+(c-Y.length):Nat):Int);congr 1; omega
   ·show Value.int .i64 ((p.length+c:Nat):Int)= .int .i64 ((p.length+min c X.length:Nat):Int);congr 1; omega
  ·refine ze (z8 (yp (pI rfl) (yp (pI rfl) (zf (za (z8 (yp (pI rfl) (yp (pI rfl) (zf (za ?_))))))))));refine⟨⟨rfl,rfl,rfl,rfl,rfl,rfl,rfl,?_,?_,trivial⟩,.self⟩
   ·show Value.int .i64 ((p.length:Nat):Int)= .int .i64 ((p.length+(c-Y.length):Nat):Int);congr 1; omega
   ·show Value.int .i64 ((p.length+X.length:Nat):Int)= .int .i64 ((p.length+min c X.length:Nat):Int);congr 1; omega
 rintro E S ⟨hE,hJ⟩;obtain⟨E0,e0⟩:=zl hE; subst e0; clear hE;refine zm hJ (ze (z8 (yp (pI rfl) (yp (Zq rfl rfl (by omega)) (yp (pI rfl) (zf (za (ze (zo ?_)))))))));refine Z4 (σ:=Nat × Nat) (fun s E S=>Has E [(0,.slice a0 N c0),(1,.int .i64 (p.length:Nat)),(2,.int .i64 (p.length+X.length:Nat)),(3,.int .i64 (p.length+X.length+Y.length:Nat)),(4,.func (.func cf) #[] #[]),(18,.int .i64 (p.length+c:Nat)),(19,.int .i64 (p.length+c+(p.length+X.length):Nat)),(20,.int .i64 (p.length+s.1:Nat)),(21,.int .i64 (p.length+s.2:Nat)),(22,.int .i64 (p.length+c+(p.length+X.length)-1:Nat))]∧c-Y.length≤s.1∧s.1≤s.2∧s.2≤min c X.length∧
  (∀e w,c-Y.length<s.1→X[s.1-1]?=some e→Y[c-s.1]?=some w→key e≤key w)∧(∀e w,s.2<min c X.length→X[s.2]?=some e→Y[c-1-s.2]?=some w→key w<key e)∧zG S [H]) (fun s=>s.2-s.1) (c-Y.length,min c X.length) ⟨⟨rfl,rfl,rfl,rfl,rfl,rfl,rfl,rfl,rfl,rfl,trivial⟩,Nat.le_refl _,by simp only; omega,Nat.le_refl _,fun e w h=>absurd h (Nat.lt_irrefl _),fun e w h=>absurd h (Nat.lt_irrefl _),.self⟩ fun s E S ⟨hE,hlo,hi,hj,h1,h2,hJ⟩=>?_
 obtain⟨i,j⟩:=s;simp only at hE hlo hi hj h1 h2;obtain⟨E0,e0⟩:=zl hE; subst e0; clear hE;refine zm hJ (ze (ze (z8 (yp (pI rfl) (yp (pI rfl) (yp (ZL rfl rfl) (zf (za ?_))))))));refine zO rfl (fun h=>?_) (fun h=>?_)
 ·have hij:i<j:=by omega
  refine zq (za (zo (ze (z8 (yp (pI rfl) (yp (pI rfl) (yp (Zi rfl rfl (by omega)) (yp (Xp rfl (by omega)) (yp (QC rfl) (yp (JY rfl (by omega)) ?_))))))))));rw[show(p.length+i+(p.length+j))/2=p.length+(i+j)/2 from by omega];have hh1:i≤(i+j)/2:=by omega
  have hh2:(i+j)/2<j:=by omega
  generalize (i+j)/2=g at hh1 hh2;have hgc:g<c:=by omega
  have hgx:g<X.length:=by omega
  obtain⟨e,he⟩:∃e,X[g]?=some e:=⟨_,List.getElem?_eq_getElem (by omega)⟩
  obtain⟨w,hw⟩:∃w,Y[c-1-g]?=some w:=⟨_,List.getElem?_eq_getElem (by omega)⟩
  have he1:∀n:Nat,n=p.length+g→(p++X++Y++q)[n]?=some e:=by
   intro n hn;rw[hn,List.append_assoc,List.append_assoc,List.getElem?_append_right (by omega),show p.length+g-p.length=g from by omega,List.getElem?_append_left (by omega),he]
  have hw1:∀n:Nat,n=p.length+X.length+(c-1-g)→(p++X++Y++q)[n]?=some w:=by
   intro n hn;rw[hn,List.append_assoc,List.getElem?_append_right (by rw[List.length_append]; omega),show p.length+X.length+(c-1-g)-(p++X).length=c-1-g from by rw[List.length_append]; omega,List.getElem?_append_left (by omega),hw]
  obtain⟨bb,sp,fz,hz,rfl,hN2,hc0,rfl⟩:=hL.at' (by intro h; rw[h] at hNN; simp at hNN; omega);refine yp (pI rfl) (zf (za (ze (zY (zi (pF rfl) (zi (pS rfl) (zi (pI rfl) (zi (pI rfl) (zi (Zt rfl rfl (by omega)) ?_)))))))));rw[show(((p.length+c+(p.length+X.length)-1:Nat):Int)-((p.length+g:Nat):Int))=((p.length+X.length+(c-1-g):Nat):Int) from by omega];refine zi (zN rfl rfl (by omega)) (VA (l:=enc w) rfl (ZE (hw1 _ rfl) hk) (by rw[Enc.len,hk]) (zi (pS rfl) (zi (pI rfl) (zi (zN rfl rfl (by omega)) (VA (l:=enc e) rfl (ZE (he1 _ rfl) hk) (by rw[Enc.len,hk]) ?_)))))
  skip
  refine zH (zk (hc w e) rfl rfl fun v S' h=>?_) zM;obtain⟨⟨z,rfl,hz2⟩,rfl⟩:=h;refine zi (ZL rfl rfl) (zi (Ze rfl) (zD (za ?_)));by_cases h3:z<0
  ·rw[decide_eq_true h3];refine zw rfl (z8 (yp (pI rfl) (yp (pI rfl) (zf (zT (za ?_))))));refine⟨(i,g),⟨⟨rfl,rfl,rfl,rfl,rfl,rfl,rfl,rfl,rfl,rfl,trivial⟩,hlo,hh1,by simp only; omega,h1,?_,.of⟩,by simp only; omega⟩;intro e' w' _ he' hw';simp only at he' hw';rw[he] at he'; rw[hw] at hw';cases he'; cases hw';exact hz2.1 h3
  ·rw[decide_eq_false h3];refine zI rfl (z8 (yp (pI rfl) (yp (Za rfl rfl (by omega)) (yp (pI rfl) (zf (zT (za ?_)))))));refine⟨(g+1,j),⟨⟨rfl,rfl,rfl,rfl,rfl,rfl,rfl,rfl,rfl,rfl,trivial⟩,by simp only; omega,by simp only; omega,hj,?_,h2,.of⟩,by simp only; omega⟩;intro e' w' _ he' hw';simp only[Nat.add_sub_cancel] at he' hw';rw[show c-(g+1)=c-1-g from by omega] at hw';rw[he] at he'; rw[hw] at hw';cases he'; cases hw';have:=mt hz2.2 h3;omega
 obtain rfl:i=j:=by omega
 refine zV (zy (zy (zW (za (ze (z8 (yp (pI rfl) (yp (pI rfl) (yp (Zt rfl rfl (by omega)) (yp (pI rfl) (zf (za ?_))))))))))));rw[show(((p.length+c+(p.length+X.length):Nat):Int)-((p.length+i:Nat):Int))=((p.length+X.length+(c-i):Nat):Int) from by omega];have hA:∀a∈Y.take (c-i),∀b∈X.drop i,key a<key b:=by
  intro a ha b hb;by_cases hi2:i<min c X.length
  ·obtain⟨e,he⟩:∃e,X[i]?=some e:=⟨_,List.getElem?_eq_getElem (by omega)⟩
   obtain⟨w,hw⟩:∃w,Y[c-1-i]?=some w:=⟨_,List.getElem?_eq_getElem (by omega)⟩
   have h3:=h2 e w hi2 he hw;have h4:=hY.Xy hw a (by rw[show c-1-i+1=c-i from by omega]; exact ha);have h5:=hX.XI he b hb;omega
  ·rcases(by omega:i=c∨i=X.length) with rfl | rfl
   ·simp at ha
   ·simp at hb
 have hB:∀a∈X.take i,∀b∈Y.drop (c-i),key a≤key b:=by
  intro a ha b hb;by_cases hi2:c-Y.length<i
  ·obtain⟨e,he⟩:∃e,X[i-1]?=some e:=⟨_,List.getElem?_eq_getElem (by omega)⟩
   obtain⟨w,hw⟩:∃w,Y[c-i]?=some w:=⟨_,List.getElem?_eq_getElem (by omega)⟩
   have h3:=h1 e w hi2 he hw;have h4:=hX.Xy he a (by rw[show i-1+1=i from by omega]; exact ha);have h5:=hY.XI hw b hb;omega
  ·by_cases hcy:Y.length≤c
   ·rw[List.drop_eq_nil_of_le (by omega)] at hb; cases hb
   ·have:i=0:=by omega
    subst this;simp at ha
 have hXe:=List.take_append_drop i X;have hYe:=List.take_append_drop (c-i) Y;have lX1:(X.take i).length=i:=by rw[List.length_take]; omega
 have lX2:(X.drop i).length=X.length-i:=by rw[List.length_drop]
 have lY1:(Y.take (c-i)).length=c-i:=by rw[List.length_take]; omega
 have lY2:(Y.drop (c-i)).length=Y.length-(c-i):=by rw[List.length_drop]
 generalize X.take i=X1 at hA hB hXe lX1;generalize X.drop i=X2 at hA hB hXe lX2;generalize Y.take (c-i)=Y1 at hA hB hYe lY1;generalize Y.drop (c-i)=Y2 at hA hB hYe lY2;have hXs:Sorted key (X1++X2):=by rw[hXe]; exact hX
 have hYs:Sorted key (Y1++Y2):=by rw[hYe]; exact hY
 have hL1:Zf ty (.slice a0 N c0) ((p++X1)++X2++Y1++(Y2++q)) H:=by
  rw[←hXe, ←hYe] at hL; simpa only[List.append_assoc] using hL
 have hll:((p++X1)++X2++Y1++(Y2++q)).length=N:=by simp only[List.length_append]; omega
 refine w9 (fun E S=>Has E [(0,.slice a0 N c0),(1,.int .i64 (p.length:Nat)),(3,.int .i64 (p.length+X.length+Y.length:Nat)),(4,.func (.func cf) #[] #[]),(18,.int .i64 (p.length+c:Nat)),(20,.int .i64 (p.length+i:Nat)),(24,.int .i64 (p.length+X.length+(c-i):Nat))]∧
  ∃H',Zf ty (.slice a0 N c0) (p++X1++Y1++(X2++Y2++q)) H'∧zG S [H']) ?_ ?_
 ·refine ze (z8 (yp (pI rfl) (yp (pI rfl) (yp (ZL rfl rfl) (yp (pB rfl) ?_)))));have hskip:(X2=[]∨Y1=[])→Zf ty (.slice a0 N c0) (p++X1++Y1++(X2++Y2++q)) H:=by
   rintro(rfl | rfl)
   ·simpa only[List.append_assoc,List.append_nil,List.nil_append] using hL1
   ·simpa only[List.append_assoc,List.append_nil,List.nil_append] using hL1
  by_cases hc1:i<X.length
  ·rw[decide_eq_true (show((p.length+i:Nat):Int)<((p.length+X.length:Nat):Int) from by omega)];refine Z0 rfl (Zc (pI rfl) (Z0 rfl (Zc (pI rfl) (Z0 rfl (Zc (ZL rfl rfl) (yp (zP rfl rfl) (zf (za ?_))))))));by_cases hc2:0<c-i
   ·rw[decide_eq_true (show((p.length+X.length:Nat):Int)<((p.length+X.length+(c-i):Nat):Int) from by omega)];refine zI rfl (z8 (yp (pS rfl) (yp (pI rfl) (yp (pI rfl) (yp (pI rfl) (yp (pF rfl) ?_))))));refine zh (zk (rotate hr hsw hk (cf:=cf) hL1 (by rw[hll]; exact hlen) (by omega) (by omega) (a:=((p.length+i:Nat):Int)) (m:=((p.length+X.length:Nat):Int)) (b:=((p.length+X.length+(c-i):Nat):Int)) (by rw[List.length_append]; omega) (by rw[List.length_append]; omega) (by rw[List.length_append]; omega)) rfl rfl fun r S' h=>?_);obtain⟨rfl,H2,hL2,rfl⟩:=h;refine zf (za ?_);exact⟨⟨rfl,rfl,rfl,rfl,rfl,rfl,rfl,trivial⟩,H2,by simpa only[List.append_assoc] using hL2,.of⟩
   ·rw[decide_eq_false (show ¬((p.length+X.length:Nat):Int)<((p.length+X.length+(c-i):Nat):Int) from by omega)];refine zw rfl (zq (za ?_));exact⟨⟨rfl,rfl,rfl,rfl,rfl,rfl,rfl,trivial⟩,H,hskip (.inr (List.length_eq_zero_iff.1 (by omega))),.self⟩
  ·rw[decide_eq_false (show ¬((p.length+i:Nat):Int)<((p.length+X.length:Nat):Int) from by omega)];refine Z5 rfl (Z5 rfl (Z5 rfl (yp (zU rfl rfl) (zf (za (zw rfl (zq (za ?_))))))));exact⟨⟨rfl,rfl,rfl,rfl,rfl,rfl,rfl,trivial⟩,H,hskip (.inl (List.length_eq_zero_iff.1 (by omega))),.self⟩
 rintro E S ⟨hE,H2,hL2,hJ⟩;obtain⟨E0,e0⟩:=zl hE; subst e0; clear hE;refine zm hJ ?_;refine w9 (fun E S=>Has E [(0,.slice a0 N c0),(3,.int .i64 (p.length+X.length+Y.length:Nat)),(4,.func (.func cf) #[] #[]),(18,.int .i64 (p.length+c:Nat)),(24,.int .i64 (p.length+X.length+(c-i):Nat))]∧
  ∃Z1 H',SS key (X1++Y1) Z1∧Z1.length=c∧Zf ty (.slice a0 N c0) (p++Z1++(X2++Y2++q)) H'∧zG S [H']) ?_ ?_
 ·refine ze (z8 (yp (pI rfl) (yp (pI rfl) (yp (ZL rfl rfl) (yp (pB rfl) ?_)))));have hskip:(X1=[]∨Y1=[])→SS key (X1++Y1) (X1++Y1):=by
   rintro(rfl | rfl)
   ·exact(List.pairwise_append.1 hYs).1 |>fun h=>by simpa using Sorted.SS h
   ·exact(List.pairwise_append.1 hXs).1 |>fun h=>by simpa using Sorted.SS h
  by_cases hc1:0<i
  ·rw[decide_eq_true (show((p.length:Nat):Int)<((p.length+i:Nat):Int) from by omega)];refine Z0 rfl (Zc (pI rfl) (Z0 rfl (Zc (pI rfl) (Z0 rfl (Zc (ZL rfl rfl) (yp (zP rfl rfl) (zf (za ?_))))))));by_cases hc2:i<c
   ·rw[decide_eq_true (show((p.length+i:Nat):Int)<((p.length+c:Nat):Int) from by omega)];refine zI rfl (z8 (yp (pS rfl) (yp (pI rfl) (yp (pI rfl) (yp (pI rfl) (yp (pF rfl) ?_))))));refine zh (zk (ih (q:=X2++Y2++q) hL2 (by simp only[List.length_append] at hll ⊢; omega) (List.pairwise_append.1 hXs).1 (List.pairwise_append.1 hYs).1 (by omega) (by omega) (by omega) (a:=((p.length:Nat):Int)) (m:=((p.length+i:Nat):Int)) (b:=((p.length+c:Nat):Int)) rfl (by omega) (by omega)) rfl rfl fun r S' h=>?_);obtain⟨rfl,Z1,H3,hZ,hZl,hL3,rfl⟩:=h;refine zf (za ?_);exact⟨⟨rfl,rfl,rfl,rfl,rfl,trivial⟩,Z1,H3,hZ,by omega,hL3,.of⟩
   ·rw[decide_eq_false (show ¬((p.length+i:Nat):Int)<((p.length+c:Nat):Int) from by omega)];refine zw rfl (zq (za ?_));exact⟨⟨rfl,rfl,rfl,rfl,rfl,trivial⟩,X1++Y1,H2,hskip (.inr (List.length_eq_zero_iff.1 (by omega))),by rw[List.length_append]; omega,by simpa only[List.append_assoc] using hL2,.self⟩
  ·rw[decide_eq_false (show ¬((p.length:Nat):Int)<((p.length+i:Nat):Int) from by omega)];refine Z5 rfl (Z5 rfl (Z5 rfl (yp (zU rfl rfl) (zf (za (zw rfl (zq (za ?_))))))));exact⟨⟨rfl,rfl,rfl,rfl,rfl,trivial⟩,X1++Y1,H2,hskip (.inl (List.length_eq_zero_iff.1 (by omega))),by rw[List.length_append]; omega,by simpa only[List.append_assoc] using hL2,.self⟩
 rintro E S ⟨hE,Z1,H3,hZ1,hZl,hL3,hJ⟩;obtain⟨E0,e0⟩:=zl hE; subst e0; clear hE;refine zm hJ ?_;have hfin:∀Z2,SS key (X2++Y2) Z2→SS key (X++Y) (Z1++Z2):=fun Z2 h=>by
  rw[←hXe, ←hYe];exact SS.join hZ1 h hXs hYs hA hB
 have hskip:(X2=[]∨Y2=[])→SS key (X2++Y2) (X2++Y2):=by
  rintro(rfl | rfl)
  ·exact(List.pairwise_append.1 hYs).2.1 |>fun h=>by simpa using Sorted.SS h
  ·exact(List.pairwise_append.1 hXs).2.1 |>fun h=>by simpa using Sorted.SS h
 refine ze (z8 (yp (pI rfl) (yp (pI rfl) (yp (ZL rfl rfl) (yp (pB rfl) ?_)))));by_cases hc1:i<X.length
 ·rw[decide_eq_true (show((p.length+c:Nat):Int)<((p.length+X.length+(c-i):Nat):Int) from by omega)];refine Z0 rfl (Zc (pI rfl) (Z0 rfl (Zc (pI rfl) (Z0 rfl (Zc (ZL rfl rfl) (yp (zP rfl rfl) (zf (za ?_))))))));by_cases hc2:c-i<Y.length
  ·rw[decide_eq_true (show((p.length+X.length+(c-i):Nat):Int)<((p.length+X.length+Y.length:Nat):Int) from by omega)];refine zI rfl (z8 (yp (pS rfl) (yp (pI rfl) (yp (pI rfl) (yp (pI rfl) (yp (pF rfl) ?_))))));refine zh (zk (ih (v:= .slice a0 N c0) (p:=p++Z1) (X:=X2) (Y:=Y2) (q:=q) (by simpa only[List.append_assoc] using hL3) (by simp only[List.length_append] at hll ⊢; omega) (List.pairwise_append.1 hXs).2.1 (List.pairwise_append.1 hYs).2.1 (by omega) (by omega) (by omega) (a:=((p.length+c:Nat):Int)) (m:=((p.length+X.length+(c-i):Nat):Int)) (b:=((p.length+X.length+Y.length:Nat):Int)) (by rw[List.length_append]; omega) (by rw[List.length_append]; omega) (by rw[List.length_append]; omega)) rfl rfl fun r S' h=>?_);obtain⟨rfl,Z2,H4,hZ2,hZl2,hL4,rfl⟩:=h;refine zf ?_;exact ZF ZG ⟨_,.of,rfl,Z1++Z2,H4,hfin _ hZ2,by rw[List.length_append]; omega,by simpa only[List.append_assoc] using hL4,rfl⟩
  ·rw[decide_eq_false (show ¬((p.length+X.length+(c-i):Nat):Int)<((p.length+X.length+Y.length:Nat):Int) from by omega)];refine zw rfl (zq ?_);exact ZF ZG ⟨_,.of,rfl,Z1++(X2++Y2),H3,hfin _ (hskip (.inr (List.length_eq_zero_iff.1 (by omega)))),by rw[List.length_append,List.length_append]; omega,by simpa only[List.append_assoc] using hL3,rfl⟩
 ·rw[decide_eq_false (show ¬((p.length+c:Nat):Int)<((p.length+X.length+(c-i):Nat):Int) from by omega)];refine Z5 rfl (Z5 rfl (Z5 rfl (yp (zU rfl rfl) (zf (za (zw rfl (zq ?_)))))));exact ZF ZG ⟨_,.of,rfl,Z1++(X2++Y2),H3,hfin _ (hskip (.inl (List.length_eq_zero_iff.1 (by omega)))),by rw[List.length_append,List.length_append]; omega,by simpa only[List.append_assoc] using hL3,rfl⟩
end Go.Xs
namespace Go.Xs
open Enc (enc)
variable {P:Program} {α:Type} [Enc α] {S:zB}
def rV(fi fm:Nat):zA:=
 .seq (.region [⟨some 6,.mov (.const (.int .i64 20)),none⟩]) (
 .seq (.region [⟨some 10,.mov (.tmp 6),none⟩,
  ⟨some 7,.mov (.const (.int .i64 0)),none⟩,
  ⟨some 8,.mov (.tmp 10),none⟩]) (
 .seq (.block 0 (
  .loop (
   .seq (.seq (.region [⟨some 11,.mov (.tmp 8),none⟩,
    ⟨some 12,.mov (.tmp 1),none⟩,
    ⟨some 13,.bin .leq (.tmp 11) (.tmp 12),none⟩]) (
    .cond (.tmp 13) (
     .skip) (
     .exit 0))) (
   .block 1 (
    .seq (.region [⟨some 14,.mov (.tmp 0),none⟩,
     ⟨some 15,.mov (.tmp 7),none⟩,
     ⟨some 16,.mov (.tmp 8),none⟩,
     ⟨some 17,.mov (.tmp 2),none⟩,
     ⟨some 18,.call (.func fi) [(.tmp 14),(.tmp 15),(.tmp 16),(.tmp 17)],none⟩]) (
    .seq (.region [⟨some 19,.mov (.tmp 8),none⟩,
     ⟨some 7,.mov (.tmp 19),none⟩]) (
    .region [⟨some 20,.mov (.tmp 8),none⟩,
     ⟨some 21,.mov (.tmp 6),none⟩,
     ⟨some 22,.bin .add (.tmp 20) (.tmp 21),none⟩,
     ⟨some 8,.mov (.tmp 22),none⟩]))))))) (
 .seq (.region [⟨some 23,.mov (.tmp 0),none⟩,
  ⟨some 24,.mov (.tmp 7),none⟩,
  ⟨some 25,.mov (.tmp 1),none⟩,
  ⟨some 26,.mov (.tmp 2),none⟩,
  ⟨some 27,.call (.func fi) [(.tmp 23),(.tmp 24),(.tmp 25),(.tmp 26)],none⟩]) (
 .block 2 (
  .loop (
   .seq (.seq (.region [⟨some 28,.mov (.tmp 6),none⟩,
    ⟨some 29,.mov (.tmp 1),none⟩,
    ⟨some 30,.bin .lss (.tmp 28) (.tmp 29),none⟩]) (
    .cond (.tmp 30) (
     .skip) (
     .exit 2))) (
   .block 3 (
    .seq (.region [⟨some 31,.mov (.tmp 6),none⟩,
     ⟨some 32,.bin .mul (.const (.int .i64 2)) (.tmp 31),none⟩,
     ⟨some 7,.mov (.const (.int .i64 0)),none⟩,
     ⟨some 8,.mov (.tmp 32),none⟩]) (
    .seq (.block 4 (
     .loop (
      .seq (.seq (.region [⟨some 33,.mov (.tmp 8),none⟩,
       ⟨some 34,.mov (.tmp 1),none⟩,
       ⟨some 35,.bin .leq (.tmp 33) (.tmp 34),none⟩]) (
       .cond (.tmp 35) (
        .skip) (
        .exit 4))) (
      .block 5 (
       .seq (.region [⟨some 36,.mov (.tmp 0),none⟩,
        ⟨some 37,.mov (.tmp 7),none⟩,
        ⟨some 38,.mov (.tmp 7),none⟩,
        ⟨some 39,.mov (.tmp 6),none⟩,
        ⟨some 40,.bin .add (.tmp 38) (.tmp 39),none⟩,
        ⟨some 41,.mov (.tmp 8),none⟩,
        ⟨some 42,.mov (.tmp 2),none⟩,
        ⟨some 43,.call (.func fm) [(.tmp 36),(.tmp 37),(.tmp 40),(.tmp 41),(.tmp 42)],none⟩]) (
       .seq (.region [⟨some 44,.mov (.tmp 8),none⟩,
        ⟨some 7,.mov (.tmp 44),none⟩]) (
       .region [⟨some 45,.mov (.tmp 8),none⟩,
        ⟨some 46,.mov (.tmp 6),none⟩,
        ⟨some 47,.bin .mul (.const (.int .i64 2)) (.tmp 46),none⟩,
        ⟨some 48,.bin .add (.tmp 45) (.tmp 47),none⟩,
        ⟨some 8,.mov (.tmp 48),none⟩]))))))) (
    .seq (.seq (.region [⟨some 49,.mov (.tmp 7),none⟩,
     ⟨some 50,.mov (.tmp 6),none⟩,
     ⟨some 51,.bin .add (.tmp 49) (.tmp 50),none⟩,
     ⟨some 9,.mov (.tmp 51),none⟩]) (
     .seq (.region [⟨some 52,.mov (.tmp 9),none⟩,
      ⟨some 53,.mov (.tmp 1),none⟩,
      ⟨some 54,.bin .lss (.tmp 52) (.tmp 53),none⟩]) (
     .cond (.tmp 54) (
      .region [⟨some 55,.mov (.tmp 0),none⟩,
       ⟨some 56,.mov (.tmp 7),none⟩,
       ⟨some 57,.mov (.tmp 9),none⟩,
       ⟨some 58,.mov (.tmp 1),none⟩,
       ⟨some 59,.mov (.tmp 2),none⟩,
       ⟨some 60,.call (.func fm) [(.tmp 55),(.tmp 56),(.tmp 57),(.tmp 58),(.tmp 59)],none⟩]) (
      .skip)))) (
    .region [⟨some 61,.mov (.tmp 6),none⟩,
     ⟨some 62,.bin .mul (.tmp 61) (.const (.int .i64 2)),none⟩,
     ⟨some 6,.mov (.tmp 62),none⟩])))))))))))
theorem SS.merge{β:Type}{key:β→Int}{l1 l2 r1 r2 Z:List β}(h1:SS key l1 r1)(h2:SS key l2 r2)(h:SS key (r1++r2) Z):SS key (l1++l2) Z:=
 ⟨h.1,fun k=>by
  have e:=h.2 k;have e1:=h1.2 k;have e2:=h2.2 k;simp only[keyed,List.filter_append] at e e1 e2 ⊢;rw[e,e1,e2]⟩
/-- in order by blocks of w, the last may be shorter -/
inductive Ui {β:Type} (key:β→Int) (w:Nat):List β→List β→Prop
 | last {l r:List β}:l.length≤w→r.length=l.length→SS key l r→Ui key w l r
 | cons {l r L R:List β}:l.length=w→r.length=w→SS key l r→Ui key w L R→Ui key w (l++L) (r++R)
/-- whole blocks alone -/
inductive Full {β:Type} (key:β→Int) (w:Nat):List β→List β→Prop
 | nil:Full key w [] []
 | snoc {l r L R:List β}:Full key w L R→l.length=w→r.length=w→SS key l r→Full key w (L++l) (R++r)
theorem Full.app{β:Type}{key:β→Int}{w:Nat}{L R:List β}(h:Full key w L R):∀{L' R':List β},Ui key w L' R'→Ui key w (L++L') (R++R'):=by
 induction h with
 | nil=>intro L' R' h; simpa using h
 | snoc hf h1 h2 h3 ih=>
  intro L' R' h;rw[List.append_assoc,List.append_assoc];exact ih (.cons h1 h2 h3 h)
theorem Full.len{β:Type}{key:β→Int}{w:Nat}{L R:List β}(h:Full key w L R):R.length=L.length:=by
 induction h with
 | nil=>rfl
 | snoc hf h1 h2 h3 ih=>simp; omega
theorem Ui.len{β:Type}{key:β→Int}{w:Nat}{L R:List β}(h:Ui key w L R):R.length=L.length:=by
 induction h with
 | last h1 h2 h3=>exact h2
 | cons h1 h2 h3 h ih=>simp; omega
/-- the first block of more than one -/
theorem Ui.split{β:Type}{key:β→Int}{w:Nat}{L R:List β}(h:Ui key w L R)(hw:w<L.length):∃l r L' R',L=l++L'∧R=r++R'∧l.length=w∧r.length=w∧SS key l r∧Ui key w L' R':=by
 cases h with
 | last h1=>omega
 | cons h1 h2 h3 h=>exact⟨_,_,_,_,rfl,rfl,h1,h2,h3,h⟩
theorem Ui.one{β:Type}{key:β→Int}{w:Nat}{L R:List β}(h:Ui key w L R)(hw:L.length≤w):SS key L R:=by
 cases h with
 | last h1 h2 h3=>exact h3
 | @cons l r L R h1 h2 h3 h=>
  have e1:L=[]:=by rw[List.length_append] at hw; exact List.length_eq_zero_iff.1 (by omega)
  subst e1;have e2:R=[]:=List.length_eq_zero_iff.1 (by rw[h.len]; rfl);subst e2;simpa using h3
theorem jC{f fi fm fr fs k ty:Nat}(hf:Z6 P f 63 #[] (rV fi fm))(hi:Z6 P fi 53 #[] (Aj k))(hm:Z6 P fm 220 #[] (JD k fr fm))(hr:Z6 P fr 58 #[] (ny fs))(hsw:Z6 P fs 38 #[] (jr k))(hk:Enc.k α=k)(key:α→Int){cf:Nat}
 (hc:∀a b:α,Tri P cf #[.agg (enc a).toArray,.agg (enc b).toArray] [] (fun r S=>(∃z,r= .int .i64 z∧(z<0↔key a<key b))∧S=[]))
 {v:Value} {L:List α} {H:List Chunk} (hL:Zf ty v L H) (hlen:L.length<2 ^ 38) {n:Nat} (hn:n=L.length):
 Tri P f #[v,.int .i64 (n:Int),.func (.func cf) #[] #[]] [H] (fun r S=>r= .tuple #[]∧∃L' H',SS key L L'∧L'.length=L.length∧Zf ty v L' H'∧S=[H']):=by
 refine Tri.forget (zn hf (Nat.le_of_ble_eq_true rfl) ?_);unfold rV;obtain⟨a0,c0,hv⟩:=hL.isSlice;rw[←hn] at hv;subst hv;refine ze (z8 (yp pC (zf (za (ze (z8 (yp (pI rfl) (yp pC (yp (pI rfl) (zf (za (ze (zo ?_)))))))))))));refine Z4 (σ:=Nat × List α × List α × List α) (fun s E S=>Has E [(0,.slice a0 n c0),(1,.int .i64 n),(2,.func (.func cf) #[] #[]),(6,.int .i64 20),(7,.int .i64 s.1),(8,.int .i64 (s.1+20:Nat))]∧s.1=s.2.1.length∧s.1≤n∧L=s.2.1++s.2.2.2∧Full key 20 s.2.1 s.2.2.1∧∃H',Zf ty (.slice a0 n c0) (s.2.2.1++s.2.2.2) H'∧zG S [H']) (fun s=>n-s.1) (0,[],[],L) ⟨⟨rfl,rfl,rfl,rfl,rfl,rfl,trivial⟩,rfl,Nat.zero_le _,rfl,.nil,H,hL,.self⟩ fun s E S ⟨hE,hsa,hsn,hLe,hF,H1,hL1,hJ⟩=>?_
 obtain⟨a,LA,A,B⟩:=s;simp only at hE hsa hsn hLe hF hL1;have hFl:=hF.len;have hll:=congrArg List.length hLe;rw[List.length_append] at hll;obtain⟨E0,e0⟩:=zl hE; subst e0; clear hE;refine zm hJ (ze (ze (z8 (yp (pI rfl) (yp (pI rfl) (yp (Xl rfl rfl) (zf (za ?_))))))));refine zO rfl (fun h=>?_) (fun h=>?_)
 ·refine zq (za (zo (ze (z8 (yp (pS rfl) (yp (pI rfl) (yp (pI rfl) (yp (pF rfl) ?_))))))));have e1:A++B.take 20++B.drop 20=A++B:=by rw[List.append_assoc,List.take_append_drop]
  have hbl:(B.take 20).length=20:=by rw[List.length_take]; omega
  refine zh (zk (jZ hi hk key hc (v:= .slice a0 n c0) (pre:=A) (seg:=B.take 20) (rest:=B.drop 20) (by rw[e1]; exact hL1) (by rw[e1,List.length_append]; omega) (a:=a) (b:=a+20) (by omega) (by omega)) rfl rfl fun r S' h=>?_);obtain⟨rfl,Z,H2,hZ,hZl,hL2,rfl⟩:=h;refine zf (za (ze (z8 (yp (pI rfl) (yp (pI rfl) (zf (za (z8 (yp (pI rfl) (yp (pI rfl) (yp (Vo rfl rfl (by omega)) (yp (pI rfl) (zf (zT (za ?_)))))))))))))));refine⟨(a+20,LA++B.take 20,A++Z,B.drop 20),⟨⟨rfl,rfl,rfl,rfl,rfl,rfl,trivial⟩,by rw[List.length_append]; omega,by simp only; omega,by rw[List.append_assoc,List.take_append_drop]; exact hLe,.snoc hF hbl (by omega) hZ,H2,by simpa only[List.append_assoc] using hL2,.of⟩,by simp only; omega⟩
 refine zV (zy (zy (zW (za (ze (z8 (yp (pS rfl) (yp (pI rfl) (yp (pI rfl) (yp (pF rfl) ?_))))))))));have e1:A++B++[]=A++B:=by simp
 refine zh (zk (jZ hi hk key hc (v:= .slice a0 n c0) (pre:=A) (seg:=B) (rest:=[]) (by rw[e1]; exact hL1) (by rw[e1,List.length_append]; omega) (a:=a) (b:=n) (by omega) (by omega)) rfl rfl fun r S' h=>?_);obtain⟨rfl,Z,H2,hZ,hZl,hL2,rfl⟩:=h;have hB0:Ui key 20 L (A++Z):=by
  rw[hLe];exact hF.app (.last (by omega) hZl hZ)
 rw[List.append_nil] at hL2;generalize A++Z=R0 at hB0 hL2;clear hF hL1 hZ e1 hZl hll hFl hLe hsa hsn;refine zf (za (zo ?_));refine Z4 (σ:=Nat × List α) (fun s E S=>Has E [(0,.slice a0 n c0),(1,.int .i64 n),(2,.func (.func cf) #[] #[]),(6,.int .i64 s.1)]∧20≤s.1∧s.1<2 ^ 40∧Ui key s.1 L s.2∧∃H',Zf ty (.slice a0 n c0) s.2 H'∧zG S [H']) (fun s=>n-s.1) (20,R0) ⟨⟨rfl,rfl,rfl,rfl,trivial⟩,Nat.le_refl _,by simp only; omega,hB0,H2,hL2,.of⟩ fun s E S ⟨hE,hw1,hw2,hB,H3,hL3,hJ⟩=>?_
 obtain⟨w,R⟩:=s;simp only at hE hw1 hw2 hB hL3;obtain⟨E0,e0⟩:=zl hE; subst e0; clear hE;refine zm hJ (ze (ze (z8 (yp (pI rfl) (yp (pI rfl) (yp (ZL rfl rfl) (zf (za ?_))))))));refine zO rfl (fun h=>?_) (fun h=>?_)
 ·refine zq (za (zo (ze (z8 (yp (pI rfl) ?_)))));refine yp (v:= .int .i64 ((2*w:Nat):Int)) ?_ ?_
  ·rw[jR (m:=2) (n:=(w:Int)) rfl rfl (by omega)];congr 2
  refine yp pC (yp (pI rfl) (zf (za (ze (zo ?_)))));refine Z4 (σ:=Nat × List α × List α × List α × List α) (fun s E S=>Has E [(0,.slice a0 n c0),(1,.int .i64 n),(2,.func (.func cf) #[] #[]),(6,.int .i64 w),(7,.int .i64 s.1),(8,.int .i64 (s.1+2*w:Nat))]∧s.1=s.2.1.length∧s.1≤n∧L=s.2.1++s.2.2.2.1∧Full key (2*w) s.2.1 s.2.2.1∧Ui key w s.2.2.2.1 s.2.2.2.2∧∃H',Zf ty (.slice a0 n c0) (s.2.2.1++s.2.2.2.2) H'∧zG S [H']) (fun s=>n-s.1) (0,[],[],L,R) ⟨⟨rfl,rfl,rfl,rfl,rfl,?_,trivial⟩,rfl,Nat.zero_le _,rfl,.nil,hB,H3,hL3,.self⟩ fun s E S ⟨hE,hsa,hsn,hLe,hF,hBB,H4,hL4,hJ⟩=>?_
  ·show Value.int .i64 ((2*w:Nat):Int)= .int .i64 ((0+2*w:Nat):Int);rw[Nat.zero_add]
  obtain⟨a,LA,A,LB,B⟩:=s;simp only at hE hsa hsn hLe hF hBB hL4;have hFl:=hF.len;have hBl:=hBB.len;have hll:=congrArg List.length hLe;rw[List.length_append] at hll;obtain⟨E0,e0⟩:=zl hE; subst e0; clear hE;refine zm hJ (ze (ze (z8 (yp (pI rfl) (yp (pI rfl) (yp (Xl rfl rfl) (zf (za ?_))))))));refine zO rfl (fun h2=>?_) (fun h2=>?_)
  ·obtain⟨l1,r1,LB1,B1,rfl,rfl,hl1,hr1,hs1,hBB1⟩:=hBB.split (by omega);rw[List.length_append] at hll hBl;have hgo:∃l2 r2 LB2 B2,LB1=l2++LB2∧B1=r2++B2∧l2.length=w∧r2.length=w∧SS key l2 r2∧Ui key w LB2 B2:=by
    by_cases hlt:w<LB1.length
    ·exact hBB1.split hlt
    ·have e:LB1.length=w:=by omega
     refine⟨LB1,B1,[],[],by simp,by simp,e,by have:=hBB1.len; omega,hBB1.one (by omega),.last (by simp) rfl ⟨.nil,fun _=>rfl⟩⟩
   obtain⟨l2,r2,LB2,B2,rfl,rfl,hl2,hr2,hs2,hBB2⟩:=hgo;have e1:A++(r1++(r2++B2))=A++r1++r2++B2:=by simp only[List.append_assoc]
   rw[e1] at hL4;simp only[List.length_append] at hll hBl;refine zq (za (zo (ze (z8 (yp (pS rfl) (yp (pI rfl) (yp (pI rfl) (yp (pI rfl) (yp (Zi rfl rfl (by omega)) (yp (pI rfl) (yp (pF rfl) ?_)))))))))));refine zh (zk (Yw hm hr hsw hk key hc (r1.length+r2.length) (v:= .slice a0 n c0) (p:=A) (X:=r1) (Y:=r2) (q:=B2) hL4 (by simp only[List.length_append]; omega) hs1.1 hs2.1 (by omega) (by omega) (Nat.le_refl _) (a:=((a:Nat):Int)) (m:=((a+w:Nat):Int)) (b:=((a+2*w:Nat):Int)) (by omega) (by omega) (by omega)) rfl rfl fun r S' h=>?_);obtain⟨rfl,Z,H5,hZ,hZl,hL5,rfl⟩:=h;refine zf (za (ze (z8 (yp (pI rfl) (yp (pI rfl) (zf (za (z8 (yp (pI rfl) (yp (pI rfl) ?_))))))))));refine yp (v:= .int .i64 ((2*w:Nat):Int)) ?_ ?_
   ·rw[jR (m:=2) (n:=(w:Int)) rfl rfl (by omega)];congr 2
   refine yp (Zi rfl rfl (by omega)) (yp (pI rfl) (zf (zT (za ?_))));refine⟨(a+2*w,LA++(l1++l2),A++Z,LB2,B2),⟨⟨rfl,rfl,rfl,rfl,rfl,rfl,trivial⟩,by simp only[List.length_append]; omega,by simp only; omega,by rw[hLe]; simp only[List.append_assoc],.snoc hF (by rw[List.length_append]; omega) (by omega) (hs1.merge hs2 hZ),hBB2,H5,hL5,.of⟩,by simp only; omega⟩
  ·refine zV (zy (zy (zW (za (ze (ze (z8 (yp (pI rfl) (yp (pI rfl) (yp (Zi rfl rfl (by omega)) (yp (pI rfl) (zf (za (ze (z8 (yp (pI rfl) (yp (pI rfl) (yp (ZL rfl rfl) (zf (za ?_))))))))))))))))))));refine zO rfl (fun h3=>?_) (fun h3=>?_)
   ·obtain⟨l1,r1,LB1,B1,rfl,rfl,hl1,hr1,hs1,hBB1⟩:=hBB.split (by omega);rw[List.length_append] at hll hBl;have hs2:SS key LB1 B1:=hBB1.one (by omega);have hBl1:=hBB1.len;have e1:A++(r1++B1)=A++r1++B1++[]:=by simp only[List.append_assoc,List.append_nil]
    rw[e1] at hL4;refine z8 (yp (pS rfl) (yp (pI rfl) (yp (pI rfl) (yp (pI rfl) (yp (pF rfl) ?_)))));refine zh (zk (Yw hm hr hsw hk key hc (r1.length+B1.length) (v:= .slice a0 n c0) (p:=A) (X:=r1) (Y:=B1) (q:=[]) hL4 (by simp only[List.length_append,List.length_nil]; omega) hs1.1 hs2.1 (by omega) (by omega) (Nat.le_refl _) (a:=((a:Nat):Int)) (m:=((a+w:Nat):Int)) (b:=((n:Nat):Int)) (by omega) (by omega) (by omega)) rfl rfl fun r S' h=>?_);obtain⟨rfl,Z,H5,hZ,hZl,hL5,rfl⟩:=h;refine zf (za (z8 (yp (pI rfl) ?_)));refine yp (v:= .int .i64 ((2*w:Nat):Int)) ?_ ?_
    ·rw[jR (m:=(w:Int)) (n:=2) rfl rfl (by omega)];congr 2; omega
    refine yp (pI rfl) (zf (zT (za ?_)));refine⟨(2*w,A++Z),⟨⟨rfl,rfl,rfl,rfl,trivial⟩,by simp only; omega,by simp only; omega,?_,H5,by simpa only[List.append_nil] using hL5,.of⟩,by simp only; omega⟩;rw[hLe];exact hF.app (.last (by rw[List.length_append]; omega) (by rw[List.length_append]; omega) (hs1.merge hs2 hZ))
   ·refine zq (za (z8 (yp (pI rfl) ?_)));refine yp (v:= .int .i64 ((2*w:Nat):Int)) ?_ ?_
    ·rw[jR (m:=(w:Int)) (n:=2) rfl rfl (by omega)];congr 2; omega
    refine yp (pI rfl) (zf (zT (za ?_)));refine⟨(2*w,A++B),⟨⟨rfl,rfl,rfl,rfl,trivial⟩,by simp only; omega,by simp only; omega,?_,H4,hL4,.of⟩,by simp only; omega⟩;rw[hLe];exact hF.app (.last (by omega) hBl (hBB.one (by omega)))
 ·have hfin:=hB.one (by omega);refine zV (zy (zy (zW ?_)));exact ZF ZG ⟨_,.of,rfl,R,H3,hfin,by have:=hB.len; omega,hL3,rfl⟩
end Go.Xs
