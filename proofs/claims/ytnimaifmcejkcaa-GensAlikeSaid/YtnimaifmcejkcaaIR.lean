/- The resolved form of this seat's functions, printed by our bench program. -/
import Derived.Test.YtnimaifmcejkcaaW9
import Derived.KernelRfl
namespace Go.Proofs.Ytnimaifmcejkcaa
set_option maxRecDepth 100000
open Go Go.W
/- 3 sloth/slothlaw21.GensPlays (3) -/
def ir3L1 : IR := .seq (.seq (.reg false [.r (some 48) (.mv (.t 13)),
    .r (some 49) (.mv (.t 2)),
    .r (some 50) (.len (.t 49)),
    .r (some 51) (.bi .lss (.t 48) (.t 50))] [2, 8, 10, 12, 13, 51]) <|
  .cond (.t 51) (.skip) ((.exit 0))) <|
  .seq (.block 1 (.seq (.reg false [.r (some 54) (.mv (.t 12)),
    .r (some 55) (.mv (.t 8)),
    .r (some 56) (.mv (.t 10)),
    .r (some 57) (.mv (.t 2)),
    .r (some 58) (.mv (.t 13)),
    .r (some 59) (.ia 6 (.t 57) (.t 58)),
    .r (some 60) (.ln 6 (.t 59)),
    .e (some 61) (.call 9 [(.t 54), (.t 55), (.t 56), (.t 60)]),
    .r (some 14) (.mv (.t 61))] [2, 8, 10, 12, 13, 14]) <|
  .seq (.reg false [.r (some 62) (.mv (.t 14)),
    .r (some 63) (.no (.t 62))] [2, 8, 10, 12, 13, 63]) <|
  .cond (.t 63) (.seq (.reg false [.r (some 6) (.mv (.c (.bool false)))] [6]) <|
  .ret) (.skip))) <|
  .reg false [.r (some 52) (.mv (.t 13)),
    .r (some 53) (.bi .add (.t 52) (.c (.int .i64 1))),
    .r (some 13) (.mv (.t 53))] [2, 8, 10, 12, 13]
def ir3L2 : IR := .seq (.seq (.reg false [.r (some 76) (.mv (.t 15)),
    .r (some 77) (.mv (.t 10)),
    .e (some 78) (.call 11 [(.t 77)]),
    .r (some 79) (.bi .lss (.t 76) (.t 78))] [8, 10, 12, 15, 79]) <|
  .cond (.t 79) (.skip) ((.exit 2))) <|
  .seq (.block 3 (.seq (.reg false [.r (some 82) (.mv (.t 12)),
    .r (some 83) (.mv (.t 8)),
    .r (some 84) (.mv (.t 10)),
    .r (some 85) (.mv (.t 15)),
    .r (some 86) (.bd #[(.int .i64 0), (.int .i64 0), (.int .i64 0), (.int .i64 0), (.slice none 0 0), (.slice none 0 0)] [(0, 1, (.c (.int .i64 2))), (1, 1, (.t 85))]),
    .e (some 87) (.call 9 [(.t 82), (.t 83), (.t 84), (.t 86)]),
    .r (some 16) (.mv (.t 87))] [8, 10, 12, 15, 16]) <|
  .seq (.reg false [.r (some 88) (.mv (.t 16)),
    .r (some 89) (.no (.t 88))] [8, 10, 12, 15, 89]) <|
  .cond (.t 89) (.seq (.reg false [.r (some 6) (.mv (.c (.bool false)))] [6]) <|
  .ret) (.skip))) <|
  .reg false [.r (some 80) (.mv (.t 15)),
    .r (some 81) (.bi .add (.t 80) (.c (.int .i64 1))),
    .r (some 15) (.mv (.t 81))] [8, 10, 12, 15]
def ir3 : IR := .seq (.reg false [.r (some 6) (.mv (.c (.bool false)))] [0, 1, 2]) <|
  .seq (.reg false [.e (some 17) (.call 6 []),
    .r (some 7) (.mv (.t 17))] [0, 1, 2, 7]) <|
  .seq (.reg false [.r (some 19) (.mv (.t 0)),
    .r (some 20) (.mv (.t 1)),
    .e (some 21) (.call 7 [(.t 19), (.t 20)]),
    .r (some 18) (.mv (.t 21)),
    .r (some 22) (.ex 0 (.t 18)),
    .r (some 23) (.ex 1 (.t 18)),
    .r (some 8) (.mv (.t 22)),
    .r (some 9) (.mv (.t 23))] [0, 1, 2, 7, 8, 9]) <|
  .seq (.reg false [.r (some 25) (.mv (.t 0)),
    .r (some 26) (.mv (.t 1)),
    .e (some 27) (.call 8 [(.t 25), (.t 26)]),
    .r (some 24) (.mv (.t 27)),
    .r (some 28) (.ex 0 (.t 24)),
    .r (some 29) (.ex 1 (.t 24)),
    .r (some 10) (.mv (.t 28)),
    .r (some 11) (.mv (.t 29))] [2, 7, 8, 9, 10, 11]) <|
  .seq (.seq (.reg false [.r (some 30) (.mv (.t 7)),
    .r (some 31) (.no (.t 30)),
    .r (some 32) (.mv (.t 31)),
    .gr 32 false (some 33) (.mv (.t 9)),
    .gr 32 false (some 34) (.mv (.t 11)),
    .gr 32 false (some 35) (.bi .neq (.t 33) (.t 34)),
    .r (some 36) (.pk (.t 32) (.c (.bool true)) (.t 35)),
    .r (some 37) (.mv (.t 36)),
    .gr 37 false (some 38) (.mv (.t 8)),
    .gr 37 false (some 39) (.eq .ptr false (.t 38) (.c (.pointer none))),
    .gr 37 false (some 40) (.mv (.t 10)),
    .gr 37 false (some 41) (.eq .ptr false (.t 40) (.c (.pointer none))),
    .gr 37 false (some 42) (.eq .bool true (.t 39) (.t 41)),
    .r (some 43) (.pk (.t 37) (.c (.bool true)) (.t 42))] [2, 8, 10, 43]) <|
  .cond (.t 43) (.seq (.reg false [.r (some 6) (.mv (.c (.bool false)))] [6]) <|
  .ret) (.skip)) <|
  .seq (.seq (.reg false [.r (some 44) (.mv (.t 10)),
    .r (some 45) (.eq .ptr false (.t 44) (.c (.pointer none)))] [2, 8, 10, 45]) <|
  .cond (.t 45) (.seq (.reg false [.r (some 6) (.mv (.c (.bool true)))] [6]) <|
  .ret) (.skip)) <|
  .seq (.reg false [.r (some 46) (.bd #[(.slice none 0 0), (.slice none 0 0)] []),
    .e (some 47) (.bx 35 (.t 46)),
    .r (some 12) (.mv (.t 47))] [2, 8, 10, 12]) <|
  .seq (.seq (.reg false [.r (some 13) (.mv (.c (.int .i64 0)))] [2, 8, 10, 12, 13]) <|
  .block 0 (.loop ir3L1)) <|
  .seq (.seq (.reg false [.r (some 64) (.mv (.t 8)),
    .e (some 65) (.call 10 [(.t 64)]),
    .r (some 66) (.mv (.t 10)),
    .e (some 67) (.call 11 [(.t 66)]),
    .r (some 68) (.bi .neq (.t 65) (.t 67)),
    .r (some 69) (.mv (.t 68)),
    .gr 69 false (some 70) (.mv (.t 8)),
    .ge 69 false (some 71) (.call 12 [(.t 70)]),
    .gr 69 false (some 72) (.mv (.t 10)),
    .ge 69 false (some 73) (.call 13 [(.t 72)]),
    .gr 69 false (some 74) (.bi .neq (.t 71) (.t 73)),
    .r (some 75) (.pk (.t 69) (.c (.bool true)) (.t 74))] [8, 10, 12, 75]) <|
  .cond (.t 75) (.seq (.reg false [.r (some 6) (.mv (.c (.bool false)))] [6]) <|
  .ret) (.skip)) <|
  .seq (.seq (.reg false [.r (some 15) (.mv (.c (.int .i64 0)))] [8, 10, 12, 15]) <|
  .block 2 (.loop ir3L2)) <|
  .seq (.reg false [.r (some 90) (.mv (.t 12)),
    .e (some 91) (.call 14 [(.t 90)]),
    .r (some 6) (.mv (.t 91))] [6]) <|
  .ret
theorem fit3 : Fits Try.prog 3 3 [(0, [0, 1, 2], []), (1, [0, 1, 2, 7], []), (2, [0, 1, 2, 7, 8, 9], []), (3, [2, 7, 8, 9, 10, 11], []), (4, [2, 8, 10, 43], []), (5, [6], []), (6, [2, 8, 10, 45], []), (7, [6], []), (8, [2, 8, 10, 12], []), (9, [2, 8, 10, 12, 13], []), (10, [2, 8, 10, 12, 13, 51], []), (11, [2, 8, 10, 12, 13], []), (12, [2, 8, 10, 12, 13, 14], []), (13, [2, 8, 10, 12, 13, 63], []), (14, [6], []), (15, [8, 10, 12, 75], []), (16, [6], []), (17, [8, 10, 12, 15], []), (18, [8, 10, 12, 15, 79], []), (19, [8, 10, 12, 15], []), (20, [8, 10, 12, 15, 16], []), (21, [8, 10, 12, 15, 89], []), (22, [6], []), (23, [6], [])] ir3 [.t 6] 92 :=
  ⟨Try.f3, _, rfl, rfl, rfl, by decide, by kernel_rfl, by kernel_rfl⟩

/- 4 sloth/slothlaw21.GensApart (4) -/
def ir4L1 : IR := .seq (.seq (.reg false [.r (some 70) (.mv (.t 14)),
    .r (some 71) (.eq .ptr true (.t 70) (.c (.pointer none))),
    .r (some 72) (.mv (.t 71)),
    .gr 72 true (some 73) (.mv (.t 19)),
    .gr 72 true (some 74) (.mv (.t 2)),
    .gr 72 true (some 75) (.len (.t 74)),
    .gr 72 true (some 76) (.bi .lss (.t 73) (.t 75)),
    .gr 72 true (some 77) (.mv (.t 76)),
    .gr 77 false (some 78) (.mv (.t 19)),
    .gr 77 false (some 79) (.mv (.t 3)),
    .gr 77 false (some 80) (.len (.t 79)),
    .gr 77 false (some 81) (.bi .lss (.t 78) (.t 80)),
    .gr 72 true (some 82) (.pk (.t 77) (.c (.bool true)) (.t 81)),
    .r (some 83) (.pk (.t 72) (.t 82) (.c (.bool false)))] [2, 3, 10, 12, 14, 16, 18, 19, 83]) <|
  .cond (.t 83) (.skip) ((.exit 0))) <|
  .seq (.block 1 (.seq (.seq (.reg false [.r (some 86) (.mv (.t 19)),
    .r (some 87) (.mv (.t 2)),
    .r (some 88) (.len (.t 87)),
    .r (some 89) (.bi .lss (.t 86) (.t 88))] [2, 3, 10, 12, 14, 16, 18, 19, 89]) <|
  .cond (.t 89) (.seq (.reg false [.r (some 90) (.mv (.t 18)),
    .r (some 91) (.mv (.t 10)),
    .r (some 92) (.mv (.t 14)),
    .r (some 93) (.mv (.t 2)),
    .r (some 94) (.mv (.t 19)),
    .r (some 95) (.ia 6 (.t 93) (.t 94)),
    .r (some 96) (.ln 6 (.t 95)),
    .e (some 97) (.call 9 [(.t 90), (.t 91), (.t 92), (.t 96)]),
    .r (some 20) (.mv (.t 97))] [2, 3, 10, 12, 14, 16, 18, 19, 20]) <|
  .seq (.reg false [.r (some 98) (.mv (.t 20)),
    .r (some 99) (.no (.t 98))] [2, 3, 10, 12, 14, 16, 18, 19, 99]) <|
  .cond (.t 99) (.seq (.reg false [.r (some 8) (.mv (.c (.bool false)))] [8]) <|
  .ret) (.skip)) (.skip)) <|
  .seq (.reg false [.r (some 100) (.mv (.t 19)),
    .r (some 101) (.mv (.t 3)),
    .r (some 102) (.len (.t 101)),
    .r (some 103) (.bi .lss (.t 100) (.t 102))] [2, 3, 10, 12, 14, 16, 18, 19, 103]) <|
  .cond (.t 103) (.seq (.reg false [.r (some 104) (.mv (.t 18)),
    .r (some 105) (.mv (.t 12)),
    .r (some 106) (.mv (.t 16)),
    .r (some 107) (.mv (.t 3)),
    .r (some 108) (.mv (.t 19)),
    .r (some 109) (.ia 6 (.t 107) (.t 108)),
    .r (some 110) (.ln 6 (.t 109)),
    .e (some 111) (.call 9 [(.t 104), (.t 105), (.t 106), (.t 110)]),
    .r (some 21) (.mv (.t 111))] [2, 3, 10, 12, 14, 16, 18, 19, 21]) <|
  .seq (.reg false [.r (some 112) (.mv (.t 21)),
    .r (some 113) (.no (.t 112))] [2, 3, 10, 12, 14, 16, 18, 19, 113]) <|
  .cond (.t 113) (.seq (.reg false [.r (some 8) (.mv (.c (.bool false)))] [8]) <|
  .ret) (.skip)) (.skip))) <|
  .reg false [.r (some 84) (.mv (.t 19)),
    .r (some 85) (.bi .add (.t 84) (.c (.int .i64 1))),
    .r (some 19) (.mv (.t 85))] [2, 3, 10, 12, 14, 16, 18, 19]
def ir4 : IR := .seq (.reg false [.r (some 8) (.mv (.c (.bool false)))] [0, 1, 2, 3]) <|
  .seq (.reg false [.e (some 22) (.call 6 []),
    .r (some 9) (.mv (.t 22))] [0, 1, 2, 3, 9]) <|
  .seq (.reg false [.r (some 24) (.mv (.t 0)),
    .r (some 25) (.mv (.t 1)),
    .e (some 26) (.call 7 [(.t 24), (.t 25)]),
    .r (some 23) (.mv (.t 26)),
    .r (some 27) (.ex 0 (.t 23)),
    .r (some 28) (.ex 1 (.t 23)),
    .r (some 10) (.mv (.t 27)),
    .r (some 11) (.mv (.t 28))] [0, 1, 2, 3, 9, 10, 11]) <|
  .seq (.reg false [.r (some 30) (.mv (.t 0)),
    .r (some 31) (.mv (.t 1)),
    .e (some 32) (.call 7 [(.t 30), (.t 31)]),
    .r (some 29) (.mv (.t 32)),
    .r (some 33) (.ex 0 (.t 29)),
    .r (some 34) (.ex 1 (.t 29)),
    .r (some 12) (.mv (.t 33)),
    .r (some 13) (.mv (.t 34))] [0, 1, 2, 3, 9, 10, 11, 12, 13]) <|
  .seq (.reg false [.r (some 36) (.mv (.t 0)),
    .r (some 37) (.mv (.t 1)),
    .e (some 38) (.call 8 [(.t 36), (.t 37)]),
    .r (some 35) (.mv (.t 38)),
    .r (some 39) (.ex 0 (.t 35)),
    .r (some 40) (.ex 1 (.t 35)),
    .r (some 14) (.mv (.t 39)),
    .r (some 15) (.mv (.t 40))] [0, 1, 2, 3, 9, 10, 11, 12, 13, 14]) <|
  .seq (.reg false [.r (some 42) (.mv (.t 0)),
    .r (some 43) (.mv (.t 1)),
    .e (some 44) (.call 8 [(.t 42), (.t 43)]),
    .r (some 41) (.mv (.t 44)),
    .r (some 45) (.ex 0 (.t 41)),
    .r (some 46) (.ex 1 (.t 41)),
    .r (some 16) (.mv (.t 45)),
    .r (some 17) (.mv (.t 46))] [2, 3, 9, 10, 11, 12, 13, 14, 16]) <|
  .seq (.seq (.reg false [.r (some 47) (.mv (.t 9)),
    .r (some 48) (.no (.t 47)),
    .r (some 49) (.mv (.t 48)),
    .gr 49 false (some 50) (.mv (.t 11)),
    .gr 49 false (some 51) (.mv (.t 13)),
    .gr 49 false (some 52) (.bi .neq (.t 50) (.t 51)),
    .r (some 53) (.pk (.t 49) (.c (.bool true)) (.t 52)),
    .r (some 54) (.mv (.t 53)),
    .gr 54 false (some 55) (.mv (.t 10)),
    .gr 54 false (some 56) (.eq .ptr false (.t 55) (.c (.pointer none))),
    .gr 54 false (some 57) (.mv (.t 14)),
    .gr 54 false (some 58) (.eq .ptr false (.t 57) (.c (.pointer none))),
    .gr 54 false (some 59) (.eq .bool true (.t 56) (.t 58)),
    .r (some 60) (.pk (.t 54) (.c (.bool true)) (.t 59)),
    .r (some 61) (.mv (.t 60)),
    .gr 61 false (some 62) (.mv (.t 12)),
    .gr 61 false (some 63) (.eq .ptr false (.t 62) (.c (.pointer none))),
    .gr 61 false (some 64) (.mv (.t 16)),
    .gr 61 false (some 65) (.eq .ptr false (.t 64) (.c (.pointer none))),
    .gr 61 false (some 66) (.eq .bool true (.t 63) (.t 65)),
    .r (some 67) (.pk (.t 61) (.c (.bool true)) (.t 66))] [2, 3, 10, 12, 14, 16, 67]) <|
  .cond (.t 67) (.seq (.reg false [.r (some 8) (.mv (.c (.bool false)))] [8]) <|
  .ret) (.skip)) <|
  .seq (.reg false [.r (some 68) (.bd #[(.slice none 0 0), (.slice none 0 0)] []),
    .e (some 69) (.bx 35 (.t 68)),
    .r (some 18) (.mv (.t 69))] [2, 3, 10, 12, 14, 16, 18]) <|
  .seq (.seq (.reg false [.r (some 19) (.mv (.c (.int .i64 0)))] [2, 3, 10, 12, 14, 16, 18, 19]) <|
  .block 0 (.loop ir4L1)) <|
  .seq (.reg false [.r (some 114) (.mv (.t 18)),
    .e (some 115) (.call 14 [(.t 114)]),
    .r (some 8) (.mv (.t 115))] [8]) <|
  .ret
theorem fit4 : Fits Try.prog 4 4 [(0, [0, 1, 2, 3], []), (1, [0, 1, 2, 3, 9], []), (2, [0, 1, 2, 3, 9, 10, 11], []), (3, [0, 1, 2, 3, 9, 10, 11, 12, 13], []), (4, [0, 1, 2, 3, 9, 10, 11, 12, 13, 14], []), (5, [2, 3, 9, 10, 11, 12, 13, 14, 16], []), (6, [2, 3, 10, 12, 14, 16, 67], []), (7, [8], []), (8, [2, 3, 10, 12, 14, 16, 18], []), (9, [2, 3, 10, 12, 14, 16, 18, 19], []), (10, [2, 3, 10, 12, 14, 16, 18, 19, 83], []), (11, [2, 3, 10, 12, 14, 16, 18, 19], []), (12, [2, 3, 10, 12, 14, 16, 18, 19, 89], []), (13, [2, 3, 10, 12, 14, 16, 18, 19, 20], []), (14, [2, 3, 10, 12, 14, 16, 18, 19, 99], []), (15, [8], []), (16, [2, 3, 10, 12, 14, 16, 18, 19, 103], []), (17, [2, 3, 10, 12, 14, 16, 18, 19, 21], []), (18, [2, 3, 10, 12, 14, 16, 18, 19, 113], []), (19, [8], []), (20, [8], [])] ir4 [.t 8] 116 :=
  ⟨Try.f4, _, rfl, rfl, rfl, by decide, by kernel_rfl, by kernel_rfl⟩

/- 5 sloth/slothlaw21.GensAlike (3) -/
def ir5L1 : IR := .seq (.seq (.reg false [.r (some 91) (.mv (.t 15)),
    .r (some 92) (.mv (.t 2)),
    .r (some 93) (.len (.t 92)),
    .r (some 94) (.bi .lss (.t 91) (.t 93))] [0, 2, 8, 10, 12, 13, 14, 15, 94]) <|
  .cond (.t 94) (.skip) ((.exit 0))) <|
  .seq (.block 1 (.seq (.reg false [.r (some 97) (.mv (.t 2)),
    .r (some 98) (.mv (.t 15)),
    .r (some 99) (.ia 5 (.t 97) (.t 98)),
    .r (some 100) (.ln 5 (.t 99)),
    .e (some 16) (.al 49 (.agg #[(.int .i64 0), (.int .i64 0), (.int .i64 0), (.int .i64 0), (.slice none 0 0)])),
    .e none (.st 5 (.t 16) (.t 100))] [0, 2, 8, 10, 12, 13, 14, 15, 16]) <|
  .seq (.reg false [.r (some 101) (.fa 0 (.t 16)),
    .r (some 102) (.l1 (.t 101))] [0, 2, 8, 10, 12, 13, 14, 15, 16, 102]) <|
  .block 2 (.seq (.reg false [.r (some 152) (.bi .eql (.t 102) (.c (.int .i64 1))),
    .r (some 151) (.mv (.t 152))] [0, 2, 8, 10, 12, 13, 14, 15, 16, 102, 151]) <|
  .cond (.t 151) (.seq (.reg false [.r (some 154) (.ln 5 (.t 16)),
    .r (some 155) (.mv (.t 12)),
    .e (some 156) (.call 16 [(.t 154), (.t 155)]),
    .r (some 153) (.mv (.t 156)),
    .r (some 157) (.ex 0 (.t 153)),
    .r (some 158) (.ex 1 (.t 153)),
    .e (some 17) (.al 38 (.agg #[(.int .i64 0), (.int .i64 0), (.slice none 0 0)])),
    .e none (.st 3 (.t 17) (.t 157)),
    .r (some 18) (.mv (.t 158))] [0, 2, 8, 10, 12, 13, 14, 15, 16, 17, 18]) <|
  .seq (.reg false [.r (some 160) (.ln 5 (.t 16)),
    .r (some 161) (.mv (.t 13)),
    .e (some 162) (.call 16 [(.t 160), (.t 161)]),
    .r (some 159) (.mv (.t 162)),
    .r (some 163) (.ex 0 (.t 159)),
    .r (some 164) (.ex 1 (.t 159)),
    .e (some 19) (.al 38 (.agg #[(.int .i64 0), (.int .i64 0), (.slice none 0 0)])),
    .e none (.st 3 (.t 19) (.t 163)),
    .r (some 20) (.mv (.t 164))] [0, 2, 8, 10, 12, 13, 14, 15, 17, 18, 19, 20]) <|
  .seq (.reg false [.r (some 165) (.mv (.t 18)),
    .r (some 166) (.mv (.t 165)),
    .gr 166 true (some 167) (.mv (.t 20)),
    .r (some 168) (.pk (.t 166) (.t 167) (.c (.bool false))),
    .r (some 169) (.mv (.t 168)),
    .gr 169 true (some 170) (.mv (.t 14)),
    .gr 169 true (some 171) (.bi .gtr (.t 170) (.c (.int .i64 0))),
    .r (some 172) (.pk (.t 169) (.t 171) (.c (.bool false)))] [0, 2, 8, 10, 12, 13, 14, 15, 17, 19, 172]) <|
  .cond (.t 172) (.seq (.reg false [.r (some 173) (.mv (.t 14)),
    .r (some 174) (.bi .sub (.t 173) (.c (.int .i64 1))),
    .r (some 14) (.mv (.t 174))] [0, 2, 8, 10, 12, 13, 14, 15, 17, 19]) <|
  .seq (.reg false [.r (some 176) (.mv (.t 8)),
    .r (some 177) (.ln 3 (.t 17)),
    .e (some 178) (.call 17 [(.t 176), (.t 177)]),
    .r (some 175) (.mv (.t 178)),
    .r (some 179) (.ex 0 (.t 175)),
    .r (some 180) (.ex 1 (.t 175)),
    .r (some 21) (.mv (.t 179)),
    .r (some 22) (.mv (.t 180))] [0, 2, 8, 10, 12, 13, 14, 15, 19, 21, 22]) <|
  .seq (.reg false [.r (some 182) (.mv (.t 10)),
    .r (some 183) (.ln 3 (.t 19)),
    .e (some 184) (.call 18 [(.t 182), (.t 183)]),
    .r (some 181) (.mv (.t 184)),
    .r (some 185) (.ex 0 (.t 181)),
    .r (some 186) (.ex 1 (.t 181)),
    .r (some 23) (.mv (.t 185)),
    .r (some 24) (.mv (.t 186))] [0, 2, 8, 10, 12, 13, 14, 15, 21, 22, 23, 24]) <|
  .seq (.seq (.reg false [.r (some 187) (.mv (.t 22)),
    .r (some 188) (.mv (.t 24)),
    .e (some 189) (.call 19 [(.t 187), (.t 188)]),
    .r (some 190) (.no (.t 189))] [0, 2, 8, 10, 12, 13, 14, 15, 21, 22, 23, 190]) <|
  .cond (.t 190) (.seq (.reg false [.r (some 6) (.mv (.c (.bool false)))] [6]) <|
  .ret) (.skip)) <|
  .seq (.reg false [.r (some 191) (.mv (.t 22)),
    .r (some 192) (.bi .eql (.t 191) (.c (.int .i64 0)))] [0, 2, 8, 10, 12, 13, 14, 15, 21, 23, 192]) <|
  .cond (.t 192) (.seq (.reg false [.r (some 193) (.mv (.t 12)),
    .r (some 194) (.mv (.t 21)),
    .e (some 195) (.bs 3 1 #[(.int .i64 0)] [(0, 1, (.t 194))]),
    .e (some 196) (.ap 3 1 8 #[(.int .i64 0)] (.t 193) (.t 195)),
    .r (some 12) (.mv (.t 196))] [0, 2, 8, 10, 12, 13, 14, 15, 23]) <|
  .reg false [.r (some 197) (.mv (.t 13)),
    .r (some 198) (.mv (.t 23)),
    .e (some 199) (.bs 3 1 #[(.int .i64 0)] [(0, 1, (.t 198))]),
    .e (some 200) (.ap 3 1 8 #[(.int .i64 0)] (.t 197) (.t 199)),
    .r (some 13) (.mv (.t 200))] [0, 2, 8, 10, 12, 13, 14, 15]) (.skip)) (.skip)) (.seq (.reg false [.r (some 202) (.bi .eql (.t 102) (.c (.int .i64 2))),
    .r (some 201) (.mv (.t 202))] [0, 2, 8, 10, 12, 13, 14, 15, 16, 102, 201]) <|
  .cond (.t 201) (.seq (.reg false [.r (some 204) (.ln 5 (.t 16)),
    .r (some 205) (.mv (.t 12)),
    .e (some 206) (.call 16 [(.t 204), (.t 205)]),
    .r (some 203) (.mv (.t 206)),
    .r (some 207) (.ex 0 (.t 203)),
    .r (some 208) (.ex 1 (.t 203)),
    .e (some 25) (.al 38 (.agg #[(.int .i64 0), (.int .i64 0), (.slice none 0 0)])),
    .e none (.st 3 (.t 25) (.t 207)),
    .r (some 26) (.mv (.t 208))] [0, 2, 8, 10, 12, 13, 14, 15, 16, 25, 26]) <|
  .seq (.reg false [.r (some 210) (.ln 5 (.t 16)),
    .r (some 211) (.mv (.t 13)),
    .e (some 212) (.call 16 [(.t 210), (.t 211)]),
    .r (some 209) (.mv (.t 212)),
    .r (some 213) (.ex 0 (.t 209)),
    .r (some 214) (.ex 1 (.t 209)),
    .e (some 27) (.al 38 (.agg #[(.int .i64 0), (.int .i64 0), (.slice none 0 0)])),
    .e none (.st 3 (.t 27) (.t 213)),
    .r (some 28) (.mv (.t 214))] [0, 2, 8, 10, 12, 13, 14, 15, 16, 25, 26, 27, 28]) <|
  .seq (.reg false [.r (some 215) (.mv (.t 12)),
    .r (some 216) (.fa 1 (.t 16)),
    .r (some 217) (.l1 (.t 216)),
    .e (some 218) (.call 20 [(.t 215), (.t 217)]),
    .r (some 29) (.mv (.t 218))] [0, 2, 8, 10, 12, 13, 14, 15, 16, 25, 26, 27, 28, 29]) <|
  .seq (.reg false [.r (some 219) (.mv (.t 13)),
    .r (some 220) (.fa 1 (.t 16)),
    .r (some 221) (.l1 (.t 220)),
    .e (some 222) (.call 20 [(.t 219), (.t 221)]),
    .r (some 30) (.mv (.t 222))] [0, 2, 8, 10, 12, 13, 14, 15, 25, 26, 27, 28, 29, 30]) <|
  .seq (.reg false [.r (some 31) (.mv (.c (.bool false)))] [0, 2, 8, 10, 12, 13, 14, 15, 25, 26, 27, 28, 29, 30, 31]) <|
  .seq (.seq (.reg false [.r (some 223) (.mv (.t 29)),
    .r (some 224) (.bi .geq (.t 223) (.c (.int .i64 0))),
    .r (some 225) (.mv (.t 224)),
    .gr 225 true (some 226) (.mv (.t 30)),
    .gr 225 true (some 227) (.bi .geq (.t 226) (.c (.int .i64 0))),
    .r (some 228) (.pk (.t 225) (.t 227) (.c (.bool false)))] [0, 2, 8, 10, 12, 13, 14, 15, 25, 26, 27, 28, 29, 30, 31, 228]) <|
  .cond (.t 228) (.seq (.reg false [.r (some 230) (.mv (.t 8)),
    .r (some 231) (.mv (.t 29)),
    .e (some 232) (.call 21 [(.t 230), (.t 231)]),
    .r (some 229) (.mv (.t 232)),
    .r (some 233) (.ex 0 (.t 229)),
    .r (some 234) (.ex 1 (.t 229)),
    .r (some 32) (.mv (.t 233)),
    .r (some 33) (.mv (.t 234))] [0, 2, 8, 10, 12, 13, 14, 15, 25, 26, 27, 28, 30, 32, 33]) <|
  .seq (.reg false [.r (some 236) (.mv (.t 10)),
    .r (some 237) (.mv (.t 30)),
    .e (some 238) (.call 22 [(.t 236), (.t 237)]),
    .r (some 235) (.mv (.t 238)),
    .r (some 239) (.ex 0 (.t 235)),
    .r (some 240) (.ex 1 (.t 235)),
    .r (some 34) (.mv (.t 239)),
    .r (some 35) (.mv (.t 240))] [0, 2, 8, 10, 12, 13, 14, 15, 25, 26, 27, 28, 32, 33, 34, 35]) <|
  .seq (.reg false [.r (some 241) (.mv (.t 32)),
    .r (some 29) (.mv (.t 241))] [0, 2, 8, 10, 12, 13, 14, 15, 25, 26, 27, 28, 29, 33, 34, 35]) <|
  .seq (.reg false [.r (some 242) (.mv (.t 34)),
    .r (some 30) (.mv (.t 242))] [0, 2, 8, 10, 12, 13, 14, 15, 25, 26, 27, 28, 29, 30, 33, 35]) <|
  .seq (.reg false [.r (some 243) (.mv (.t 33)),
    .r (some 244) (.mv (.t 243)),
    .gr 244 false (some 245) (.mv (.t 35)),
    .r (some 246) (.pk (.t 244) (.c (.bool true)) (.t 245)),
    .r (some 31) (.mv (.t 246))] [0, 2, 8, 10, 12, 13, 14, 15, 25, 26, 27, 28, 29, 30, 31, 33, 35]) <|
  .seq (.reg false [.r (some 247) (.mv (.t 33)),
    .r (some 248) (.mv (.t 35)),
    .r (some 249) (.eq .bool true (.t 247) (.t 248))] [0, 2, 8, 10, 12, 13, 14, 15, 25, 26, 27, 28, 29, 30, 31, 249]) <|
  .cond (.t 249) (.seq (.reg false [.r (some 6) (.mv (.c (.bool false)))] [6]) <|
  .ret) (.skip)) (.skip)) <|
  .seq (.reg false [.r (some 250) (.mv (.t 26)),
    .r (some 251) (.mv (.t 250)),
    .gr 251 true (some 252) (.mv (.t 28)),
    .r (some 253) (.pk (.t 251) (.t 252) (.c (.bool false))),
    .r (some 254) (.mv (.t 253)),
    .gr 254 true (some 255) (.mv (.t 29)),
    .gr 254 true (some 256) (.bi .geq (.t 255) (.c (.int .i64 0))),
    .r (some 257) (.pk (.t 254) (.t 256) (.c (.bool false))),
    .r (some 258) (.mv (.t 257)),
    .gr 258 true (some 259) (.mv (.t 30)),
    .gr 258 true (some 260) (.bi .geq (.t 259) (.c (.int .i64 0))),
    .r (some 261) (.pk (.t 258) (.t 260) (.c (.bool false))),
    .r (some 262) (.mv (.t 261)),
    .gr 262 true (some 263) (.mv (.t 31)),
    .gr 262 true (some 264) (.no (.t 263)),
    .r (some 265) (.pk (.t 262) (.t 264) (.c (.bool false)))] [0, 2, 8, 10, 12, 13, 14, 15, 25, 27, 29, 30, 265]) <|
  .cond (.t 265) (.seq (.reg false [.r (some 266) (.mv (.t 8)),
    .r (some 267) (.mv (.t 29)),
    .r (some 268) (.ln 3 (.t 25)),
    .e (some 269) (.call 23 [(.t 266), (.t 267), (.t 268)]),
    .r (some 36) (.mv (.t 269))] [0, 2, 8, 10, 12, 13, 14, 15, 27, 30, 36]) <|
  .seq (.reg false [.r (some 270) (.mv (.t 10)),
    .r (some 271) (.mv (.t 30)),
    .r (some 272) (.ln 3 (.t 27)),
    .e (some 273) (.call 24 [(.t 270), (.t 271), (.t 272)]),
    .r (some 37) (.mv (.t 273))] [0, 2, 8, 10, 12, 13, 14, 15, 36, 37]) <|
  .seq (.reg false [.r (some 274) (.mv (.t 36)),
    .r (some 275) (.mv (.t 37)),
    .e (some 276) (.call 19 [(.t 274), (.t 275)]),
    .r (some 277) (.no (.t 276))] [0, 2, 8, 10, 12, 13, 14, 15, 277]) <|
  .cond (.t 277) (.seq (.reg false [.r (some 6) (.mv (.c (.bool false)))] [6]) <|
  .ret) (.skip)) (.skip)) (.seq (.reg false [.r (some 279) (.bi .eql (.t 102) (.c (.int .i64 5))),
    .r (some 278) (.mv (.t 279))] [0, 2, 8, 10, 12, 13, 14, 15, 16, 278]) <|
  .cond (.t 278) (.seq (.reg false [.r (some 280) (.mv (.t 12)),
    .r (some 281) (.len (.t 280)),
    .r (some 282) (.bi .gtr (.t 281) (.c (.int .i64 0)))] [0, 2, 8, 10, 12, 13, 14, 15, 282]) <|
  .cond (.t 282) (.seq (.reg false [.r (some 283) (.mv (.t 12)),
    .r (some 284) (.mv (.t 12)),
    .r (some 285) (.len (.t 284)),
    .r (some 286) (.bi .sub (.t 285) (.c (.int .i64 1))),
    .r (some 287) (.sl 1 (.t 283) none (some (.t 286)) none),
    .r (some 12) (.mv (.t 287))] [0, 2, 8, 10, 12, 13, 14, 15]) <|
  .reg false [.r (some 288) (.mv (.t 13)),
    .r (some 289) (.mv (.t 13)),
    .r (some 290) (.len (.t 289)),
    .r (some 291) (.bi .sub (.t 290) (.c (.int .i64 1))),
    .r (some 292) (.sl 1 (.t 288) none (some (.t 291)) none),
    .r (some 13) (.mv (.t 292))] [0, 2, 8, 10, 12, 13, 14, 15]) (.skip)) (.seq (.reg false [.r (some 104) (.mv (.t 8)),
    .r (some 105) (.mv (.t 10)),
    .r (some 106) (.ln 5 (.t 16)),
    .r (some 107) (.mv (.t 12)),
    .r (some 108) (.mv (.t 13)),
    .e (some 109) (.call 25 [(.t 104), (.t 105), (.t 106), (.t 107), (.t 108)]),
    .r (some 103) (.mv (.t 109)),
    .r (some 110) (.ex 0 (.t 103)),
    .r (some 111) (.ex 1 (.t 103)),
    .r (some 112) (.ex 2 (.t 103)),
    .r (some 113) (.ex 3 (.t 103)),
    .r (some 38) (.mv (.t 110)),
    .r (some 39) (.mv (.t 111)),
    .r (some 40) (.mv (.t 112)),
    .r (some 41) (.mv (.t 113))] [0, 2, 8, 10, 12, 13, 14, 15, 16, 38, 39, 40, 41]) <|
  .seq (.seq (.reg false [.r (some 114) (.mv (.t 40)),
    .r (some 115) (.mv (.t 41)),
    .e (some 116) (.call 19 [(.t 114), (.t 115)]),
    .r (some 117) (.no (.t 116))] [0, 2, 8, 10, 12, 13, 14, 15, 16, 38, 39, 40, 117]) <|
  .cond (.t 117) (.seq (.reg false [.r (some 6) (.mv (.c (.bool false)))] [6]) <|
  .ret) (.skip)) <|
  .seq (.seq (.reg false [.r (some 118) (.mv (.t 40)),
    .r (some 119) (.bi .eql (.t 118) (.c (.int .i64 211)))] [0, 2, 8, 10, 12, 13, 14, 15, 16, 38, 39, 40, 119]) <|
  .cond (.t 119) (.seq (.reg false [.r (some 6) (.mv (.c (.bool true)))] [6]) <|
  .ret) (.skip)) <|
  .seq (.seq (.reg false [.r (some 120) (.mv (.t 40)),
    .r (some 121) (.bi .eql (.t 120) (.c (.int .i64 0)))] [0, 2, 8, 10, 12, 13, 14, 15, 16, 38, 39, 121]) <|
  .cond (.t 121) (.seq (.seq (.reg false [.r (some 122) (.mv (.t 38)),
    .r (some 123) (.len (.t 122)),
    .r (some 124) (.mv (.t 12)),
    .r (some 125) (.len (.t 124)),
    .r (some 126) (.bi .neq (.t 123) (.t 125)),
    .r (some 127) (.mv (.t 126)),
    .gr 127 false (some 128) (.mv (.t 39)),
    .gr 127 false (some 129) (.len (.t 128)),
    .gr 127 false (some 130) (.mv (.t 13)),
    .gr 127 false (some 131) (.len (.t 130)),
    .gr 127 false (some 132) (.bi .neq (.t 129) (.t 131)),
    .r (some 133) (.pk (.t 127) (.c (.bool true)) (.t 132))] [0, 2, 8, 10, 15, 16, 38, 39, 133]) <|
  .cond (.t 133) (.seq (.reg false [.r (some 6) (.mv (.c (.bool false)))] [6]) <|
  .ret) (.skip)) <|
  .seq (.reg false [.r (some 134) (.mv (.t 38)),
    .e (some 135) (.call 26 [(.t 134)]),
    .r (some 12) (.mv (.t 135))] [0, 2, 8, 10, 12, 15, 16, 39]) <|
  .seq (.reg false [.r (some 136) (.mv (.t 39)),
    .e (some 137) (.call 26 [(.t 136)]),
    .r (some 13) (.mv (.t 137))] [0, 2, 8, 10, 12, 13, 15, 16]) <|
  .seq (.reg false [.r (some 14) (.mv (.c (.int .i64 0)))] [0, 2, 8, 10, 12, 13, 14, 15, 16]) <|
  .seq (.reg false [.r (some 138) (.fa 0 (.t 16)),
    .r (some 139) (.l1 (.t 138)),
    .r (some 140) (.bi .neq (.t 139) (.c (.int .i64 4)))] [0, 2, 8, 10, 12, 13, 14, 15, 16, 140]) <|
  .cond (.t 140) (.reg false [.r (some 141) (.fa 1 (.t 16)),
    .r (some 142) (.l1 (.t 141)),
    .r (some 14) (.mv (.t 142))] [0, 2, 8, 10, 12, 13, 14, 15]) (.skip)) (.skip)) <|
  .seq (.reg false [.r (some 143) (.mv (.t 0)),
    .r (some 144) (.mv (.t 8)),
    .r (some 145) (.mv (.t 10)),
    .r (some 146) (.mv (.t 12)),
    .r (some 147) (.mv (.t 13)),
    .e (some 148) (.call 27 [(.t 143), (.t 144), (.t 145), (.t 146), (.t 147)]),
    .r (some 42) (.mv (.t 148))] [0, 2, 8, 10, 12, 13, 14, 15, 42]) <|
  .seq (.reg false [.r (some 149) (.mv (.t 42)),
    .r (some 150) (.no (.t 149))] [0, 2, 8, 10, 12, 13, 14, 15, 150]) <|
  .cond (.t 150) (.seq (.reg false [.r (some 6) (.mv (.c (.bool false)))] [6]) <|
  .ret) (.skip))))))) <|
  .reg false [.r (some 95) (.mv (.t 15)),
    .r (some 96) (.bi .add (.t 95) (.c (.int .i64 1))),
    .r (some 15) (.mv (.t 96))] [0, 2, 8, 10, 12, 13, 14, 15]
def ir5 : IR := .seq (.reg false [.r (some 6) (.mv (.c (.bool false)))] [0, 1, 2]) <|
  .seq (.reg false [.e (some 43) (.call 6 []),
    .r (some 7) (.mv (.t 43))] [0, 1, 2, 7]) <|
  .seq (.reg false [.r (some 45) (.mv (.t 0)),
    .r (some 46) (.mv (.t 1)),
    .e (some 47) (.call 7 [(.t 45), (.t 46)]),
    .r (some 44) (.mv (.t 47)),
    .r (some 48) (.ex 0 (.t 44)),
    .r (some 49) (.ex 1 (.t 44)),
    .r (some 8) (.mv (.t 48)),
    .r (some 9) (.mv (.t 49))] [0, 1, 2, 7, 8, 9]) <|
  .seq (.seq (.reg false [.r (some 50) (.mv (.t 7)),
    .r (some 51) (.no (.t 50)),
    .r (some 52) (.mv (.t 51)),
    .gr 52 false (some 53) (.mv (.t 9)),
    .gr 52 false (some 54) (.bi .eql (.t 53) (.c (.int .i64 0))),
    .gr 52 false (some 55) (.mv (.t 8)),
    .gr 52 false (some 56) (.eq .ptr true (.t 55) (.c (.pointer none))),
    .gr 52 false (some 57) (.eq .bool true (.t 54) (.t 56)),
    .r (some 58) (.pk (.t 52) (.c (.bool true)) (.t 57))] [0, 1, 2, 8, 9, 58]) <|
  .cond (.t 58) (.seq (.reg false [.r (some 6) (.mv (.c (.bool false)))] [6]) <|
  .ret) (.skip)) <|
  .seq (.seq (.reg false [.r (some 59) (.mv (.t 9)),
    .r (some 60) (.bi .neq (.t 59) (.c (.int .i64 0)))] [0, 1, 2, 8, 9, 60]) <|
  .cond (.t 60) (.seq (.reg false [.r (some 61) (.mv (.t 9)),
    .r (some 62) (.bi .eql (.t 61) (.c (.int .i64 210))),
    .r (some 63) (.mv (.t 62)),
    .gr 63 true (some 64) (.mv (.t 0)),
    .gr 63 true (some 65) (.bi .lss (.t 64) (.c (.int .i64 1))),
    .gr 63 true (some 66) (.mv (.t 65)),
    .gr 66 false (some 67) (.mv (.t 0)),
    .gr 66 false (some 68) (.bi .gtr (.t 67) (.c (.int .i64 1048576))),
    .gr 63 true (some 69) (.pk (.t 66) (.c (.bool true)) (.t 68)),
    .gr 63 true (some 70) (.mv (.t 69)),
    .gr 70 false (some 71) (.mv (.t 1)),
    .gr 70 false (some 72) (.bi .lss (.t 71) (.c (.int .i64 1))),
    .gr 63 true (some 73) (.pk (.t 70) (.c (.bool true)) (.t 72)),
    .gr 63 true (some 74) (.mv (.t 73)),
    .gr 74 false (some 75) (.mv (.t 1)),
    .gr 74 false (some 76) (.mv (.t 0)),
    .gr 74 false (some 77) (.bi .gtr (.t 75) (.t 76)),
    .gr 63 true (some 78) (.pk (.t 74) (.c (.bool true)) (.t 77)),
    .r (some 79) (.pk (.t 63) (.t 78) (.c (.bool false))),
    .r (some 6) (.mv (.t 79))] [6]) <|
  .ret) (.skip)) <|
  .seq (.reg false [.r (some 81) (.mv (.t 0)),
    .e (some 82) (.call 15 [(.t 81)]),
    .r (some 80) (.mv (.t 82)),
    .r (some 83) (.ex 0 (.t 80)),
    .r (some 84) (.ex 1 (.t 80)),
    .r (some 10) (.mv (.t 83)),
    .r (some 11) (.mv (.t 84))] [0, 2, 8, 10, 11]) <|
  .seq (.seq (.reg false [.r (some 85) (.mv (.t 11)),
    .r (some 86) (.bi .neq (.t 85) (.c (.int .i64 0))),
    .r (some 87) (.mv (.t 86)),
    .gr 87 false (some 88) (.mv (.t 10)),
    .gr 87 false (some 89) (.eq .ptr false (.t 88) (.c (.pointer none))),
    .r (some 90) (.pk (.t 87) (.c (.bool true)) (.t 89))] [0, 2, 8, 10, 90]) <|
  .cond (.t 90) (.seq (.reg false [.r (some 6) (.mv (.c (.bool false)))] [6]) <|
  .ret) (.skip)) <|
  .seq (.reg false [.r (some 12) (.mv (.c (.slice none 0 0)))] [0, 2, 8, 10, 12]) <|
  .seq (.reg false [.r (some 13) (.mv (.c (.slice none 0 0)))] [0, 2, 8, 10, 12, 13]) <|
  .seq (.reg false [.r (some 14) (.mv (.c (.int .i64 0)))] [0, 2, 8, 10, 12, 13, 14]) <|
  .seq (.seq (.reg false [.r (some 15) (.mv (.c (.int .i64 0)))] [0, 2, 8, 10, 12, 13, 14, 15]) <|
  .block 0 (.loop ir5L1)) <|
  .seq (.reg false [.r (some 293) (.mv (.t 0)),
    .r (some 294) (.mv (.t 8)),
    .r (some 295) (.mv (.t 10)),
    .r (some 296) (.mv (.t 12)),
    .r (some 297) (.mv (.t 13)),
    .e (some 298) (.call 27 [(.t 293), (.t 294), (.t 295), (.t 296), (.t 297)]),
    .r (some 6) (.mv (.t 298))] [6]) <|
  .ret
theorem fit5 : Fits Try.prog 5 3 [(0, [0, 1, 2], []), (1, [0, 1, 2, 7], []), (2, [0, 1, 2, 7, 8, 9], []), (3, [0, 1, 2, 8, 9, 58], []), (4, [6], []), (5, [0, 1, 2, 8, 9, 60], []), (6, [6], []), (7, [0, 2, 8, 10, 11], []), (8, [0, 2, 8, 10, 90], []), (9, [6], []), (10, [0, 2, 8, 10, 12], []), (11, [0, 2, 8, 10, 12, 13], []), (12, [0, 2, 8, 10, 12, 13, 14], []), (13, [0, 2, 8, 10, 12, 13, 14, 15], []), (14, [0, 2, 8, 10, 12, 13, 14, 15, 94], []), (15, [0, 2, 8, 10, 12, 13, 14, 15], []), (16, [0, 2, 8, 10, 12, 13, 14, 15, 16], []), (17, [0, 2, 8, 10, 12, 13, 14, 15, 16, 102], []), (18, [0, 2, 8, 10, 12, 13, 14, 15, 16, 38, 39, 40, 41], []), (19, [0, 2, 8, 10, 12, 13, 14, 15, 16, 38, 39, 40, 117], []), (20, [6], []), (21, [0, 2, 8, 10, 12, 13, 14, 15, 16, 38, 39, 40, 119], []), (22, [6], []), (23, [0, 2, 8, 10, 12, 13, 14, 15, 16, 38, 39, 121], []), (24, [0, 2, 8, 10, 15, 16, 38, 39, 133], []), (25, [6], []), (26, [0, 2, 8, 10, 12, 15, 16, 39], []), (27, [0, 2, 8, 10, 12, 13, 15, 16], []), (28, [0, 2, 8, 10, 12, 13, 14, 15, 16], []), (29, [0, 2, 8, 10, 12, 13, 14, 15, 16, 140], []), (30, [0, 2, 8, 10, 12, 13, 14, 15], []), (31, [0, 2, 8, 10, 12, 13, 14, 15, 42], []), (32, [0, 2, 8, 10, 12, 13, 14, 15, 150], []), (33, [6], []), (34, [0, 2, 8, 10, 12, 13, 14, 15, 16, 102, 151], []), (35, [0, 2, 8, 10, 12, 13, 14, 15, 16, 17, 18], []), (36, [0, 2, 8, 10, 12, 13, 14, 15, 17, 18, 19, 20], []), (37, [0, 2, 8, 10, 12, 13, 14, 15, 17, 19, 172], []), (38, [0, 2, 8, 10, 12, 13, 14, 15, 17, 19], []), (39, [0, 2, 8, 10, 12, 13, 14, 15, 19, 21, 22], []), (40, [0, 2, 8, 10, 12, 13, 14, 15, 21, 22, 23, 24], []), (41, [0, 2, 8, 10, 12, 13, 14, 15, 21, 22, 23, 190], []), (42, [6], []), (43, [0, 2, 8, 10, 12, 13, 14, 15, 21, 23, 192], []), (44, [0, 2, 8, 10, 12, 13, 14, 15, 23], []), (45, [0, 2, 8, 10, 12, 13, 14, 15], []), (46, [0, 2, 8, 10, 12, 13, 14, 15, 16, 102, 201], []), (47, [0, 2, 8, 10, 12, 13, 14, 15, 16, 25, 26], []), (48, [0, 2, 8, 10, 12, 13, 14, 15, 16, 25, 26, 27, 28], []), (49, [0, 2, 8, 10, 12, 13, 14, 15, 16, 25, 26, 27, 28, 29], []), (50, [0, 2, 8, 10, 12, 13, 14, 15, 25, 26, 27, 28, 29, 30], []), (51, [0, 2, 8, 10, 12, 13, 14, 15, 25, 26, 27, 28, 29, 30, 31], []), (52, [0, 2, 8, 10, 12, 13, 14, 15, 25, 26, 27, 28, 29, 30, 31, 228], []), (53, [0, 2, 8, 10, 12, 13, 14, 15, 25, 26, 27, 28, 30, 32, 33], []), (54, [0, 2, 8, 10, 12, 13, 14, 15, 25, 26, 27, 28, 32, 33, 34, 35], []), (55, [0, 2, 8, 10, 12, 13, 14, 15, 25, 26, 27, 28, 29, 33, 34, 35], []), (56, [0, 2, 8, 10, 12, 13, 14, 15, 25, 26, 27, 28, 29, 30, 33, 35], []), (57, [0, 2, 8, 10, 12, 13, 14, 15, 25, 26, 27, 28, 29, 30, 31, 33, 35], []), (58, [0, 2, 8, 10, 12, 13, 14, 15, 25, 26, 27, 28, 29, 30, 31, 249], []), (59, [6], []), (60, [0, 2, 8, 10, 12, 13, 14, 15, 25, 27, 29, 30, 265], []), (61, [0, 2, 8, 10, 12, 13, 14, 15, 27, 30, 36], []), (62, [0, 2, 8, 10, 12, 13, 14, 15, 36, 37], []), (63, [0, 2, 8, 10, 12, 13, 14, 15, 277], []), (64, [6], []), (65, [0, 2, 8, 10, 12, 13, 14, 15, 16, 278], []), (66, [0, 2, 8, 10, 12, 13, 14, 15, 282], []), (67, [0, 2, 8, 10, 12, 13, 14, 15], []), (68, [0, 2, 8, 10, 12, 13, 14, 15], []), (69, [6], [])] ir5 [.t 6] 299 :=
  ⟨Try.f5, _, rfl, rfl, rfl, by decide, by kernel_rfl, by kernel_rfl⟩

/- 6 sloth/slothlaw21.awake (0) -/
def ir6 : IR := .seq (.reg false [.r (some 0) (.mv (.c (.bool false)))] []) <|
  .seq (.reg false [.e (some 12) (.call 7 [(.c (.int .i64 6)), (.c (.int .i64 2))]),
    .r (some 11) (.mv (.t 12)),
    .r (some 13) (.ex 0 (.t 11)),
    .r (some 14) (.ex 1 (.t 11)),
    .r (some 1) (.mv (.t 13)),
    .r (some 2) (.mv (.t 14))] [1, 2]) <|
  .seq (.seq (.reg false [.r (some 15) (.mv (.t 2)),
    .r (some 16) (.bi .neq (.t 15) (.c (.int .i64 0))),
    .r (some 17) (.mv (.t 16)),
    .gr 17 false (some 18) (.mv (.t 1)),
    .gr 17 false (some 19) (.eq .ptr false (.t 18) (.c (.pointer none))),
    .r (some 20) (.pk (.t 17) (.c (.bool true)) (.t 19))] [1, 20]) <|
  .cond (.t 20) (.seq (.reg false [.r (some 0) (.mv (.c (.bool false)))] [0]) <|
  .ret) (.skip)) <|
  .seq (.reg false [.r (some 22) (.mv (.t 1)),
    .r (some 23) (.bd #[(.int .i64 0), (.int .i64 0), (.slice none 0 0)] [(0, 1, (.c (.int .i64 1))), (1, 1, (.c (.int .i64 7)))]),
    .e (some 24) (.call 17 [(.t 22), (.t 23)]),
    .r (some 21) (.mv (.t 24)),
    .r (some 25) (.ex 0 (.t 21)),
    .r (some 26) (.ex 1 (.t 21)),
    .r (some 3) (.mv (.t 25)),
    .r (some 4) (.mv (.t 26))] [1, 3, 4]) <|
  .seq (.reg false [.r (some 28) (.mv (.t 1)),
    .e (some 29) (.bs 3 2 #[(.int .i64 0), (.int .i64 0)] [(0, 1, (.c (.int .i64 0))), (1, 1, (.c (.int .i64 0)))]),
    .r (some 30) (.bd #[(.int .i64 0), (.int .i64 0), (.slice none 0 0)] [(0, 1, (.c (.int .i64 2))), (1, 1, (.c (.int .i64 4))), (2, 1, (.t 29))]),
    .e (some 31) (.call 17 [(.t 28), (.t 30)]),
    .r (some 27) (.mv (.t 31)),
    .r (some 32) (.ex 0 (.t 27)),
    .r (some 33) (.ex 1 (.t 27)),
    .r (some 5) (.mv (.t 32)),
    .r (some 6) (.mv (.t 33))] [1, 3, 4, 5, 6]) <|
  .seq (.reg false [.r (some 35) (.mv (.t 1)),
    .e (some 36) (.bs 3 1 #[(.int .i64 0)] [(0, 1, (.c (.int .i64 1)))]),
    .e (some 37) (.call 28 [(.t 35), (.c (.int .i64 1)), (.t 36)]),
    .r (some 34) (.mv (.t 37)),
    .r (some 38) (.ex 0 (.t 34)),
    .r (some 39) (.ex 1 (.t 34)),
    .r (some 7) (.mv (.t 38)),
    .r (some 8) (.mv (.t 39))] [1, 3, 4, 5, 6, 7, 8]) <|
  .seq (.reg false [.r (some 41) (.mv (.t 1)),
    .e (some 42) (.call 29 [(.t 41), (.c (.int .i64 0))]),
    .r (some 40) (.mv (.t 42)),
    .r (some 43) (.ex 0 (.t 40)),
    .r (some 44) (.ex 1 (.t 40)),
    .e (some 9) (.al 38 (.agg #[(.int .i64 0), (.int .i64 0), (.slice none 0 0)])),
    .e none (.st 3 (.t 9) (.t 43)),
    .r (some 10) (.mv (.t 44))] [3, 4, 5, 6, 7, 8, 9, 10]) <|
  .seq (.reg false [.r (some 45) (.mv (.t 4)),
    .r (some 46) (.bi .eql (.t 45) (.c (.int .i64 0))),
    .r (some 47) (.mv (.t 46)),
    .gr 47 true (some 48) (.mv (.t 6)),
    .gr 47 true (some 49) (.bi .eql (.t 48) (.c (.int .i64 0))),
    .r (some 50) (.pk (.t 47) (.t 49) (.c (.bool false))),
    .r (some 51) (.mv (.t 50)),
    .gr 51 true (some 52) (.mv (.t 8)),
    .gr 51 true (some 53) (.bi .eql (.t 52) (.c (.int .i64 0))),
    .r (some 54) (.pk (.t 51) (.t 53) (.c (.bool false))),
    .r (some 55) (.mv (.t 54)),
    .gr 55 true (some 56) (.mv (.t 10)),
    .gr 55 true (some 57) (.bi .eql (.t 56) (.c (.int .i64 0))),
    .r (some 58) (.pk (.t 55) (.t 57) (.c (.bool false))),
    .r (some 59) (.mv (.t 58)),
    .gr 59 true (some 60) (.mv (.t 3)),
    .gr 59 true (some 61) (.bi .eql (.t 60) (.c (.int .i64 0))),
    .r (some 62) (.pk (.t 59) (.t 61) (.c (.bool false))),
    .r (some 63) (.mv (.t 62)),
    .gr 63 true (some 64) (.mv (.t 5)),
    .gr 63 true (some 65) (.bi .eql (.t 64) (.c (.int .i64 1))),
    .r (some 66) (.pk (.t 63) (.t 65) (.c (.bool false))),
    .r (some 67) (.mv (.t 66)),
    .gr 67 true (some 68) (.mv (.t 7)),
    .gr 67 true (some 69) (.len (.t 68)),
    .gr 67 true (some 70) (.bi .eql (.t 69) (.c (.int .i64 1))),
    .r (some 71) (.pk (.t 67) (.t 70) (.c (.bool false))),
    .r (some 72) (.mv (.t 71)),
    .gr 72 true (some 73) (.mv (.t 7)),
    .gr 72 true (some 74) (.ia 1 (.t 73) (.c (.int .i64 0))),
    .gr 72 true (some 75) (.l1 (.t 74)),
    .gr 72 true (some 76) (.bi .eql (.t 75) (.c (.int .i64 0))),
    .r (some 77) (.pk (.t 72) (.t 76) (.c (.bool false))),
    .r (some 78) (.mv (.t 77)),
    .gr 78 true (some 79) (.fa 0 (.t 9)),
    .gr 78 true (some 80) (.l1 (.t 79)),
    .gr 78 true (some 81) (.bi .eql (.t 80) (.c (.int .i64 2))),
    .r (some 82) (.pk (.t 78) (.t 81) (.c (.bool false))),
    .r (some 83) (.mv (.t 82)),
    .gr 83 true (some 84) (.fa 2 (.t 9)),
    .gr 83 true (some 85) (.l1 (.t 84)),
    .gr 83 true (some 86) (.len (.t 85)),
    .gr 83 true (some 87) (.bi .eql (.t 86) (.c (.int .i64 2))),
    .r (some 88) (.pk (.t 83) (.t 87) (.c (.bool false))),
    .r (some 89) (.mv (.t 88)),
    .gr 89 true (some 90) (.fa 2 (.t 9)),
    .gr 89 true (some 91) (.l1 (.t 90)),
    .gr 89 true (some 92) (.ia 1 (.t 91) (.c (.int .i64 0))),
    .gr 89 true (some 93) (.l1 (.t 92)),
    .gr 89 true (some 94) (.bi .eql (.t 93) (.c (.int .i64 1))),
    .r (some 95) (.pk (.t 89) (.t 94) (.c (.bool false))),
    .r (some 0) (.mv (.t 95))] [0]) <|
  .ret
theorem fit6 : Fits Try.prog 6 0 [(0, [], []), (1, [1, 2], []), (2, [1, 20], []), (3, [0], []), (4, [1, 3, 4], []), (5, [1, 3, 4, 5, 6], []), (6, [1, 3, 4, 5, 6, 7, 8], []), (7, [3, 4, 5, 6, 7, 8, 9, 10], []), (8, [0], [])] ir6 [.t 0] 96 :=
  ⟨Try.f6, _, rfl, rfl, rfl, by decide, by kernel_rfl, by kernel_rfl⟩

/- 7 sloth/gens.New (2) -/
def ir7 : IR := .seq (.reg false [.r (some 4) (.mv (.c (.pointer none))),
    .r (some 5) (.mv (.c (.int .i64 0)))] [0, 1]) <|
  .seq (.seq (.reg false [.r (some 6) (.mv (.t 0)),
    .r (some 7) (.bi .lss (.t 6) (.c (.int .i64 1))),
    .r (some 8) (.mv (.t 7)),
    .gr 8 false (some 9) (.mv (.t 0)),
    .gr 8 false (some 10) (.bi .gtr (.t 9) (.c (.int .i64 1048576))),
    .r (some 11) (.pk (.t 8) (.c (.bool true)) (.t 10)),
    .r (some 12) (.mv (.t 11)),
    .gr 12 false (some 13) (.mv (.t 1)),
    .gr 12 false (some 14) (.bi .lss (.t 13) (.c (.int .i64 1))),
    .r (some 15) (.pk (.t 12) (.c (.bool true)) (.t 14)),
    .r (some 16) (.mv (.t 15)),
    .gr 16 false (some 17) (.mv (.t 1)),
    .gr 16 false (some 18) (.mv (.t 0)),
    .gr 16 false (some 19) (.bi .gtr (.t 17) (.t 18)),
    .r (some 20) (.pk (.t 16) (.c (.bool true)) (.t 19))] [0, 1, 20]) <|
  .cond (.t 20) (.seq (.reg false [.r (some 4) (.mv (.c (.pointer none))),
    .r (some 5) (.mv (.c (.int .i64 210)))] [4, 5]) <|
  .ret) (.skip)) <|
  .seq (.reg false [.r (some 21) (.mv (.t 0)),
    .r (some 22) (.mv (.t 1)),
    .e (some 23) (.raw ⟨(some 23), (.makeMap 69 none), 69, "gens.go:25", #[], none⟩),
    .r (some 24) (.bd #[(.int .i64 0), (.int .i64 0), (.slice none 0 0), (.int .i64 0), (.map none), (.int .i64 0)] [(0, 1, (.t 21)), (1, 1, (.t 22)), (4, 1, (.t 23))]),
    .e (some 25) (.bx 72 (.t 24)),
    .r (some 4) (.mv (.t 25)),
    .r (some 5) (.mv (.c (.int .i64 0)))] [4, 5]) <|
  .ret
theorem fit7 : Fits Try.prog 7 2 [(0, [0, 1], []), (1, [0, 1, 20], []), (2, [4, 5], []), (3, [4, 5], [])] ir7 [.t 4, .t 5] 26 :=
  ⟨Try.f7, _, rfl, rfl, rfl, by decide, by kernel_rfl, by kernel_rfl⟩

/- 8 sloth/slothref21.New (2) -/
def ir8 : IR := .seq (.reg false [.r (some 4) (.mv (.c (.pointer none))),
    .r (some 5) (.mv (.c (.int .i64 0)))] [0, 1]) <|
  .seq (.seq (.reg false [.r (some 6) (.mv (.t 0)),
    .r (some 7) (.bi .lss (.t 6) (.c (.int .i64 1))),
    .r (some 8) (.mv (.t 7)),
    .gr 8 false (some 9) (.mv (.t 0)),
    .gr 8 false (some 10) (.bi .gtr (.t 9) (.c (.int .i64 1048576))),
    .r (some 11) (.pk (.t 8) (.c (.bool true)) (.t 10)),
    .r (some 12) (.mv (.t 11)),
    .gr 12 false (some 13) (.mv (.t 1)),
    .gr 12 false (some 14) (.bi .lss (.t 13) (.c (.int .i64 1))),
    .r (some 15) (.pk (.t 12) (.c (.bool true)) (.t 14)),
    .r (some 16) (.mv (.t 15)),
    .gr 16 false (some 17) (.mv (.t 1)),
    .gr 16 false (some 18) (.mv (.t 0)),
    .gr 16 false (some 19) (.bi .gtr (.t 17) (.t 18)),
    .r (some 20) (.pk (.t 16) (.c (.bool true)) (.t 19))] [0, 1, 20]) <|
  .cond (.t 20) (.seq (.reg false [.r (some 4) (.mv (.c (.pointer none))),
    .r (some 5) (.mv (.c (.int .i64 210)))] [4, 5]) <|
  .ret) (.skip)) <|
  .seq (.reg false [.r (some 21) (.mv (.t 0)),
    .r (some 22) (.mv (.t 1)),
    .r (some 23) (.bd #[(.int .i64 0), (.int .i64 0), (.slice none 0 0), (.int .i64 0), (.int .i64 0)] [(0, 1, (.t 21)), (1, 1, (.t 22))]),
    .e (some 24) (.bx 74 (.t 23)),
    .r (some 4) (.mv (.t 24)),
    .r (some 5) (.mv (.c (.int .i64 0)))] [4, 5]) <|
  .ret
theorem fit8 : Fits Try.prog 8 2 [(0, [0, 1], []), (1, [0, 1, 20], []), (2, [4, 5], []), (3, [4, 5], [])] ir8 [.t 4, .t 5] 25 :=
  ⟨Try.f8, _, rfl, rfl, rfl, by decide, by kernel_rfl, by kernel_rfl⟩

/- 9 (*sloth/slothlaw21.Book).step (4) -/
def ir9L1 : IR := .seq (.seq (.reg false [.r (some 156) (.mv (.t 19)),
    .r (some 157) (.mv (.t 9)),
    .r (some 158) (.len (.t 157)),
    .r (some 159) (.bi .lss (.t 156) (.t 158))] [0, 9, 10, 13, 14, 15, 16, 17, 18, 19, 159]) <|
  .cond (.t 159) (.skip) ((.exit 1))) <|
  .seq (.block 2 (.reg false [.r (some 162) (.mv (.t 9)),
    .r (some 163) (.mv (.t 19)),
    .r (some 164) (.ia 1 (.t 162) (.t 163)),
    .e none (.st 1 (.t 164) (.c (.int .i64 (-55))))] [0, 9, 10, 13, 14, 15, 16, 17, 18, 19])) <|
  .reg false [.r (some 160) (.mv (.t 19)),
    .r (some 161) (.bi .add (.t 160) (.c (.int .i64 1))),
    .r (some 19) (.mv (.t 161))] [0, 9, 10, 13, 14, 15, 16, 17, 18, 19]
def ir9L2 : IR := .seq (.seq (.reg false [.r (some 165) (.mv (.t 20)),
    .r (some 166) (.mv (.t 10)),
    .r (some 167) (.len (.t 166)),
    .r (some 168) (.bi .lss (.t 165) (.t 167))] [0, 10, 13, 14, 15, 16, 17, 18, 20, 168]) <|
  .cond (.t 168) (.skip) ((.exit 3))) <|
  .seq (.block 4 (.reg false [.r (some 171) (.mv (.t 10)),
    .r (some 172) (.mv (.t 20)),
    .r (some 173) (.ia 1 (.t 171) (.t 172)),
    .e none (.st 1 (.t 173) (.c (.int .i64 (-55))))] [0, 10, 13, 14, 15, 16, 17, 18, 20])) <|
  .reg false [.r (some 169) (.mv (.t 20)),
    .r (some 170) (.bi .add (.t 169) (.c (.int .i64 1))),
    .r (some 20) (.mv (.t 170))] [0, 10, 13, 14, 15, 16, 17, 18, 20]
def ir9 : IR := .seq (.reg false [.e (some 7) (.bx 40 (.t 3)),
    .r (some 8) (.mv (.c (.bool false)))] [0, 1, 2, 7]) <|
  .seq (.reg false [.r (some 22) (.fa 2 (.t 7)),
    .r (some 23) (.fa 2 (.t 22)),
    .r (some 24) (.l1 (.t 23)),
    .e (some 25) (.call 30 [(.t 24)]),
    .r (some 9) (.mv (.t 25))] [0, 1, 2, 7, 9]) <|
  .seq (.reg false [.r (some 26) (.fa 5 (.t 7)),
    .r (some 27) (.l1 (.t 26)),
    .e (some 28) (.call 30 [(.t 27)]),
    .r (some 10) (.mv (.t 28))] [0, 1, 2, 7, 9, 10]) <|
  .seq (.reg false [.r (some 29) (.mv (.t 10)),
    .r (some 30) (.fa 5 (.t 7)),
    .r (some 31) (.l1 (.t 30)),
    .r (some 32) (.len (.t 31)),
    .r (some 33) (.sl 1 (.t 29) none (some (.t 32)) none),
    .r (some 11) (.mv (.t 33))] [0, 1, 2, 7, 9, 10, 11]) <|
  .seq (.dr (.r 0 none (some 34) (.fa 2 (.t 7)) <|
    .r 1 none (some 35) (.fa 0 (.t 34)) <|
    .r 2 none (some 36) (.l1 (.t 35)) <|
    .r 3 none (some 37) (.fa 2 (.t 7)) <|
    .r 4 none (some 38) (.fa 1 (.t 37)) <|
    .r 5 none (some 39) (.l1 (.t 38)) <|
    .r 6 none (some 40) (.mv (.t 9)) <|
    .r 7 none (some 41) (.fa 2 (.t 7)) <|
    .r 8 none (some 42) (.fa 2 (.t 41)) <|
    .r 9 none (some 43) (.l1 (.t 42)) <|
    .r 10 none (some 44) (.len (.t 43)) <|
    .r 11 none (some 45) (.sl 1 (.t 40) none (some (.t 44)) none) <|
    .r 12 none (some 46) (.bd #[(.int .i64 0), (.int .i64 0), (.slice none 0 0)] [(0, 1, (.t 36)), (1, 1, (.t 39)), (2, 1, (.t 45))]) <|
    .e 13 none (some 12) (.al 38 (.agg #[(.int .i64 0), (.int .i64 0), (.slice none 0 0)])) [2, 5, 9] <|
    .e 14 none none (.st 3 (.t 12) (.t 46)) [] <|
    .nil) [0, 1, 2, 7, 9, 10, 11, 12]) <|
  .seq (.reg false [.e (some 13) (.al 38 (.agg #[(.int .i64 0), (.int .i64 0), (.slice none 0 0)])),
    .e (some 14) (.al 38 (.agg #[(.int .i64 0), (.int .i64 0), (.slice none 0 0)]))] [0, 1, 2, 7, 9, 10, 11, 12, 13, 14]) <|
  .seq (.reg false [.r (some 15) (.mv (.c (.int .i64 0)))] [0, 1, 2, 7, 9, 10, 11, 12, 13, 14, 15]) <|
  .seq (.reg false [.r (some 16) (.mv (.c (.int .i64 0)))] [0, 1, 2, 7, 9, 10, 11, 12, 13, 14, 15, 16]) <|
  .seq (.seq (.reg false [.r (some 47) (.fa 0 (.t 7)),
    .r (some 48) (.l1 (.t 47))] [0, 1, 2, 7, 9, 10, 11, 12, 13, 14, 15, 16, 48]) <|
  .block 0 (.seq (.reg false [.r (some 69) (.bi .eql (.t 48) (.c (.int .i64 1))),
    .r (some 68) (.mv (.t 69))] [0, 1, 2, 7, 9, 10, 11, 12, 13, 14, 15, 16, 48, 68]) <|
  .cond (.t 68) (.seq (.reg false [.r (some 71) (.mv (.t 1)),
    .r (some 72) (.ln 3 (.t 12)),
    .e (some 73) (.call 17 [(.t 71), (.t 72)]),
    .r (some 70) (.mv (.t 73)),
    .r (some 74) (.ex 0 (.t 70)),
    .r (some 75) (.ex 1 (.t 70)),
    .r (some 76) (.fa 1 (.t 13)),
    .e none (.st 1 (.t 76) (.t 74)),
    .r (some 15) (.mv (.t 75))] [0, 2, 7, 9, 10, 13, 14, 15]) <|
  .reg false [.r (some 78) (.mv (.t 2)),
    .r (some 79) (.fa 2 (.t 7)),
    .r (some 80) (.ln 3 (.t 79)),
    .e (some 81) (.call 31 [(.t 78), (.t 80)]),
    .r (some 77) (.mv (.t 81)),
    .r (some 82) (.ex 0 (.t 77)),
    .r (some 83) (.ex 1 (.t 77)),
    .r (some 84) (.fa 1 (.t 14)),
    .e none (.st 1 (.t 84) (.t 82)),
    .r (some 16) (.mv (.t 83))] [0, 7, 9, 10, 13, 14, 15, 16]) (.seq (.reg false [.r (some 86) (.bi .eql (.t 48) (.c (.int .i64 2))),
    .r (some 85) (.mv (.t 86))] [0, 1, 2, 7, 9, 10, 11, 12, 13, 14, 15, 16, 48, 85]) <|
  .cond (.t 85) (.seq (.reg false [.r (some 88) (.mv (.t 1)),
    .r (some 89) (.fa 1 (.t 7)),
    .r (some 90) (.l1 (.t 89)),
    .e (some 91) (.call 29 [(.t 88), (.t 90)]),
    .r (some 87) (.mv (.t 91)),
    .r (some 92) (.ex 0 (.t 87)),
    .r (some 93) (.ex 1 (.t 87)),
    .e none (.st 3 (.t 13) (.t 92)),
    .r (some 15) (.mv (.t 93))] [0, 2, 7, 9, 10, 13, 14, 15]) <|
  .reg false [.r (some 95) (.mv (.t 2)),
    .r (some 96) (.fa 1 (.t 7)),
    .r (some 97) (.l1 (.t 96)),
    .e (some 98) (.call 32 [(.t 95), (.t 97)]),
    .r (some 94) (.mv (.t 98)),
    .r (some 99) (.ex 0 (.t 94)),
    .r (some 100) (.ex 1 (.t 94)),
    .e none (.st 3 (.t 14) (.t 99)),
    .r (some 16) (.mv (.t 100))] [0, 7, 9, 10, 13, 14, 15, 16]) (.seq (.reg false [.r (some 102) (.bi .eql (.t 48) (.c (.int .i64 3))),
    .r (some 101) (.mv (.t 102))] [0, 1, 2, 7, 9, 10, 11, 12, 13, 14, 15, 16, 48, 101]) <|
  .cond (.t 101) (.seq (.reg false [.r (some 103) (.mv (.t 1)),
    .r (some 104) (.fa 1 (.t 7)),
    .r (some 105) (.l1 (.t 104)),
    .r (some 106) (.ln 3 (.t 12)),
    .e (some 107) (.call 23 [(.t 103), (.t 105), (.t 106)]),
    .r (some 15) (.mv (.t 107))] [0, 2, 7, 9, 10, 13, 14, 15]) <|
  .reg false [.r (some 108) (.mv (.t 2)),
    .r (some 109) (.fa 1 (.t 7)),
    .r (some 110) (.l1 (.t 109)),
    .r (some 111) (.fa 2 (.t 7)),
    .r (some 112) (.ln 3 (.t 111)),
    .e (some 113) (.call 33 [(.t 108), (.t 110), (.t 112)]),
    .r (some 16) (.mv (.t 113))] [0, 7, 9, 10, 13, 14, 15, 16]) (.seq (.reg false [.r (some 115) (.bi .eql (.t 48) (.c (.int .i64 5))),
    .r (some 114) (.mv (.t 115))] [0, 1, 2, 7, 9, 10, 11, 13, 14, 15, 16, 48, 114]) <|
  .cond (.t 114) (.seq (.reg false [.r (some 117) (.mv (.t 1)),
    .r (some 118) (.mv (.t 11)),
    .e (some 119) (.call 34 [(.t 117), (.t 118)]),
    .r (some 116) (.mv (.t 119)),
    .r (some 120) (.ex 0 (.t 116)),
    .r (some 121) (.ex 1 (.t 116)),
    .r (some 122) (.fa 2 (.t 13)),
    .e none (.st 1 (.t 122) (.t 120)),
    .r (some 15) (.mv (.t 121))] [0, 2, 7, 9, 10, 13, 14, 15]) <|
  .reg false [.r (some 124) (.mv (.t 2)),
    .r (some 125) (.fa 5 (.t 7)),
    .r (some 126) (.l1 (.t 125)),
    .e (some 127) (.call 35 [(.t 124), (.t 126)]),
    .r (some 123) (.mv (.t 127)),
    .r (some 128) (.ex 0 (.t 123)),
    .r (some 129) (.ex 1 (.t 123)),
    .r (some 130) (.fa 2 (.t 14)),
    .e none (.st 1 (.t 130) (.t 128)),
    .r (some 16) (.mv (.t 129))] [0, 7, 9, 10, 13, 14, 15, 16]) (.seq (.reg false [.r (some 132) (.bi .eql (.t 48) (.c (.int .i64 6))),
    .r (some 131) (.mv (.t 132))] [0, 1, 2, 7, 9, 10, 11, 13, 14, 15, 16, 131]) <|
  .cond (.t 131) (.seq (.reg false [.r (some 133) (.mv (.t 1)),
    .e (some 134) (.call 10 [(.t 133)]),
    .r (some 135) (.fa 1 (.t 13)),
    .e none (.st 1 (.t 135) (.t 134))] [0, 1, 2, 7, 9, 10, 13, 14, 15, 16]) <|
  .seq (.reg false [.r (some 136) (.mv (.t 1)),
    .e (some 137) (.call 12 [(.t 136)]),
    .r (some 138) (.fa 0 (.t 13)),
    .e none (.st 1 (.t 138) (.t 137))] [0, 2, 7, 9, 10, 13, 14, 15, 16]) <|
  .seq (.reg false [.r (some 139) (.mv (.t 2)),
    .e (some 140) (.call 11 [(.t 139)]),
    .r (some 141) (.fa 1 (.t 14)),
    .e none (.st 1 (.t 141) (.t 140))] [0, 2, 7, 9, 10, 13, 14, 15, 16]) <|
  .reg false [.r (some 142) (.mv (.t 2)),
    .e (some 143) (.call 13 [(.t 142)]),
    .r (some 144) (.fa 0 (.t 14)),
    .e none (.st 1 (.t 144) (.t 143))] [0, 7, 9, 10, 13, 14, 15, 16]) (.seq (.reg false [.r (some 50) (.mv (.t 1)),
    .r (some 51) (.fa 1 (.t 7)),
    .r (some 52) (.l1 (.t 51)),
    .r (some 53) (.mv (.t 11)),
    .e (some 54) (.call 28 [(.t 50), (.t 52), (.t 53)]),
    .r (some 49) (.mv (.t 54)),
    .r (some 55) (.ex 0 (.t 49)),
    .r (some 56) (.ex 1 (.t 49)),
    .r (some 57) (.fa 2 (.t 13)),
    .e none (.st 1 (.t 57) (.t 55)),
    .r (some 15) (.mv (.t 56))] [0, 2, 7, 9, 10, 13, 14, 15]) <|
  .reg false [.r (some 59) (.mv (.t 2)),
    .r (some 60) (.fa 1 (.t 7)),
    .r (some 61) (.l1 (.t 60)),
    .r (some 62) (.fa 5 (.t 7)),
    .r (some 63) (.l1 (.t 62)),
    .e (some 64) (.call 36 [(.t 59), (.t 61), (.t 63)]),
    .r (some 58) (.mv (.t 64)),
    .r (some 65) (.ex 0 (.t 58)),
    .r (some 66) (.ex 1 (.t 58)),
    .r (some 67) (.fa 2 (.t 14)),
    .e none (.st 1 (.t 67) (.t 65)),
    .r (some 16) (.mv (.t 66))] [0, 7, 9, 10, 13, 14, 15, 16]))))))) <|
  .seq (.reg false [.r (some 145) (.mv (.t 9)),
    .r (some 146) (.fa 2 (.t 7)),
    .r (some 147) (.fa 2 (.t 146)),
    .r (some 148) (.l1 (.t 147)),
    .e (some 149) (.call 30 [(.t 148)]),
    .e (some 150) (.call 37 [(.t 145), (.t 149)]),
    .r (some 17) (.mv (.t 150))] [0, 7, 9, 10, 13, 14, 15, 16, 17]) <|
  .seq (.reg false [.r (some 151) (.mv (.t 10)),
    .r (some 152) (.fa 5 (.t 7)),
    .r (some 153) (.l1 (.t 152)),
    .e (some 154) (.call 30 [(.t 153)]),
    .e (some 155) (.call 37 [(.t 151), (.t 154)]),
    .r (some 18) (.mv (.t 155))] [0, 9, 10, 13, 14, 15, 16, 17, 18]) <|
  .seq (.seq (.reg false [.r (some 19) (.mv (.c (.int .i64 0)))] [0, 9, 10, 13, 14, 15, 16, 17, 18, 19]) <|
  .block 1 (.loop ir9L1)) <|
  .seq (.seq (.reg false [.r (some 20) (.mv (.c (.int .i64 0)))] [0, 10, 13, 14, 15, 16, 17, 18, 20]) <|
  .block 3 (.loop ir9L2)) <|
  .seq (.reg false [.r (some 174) (.ln 3 (.t 13)),
    .r (some 175) (.ln 3 (.t 14)),
    .e (some 176) (.call 38 [(.t 174), (.t 175)]),
    .r (some 21) (.mv (.t 176))] [0, 13, 15, 16, 17, 18, 21]) <|
  .seq (.reg false [.r (some 177) (.mv (.t 0)),
    .r (some 178) (.fa 2 (.t 13)),
    .r (some 179) (.l1 (.t 178)),
    .e (some 180) (.call 39 [(.t 177), (.t 179)])] [15, 16, 17, 18, 21]) <|
  .seq (.reg false [.r (some 181) (.mv (.t 17)),
    .r (some 182) (.mv (.t 181)),
    .gr 182 true (some 183) (.mv (.t 18)),
    .r (some 184) (.pk (.t 182) (.t 183) (.c (.bool false))),
    .r (some 185) (.mv (.t 184)),
    .gr 185 true (some 186) (.mv (.t 21)),
    .r (some 187) (.pk (.t 185) (.t 186) (.c (.bool false))),
    .r (some 188) (.mv (.t 187)),
    .gr 188 true (some 189) (.mv (.t 15)),
    .gr 188 true (some 190) (.mv (.t 16)),
    .gr 188 true (some 191) (.bi .eql (.t 189) (.t 190)),
    .r (some 192) (.pk (.t 188) (.t 191) (.c (.bool false))),
    .r (some 8) (.mv (.t 192))] [8]) <|
  .ret
theorem fit9 : Fits Try.prog 9 4 [(0, [0, 1, 2, 7], []), (1, [0, 1, 2, 7, 9], []), (2, [0, 1, 2, 7, 9, 10], []), (3, [0, 1, 2, 7, 9, 10, 11], []), (4, [0, 1, 2, 7, 9, 10, 11, 12], [0, 1, 3, 0, 8, 24, 0, 0, 128, 384, 896, 1984, 4095, 0, 16383]), (5, [0, 1, 2, 7, 9, 10, 11, 12, 13, 14], []), (6, [0, 1, 2, 7, 9, 10, 11, 12, 13, 14, 15], []), (7, [0, 1, 2, 7, 9, 10, 11, 12, 13, 14, 15, 16], []), (8, [0, 1, 2, 7, 9, 10, 11, 12, 13, 14, 15, 16, 48], []), (9, [0, 2, 7, 9, 10, 13, 14, 15], []), (10, [0, 7, 9, 10, 13, 14, 15, 16], []), (11, [0, 1, 2, 7, 9, 10, 11, 12, 13, 14, 15, 16, 48, 68], []), (12, [0, 2, 7, 9, 10, 13, 14, 15], []), (13, [0, 7, 9, 10, 13, 14, 15, 16], []), (14, [0, 1, 2, 7, 9, 10, 11, 12, 13, 14, 15, 16, 48, 85], []), (15, [0, 2, 7, 9, 10, 13, 14, 15], []), (16, [0, 7, 9, 10, 13, 14, 15, 16], []), (17, [0, 1, 2, 7, 9, 10, 11, 12, 13, 14, 15, 16, 48, 101], []), (18, [0, 2, 7, 9, 10, 13, 14, 15], []), (19, [0, 7, 9, 10, 13, 14, 15, 16], []), (20, [0, 1, 2, 7, 9, 10, 11, 13, 14, 15, 16, 48, 114], []), (21, [0, 2, 7, 9, 10, 13, 14, 15], []), (22, [0, 7, 9, 10, 13, 14, 15, 16], []), (23, [0, 1, 2, 7, 9, 10, 11, 13, 14, 15, 16, 131], []), (24, [0, 1, 2, 7, 9, 10, 13, 14, 15, 16], []), (25, [0, 2, 7, 9, 10, 13, 14, 15, 16], []), (26, [0, 2, 7, 9, 10, 13, 14, 15, 16], []), (27, [0, 7, 9, 10, 13, 14, 15, 16], []), (28, [0, 7, 9, 10, 13, 14, 15, 16, 17], []), (29, [0, 9, 10, 13, 14, 15, 16, 17, 18], []), (30, [0, 9, 10, 13, 14, 15, 16, 17, 18, 19], []), (31, [0, 9, 10, 13, 14, 15, 16, 17, 18, 19, 159], []), (32, [0, 9, 10, 13, 14, 15, 16, 17, 18, 19], []), (33, [0, 9, 10, 13, 14, 15, 16, 17, 18, 19], []), (34, [0, 10, 13, 14, 15, 16, 17, 18, 20], []), (35, [0, 10, 13, 14, 15, 16, 17, 18, 20, 168], []), (36, [0, 10, 13, 14, 15, 16, 17, 18, 20], []), (37, [0, 10, 13, 14, 15, 16, 17, 18, 20], []), (38, [0, 13, 15, 16, 17, 18, 21], []), (39, [15, 16, 17, 18, 21], []), (40, [8], [])] ir9 [.t 8] 193 :=
  ⟨Try.f9, _, rfl, rfl, rfl, by decide, by kernel_rfl, by kernel_rfl⟩

/- 10 (*sloth/gens.Arena).Used (1) -/
def ir10 : IR := .seq (.reg false [.r (some 2) (.mv (.c (.int .i64 0)))] [0]) <|
  .seq (.reg false [.r (some 3) (.mv (.t 0)),
    .r (some 4) (.nn (.t 3)),
    .r (some 5) (.fa 2 (.t 4)),
    .r (some 6) (.l1 (.t 5)),
    .r (some 7) (.len (.t 6)),
    .r (some 2) (.mv (.t 7))] [2]) <|
  .ret
theorem fit10 : Fits Try.prog 10 1 [(0, [0], []), (1, [2], [])] ir10 [.t 2] 8 :=
  ⟨Try.f10, _, rfl, rfl, rfl, by decide, by kernel_rfl, by kernel_rfl⟩

/- 11 (*sloth/slothref21.Arena).Used (1) -/
def ir11 : IR := .seq (.reg false [.r (some 2) (.mv (.c (.int .i64 0)))] [0]) <|
  .seq (.reg false [.r (some 3) (.mv (.t 0)),
    .r (some 4) (.nn (.t 3)),
    .r (some 5) (.fa 2 (.t 4)),
    .r (some 6) (.l1 (.t 5)),
    .r (some 7) (.len (.t 6)),
    .r (some 2) (.mv (.t 7))] [2]) <|
  .ret
theorem fit11 : Fits Try.prog 11 1 [(0, [0], []), (1, [2], [])] ir11 [.t 2] 8 :=
  ⟨Try.f11, _, rfl, rfl, rfl, by decide, by kernel_rfl, by kernel_rfl⟩

/- 12 (*sloth/gens.Arena).Collections (1) -/
def ir12 : IR := .seq (.reg false [.r (some 2) (.mv (.c (.int .i64 0)))] [0]) <|
  .seq (.reg false [.r (some 3) (.mv (.t 0)),
    .r (some 4) (.nn (.t 3)),
    .r (some 5) (.fa 5 (.t 4)),
    .r (some 6) (.l1 (.t 5)),
    .r (some 2) (.mv (.t 6))] [2]) <|
  .ret
theorem fit12 : Fits Try.prog 12 1 [(0, [0], []), (1, [2], [])] ir12 [.t 2] 7 :=
  ⟨Try.f12, _, rfl, rfl, rfl, by decide, by kernel_rfl, by kernel_rfl⟩

/- 13 (*sloth/slothref21.Arena).Collections (1) -/
def ir13 : IR := .seq (.reg false [.r (some 2) (.mv (.c (.int .i64 0)))] [0]) <|
  .seq (.reg false [.r (some 3) (.mv (.t 0)),
    .r (some 4) (.nn (.t 3)),
    .r (some 5) (.fa 4 (.t 4)),
    .r (some 6) (.l1 (.t 5)),
    .r (some 2) (.mv (.t 6))] [2]) <|
  .ret
theorem fit13 : Fits Try.prog 13 1 [(0, [0], []), (1, [2], [])] ir13 [.t 2] 7 :=
  ⟨Try.f13, _, rfl, rfl, rfl, by decide, by kernel_rfl, by kernel_rfl⟩

/- 14 (*sloth/slothlaw21.Book).still (1) -/
def ir14L1 : IR := .seq (.seq (.reg false [.r (some 14) (.mv (.t 4)),
    .r (some 15) (.mv (.t 0)),
    .r (some 16) (.nn (.t 15)),
    .r (some 17) (.fa 0 (.t 16)),
    .r (some 18) (.l1 (.t 17)),
    .r (some 19) (.mv (.t 3)),
    .r (some 20) (.ia 1 (.t 18) (.t 19)),
    .r (some 21) (.l1 (.t 20)),
    .r (some 22) (.len (.t 21)),
    .r (some 23) (.bi .lss (.t 14) (.t 22))] [0, 3, 4, 23]) <|
  .cond (.t 23) (.skip) ((.exit 2))) <|
  .seq (.block 3 (.seq (.reg true [.r (some 26) (.mv (.t 0)),
    .r (some 27) (.nn (.t 26)),
    .r (some 28) (.fa 0 (.t 27)),
    .r (some 29) (.l1 (.t 28)),
    .r (some 30) (.mv (.t 3)),
    .r (some 31) (.ia 1 (.t 29) (.t 30)),
    .r (some 32) (.l1 (.t 31)),
    .r (some 33) (.mv (.t 4)),
    .r (some 34) (.ia 1 (.t 32) (.t 33)),
    .r (some 35) (.l1 (.t 34)),
    .r (some 36) (.mv (.t 0)),
    .r (some 37) (.nn (.t 36)),
    .r (some 38) (.fa 1 (.t 37)),
    .r (some 39) (.l1 (.t 38)),
    .r (some 40) (.mv (.t 3)),
    .r (some 41) (.ia 1 (.t 39) (.t 40)),
    .r (some 42) (.l1 (.t 41)),
    .r (some 43) (.bi .neq (.t 35) (.t 42))] [0, 3, 4, 43]) <|
  .cond (.t 43) (.seq (.reg false [.r (some 2) (.mv (.c (.bool false)))] [2]) <|
  .ret) (.skip))) <|
  .reg false [.r (some 24) (.mv (.t 4)),
    .r (some 25) (.bi .add (.t 24) (.c (.int .i64 1))),
    .r (some 4) (.mv (.t 25))] [0, 3, 4]
def ir14L2 : IR := .seq (.seq (.reg false [.r (some 5) (.mv (.t 3)),
    .r (some 6) (.mv (.t 0)),
    .r (some 7) (.nn (.t 6)),
    .r (some 8) (.fa 0 (.t 7)),
    .r (some 9) (.l1 (.t 8)),
    .r (some 10) (.len (.t 9)),
    .r (some 11) (.bi .lss (.t 5) (.t 10))] [0, 3, 11]) <|
  .cond (.t 11) (.skip) ((.exit 0))) <|
  .seq (.block 1 (.seq (.reg false [.r (some 4) (.mv (.c (.int .i64 0)))] [0, 3, 4]) <|
  .block 2 (.loop ir14L1))) <|
  .reg false [.r (some 12) (.mv (.t 3)),
    .r (some 13) (.bi .add (.t 12) (.c (.int .i64 1))),
    .r (some 3) (.mv (.t 13))] [0, 3]
def ir14 : IR := .seq (.reg false [.r (some 2) (.mv (.c (.bool false)))] [0]) <|
  .seq (.seq (.reg false [.r (some 3) (.mv (.c (.int .i64 0)))] [0, 3]) <|
  .block 0 (.loop ir14L2)) <|
  .seq (.reg false [.r (some 2) (.mv (.c (.bool true)))] [2]) <|
  .ret
theorem fit14 : Fits Try.prog 14 1 [(0, [0], []), (1, [0, 3], []), (2, [0, 3, 11], []), (3, [0, 3], []), (4, [0, 3, 4], []), (5, [0, 3, 4, 23], []), (6, [0, 3, 4], []), (7, [0, 3, 4, 43], [0, 1, 3, 7, 0, 31, 63, 0, 255, 511, 0, 1024, 3072, 7168, 0, 31744, 64512, 131071]), (8, [2], []), (9, [2], [])] ir14 [.t 2] 44 :=
  ⟨Try.f14, _, rfl, rfl, rfl, by decide, by kernel_rfl, by kernel_rfl⟩

/- 15 sloth/heap.New (1) -/
def ir15 : IR := .seq (.reg false [.r (some 2) (.mv (.c (.pointer none))),
    .r (some 3) (.mv (.c (.int .i64 0)))] [0]) <|
  .seq (.seq (.reg false [.r (some 4) (.mv (.t 0)),
    .r (some 5) (.bi .lss (.t 4) (.c (.int .i64 1))),
    .r (some 6) (.mv (.t 5)),
    .gr 6 false (some 7) (.mv (.t 0)),
    .gr 6 false (some 8) (.bi .gtr (.t 7) (.c (.int .i64 1048576))),
    .r (some 9) (.pk (.t 6) (.c (.bool true)) (.t 8))] [0, 9]) <|
  .cond (.t 9) (.seq (.reg false [.r (some 2) (.mv (.c (.pointer none))),
    .r (some 3) (.mv (.c (.int .i64 200)))] [2, 3]) <|
  .ret) (.skip)) <|
  .seq (.reg false [.r (some 10) (.mv (.t 0)),
    .r (some 11) (.bd #[(.int .i64 0), (.slice none 0 0), (.int .i64 0)] [(0, 1, (.t 10))]),
    .e (some 12) (.bx 81 (.t 11)),
    .r (some 2) (.mv (.t 12)),
    .r (some 3) (.mv (.c (.int .i64 0)))] [2, 3]) <|
  .ret
theorem fit15 : Fits Try.prog 15 1 [(0, [0], []), (1, [0, 9], []), (2, [2, 3], []), (3, [2, 3], [])] ir15 [.t 2, .t 3] 13 :=
  ⟨Try.f15, _, rfl, rfl, rfl, by decide, by kernel_rfl, by kernel_rfl⟩

/- 16 sloth/slothlaw21.node (2) -/
def ir16L1 : IR := .seq (.seq (.reg false [.r (some 14) (.mv (.t 7)),
    .r (some 15) (.fa 4 (.t 2)),
    .r (some 16) (.l1 (.t 15)),
    .r (some 17) (.len (.t 16)),
    .r (some 18) (.bi .lss (.t 14) (.t 17))] [1, 2, 4, 6, 7, 18]) <|
  .cond (.t 18) (.skip) ((.exit 0))) <|
  .seq (.block 1 (.seq (.reg false [.r (some 21) (.mv (.t 1)),
    .r (some 22) (.fa 4 (.t 2)),
    .r (some 23) (.l1 (.t 22)),
    .r (some 24) (.mv (.t 7)),
    .r (some 25) (.ia 1 (.t 23) (.t 24)),
    .r (some 26) (.l1 (.t 25)),
    .e (some 27) (.call 20 [(.t 21), (.t 26)]),
    .r (some 8) (.mv (.t 27))] [1, 2, 4, 6, 7, 8]) <|
  .seq (.seq (.reg false [.r (some 28) (.mv (.t 8)),
    .r (some 29) (.bi .lss (.t 28) (.c (.int .i64 0)))] [1, 2, 4, 6, 7, 8, 29]) <|
  .cond (.t 29) (.seq (.reg false [.r (some 30) (.ln 3 (.t 6)),
    .e none (.st 3 (.t 4) (.t 30)),
    .r (some 5) (.mv (.c (.bool false)))] [4, 5]) <|
  .ret) (.skip)) <|
  .reg false [.r (some 31) (.fa 2 (.t 6)),
    .r (some 32) (.l1 (.t 31)),
    .r (some 33) (.mv (.t 8)),
    .e (some 34) (.bs 3 1 #[(.int .i64 0)] [(0, 1, (.t 33))]),
    .e (some 35) (.ap 3 1 8 #[(.int .i64 0)] (.t 32) (.t 34)),
    .r (some 36) (.fa 2 (.t 6)),
    .e none (.st 1 (.t 36) (.t 35))] [1, 2, 4, 6, 7])) <|
  .reg false [.r (some 19) (.mv (.t 7)),
    .r (some 20) (.bi .add (.t 19) (.c (.int .i64 1))),
    .r (some 7) (.mv (.t 20))] [1, 2, 4, 6, 7]
def ir16 : IR := .seq (.reg false [.e (some 2) (.bx 49 (.t 0)),
    .e (some 4) (.al 38 (.agg #[(.int .i64 0), (.int .i64 0), (.slice none 0 0)])),
    .r (some 5) (.mv (.c (.bool false)))] [1, 2, 4]) <|
  .seq (.reg false [.r (some 9) (.fa 2 (.t 2)),
    .r (some 10) (.l1 (.t 9)),
    .r (some 11) (.fa 3 (.t 2)),
    .r (some 12) (.l1 (.t 11)),
    .r (some 13) (.bd #[(.int .i64 0), (.int .i64 0), (.slice none 0 0)] [(0, 1, (.t 10)), (1, 1, (.t 12))]),
    .e (some 6) (.al 38 (.agg #[(.int .i64 0), (.int .i64 0), (.slice none 0 0)])),
    .e none (.st 3 (.t 6) (.t 13))] [1, 2, 4, 6]) <|
  .seq (.seq (.reg false [.r (some 7) (.mv (.c (.int .i64 0)))] [1, 2, 4, 6, 7]) <|
  .block 0 (.loop ir16L1)) <|
  .seq (.reg false [.r (some 37) (.ln 3 (.t 6)),
    .e none (.st 3 (.t 4) (.t 37)),
    .r (some 5) (.mv (.c (.bool true)))] [4, 5]) <|
  .ret
theorem fit16 : Fits Try.prog 16 2 [(0, [1, 2, 4], []), (1, [1, 2, 4, 6], []), (2, [1, 2, 4, 6, 7], []), (3, [1, 2, 4, 6, 7, 18], []), (4, [1, 2, 4, 6, 7], []), (5, [1, 2, 4, 6, 7, 8], []), (6, [1, 2, 4, 6, 7, 8, 29], []), (7, [4, 5], []), (8, [1, 2, 4, 6, 7], []), (9, [4, 5], [])] ir16 [.n 4 3, .t 5] 38 :=
  ⟨Try.f16, _, rfl, rfl, rfl, by decide, by kernel_rfl, by kernel_rfl⟩

/- 17 (*sloth/gens.Arena).Add (2) -/
def ir17 : IR := .seq (.reg false [.e (some 3) (.bx 38 (.t 1)),
    .r (some 4) (.mv (.c (.int .i64 0))),
    .r (some 5) (.mv (.c (.int .i64 0)))] [0, 3]) <|
  .seq (.block 0 (.seq (.reg false [.r (some 7) (.ln 3 (.t 3)),
    .e (some 8) (.call 40 [(.t 7)]),
    .r (some 9) (.no (.t 8)),
    .r (some 6) (.mv (.t 9))] [0, 3, 6]) <|
  .cond (.t 6) (.seq (.reg false [.r (some 4) (.mv (.c (.int .i64 0))),
    .r (some 5) (.mv (.c (.int .i64 1)))] [4, 5]) <|
  .ret) (.seq (.reg false [.r (some 11) (.mv (.t 0)),
    .r (some 12) (.fa 2 (.t 3)),
    .r (some 13) (.l1 (.t 12)),
    .e (some 14) (.call 41 [(.t 11), (.t 13)]),
    .r (some 15) (.no (.t 14)),
    .r (some 10) (.mv (.t 15))] [0, 3, 10]) <|
  .cond (.t 10) (.seq (.reg false [.r (some 4) (.mv (.c (.int .i64 0))),
    .r (some 5) (.mv (.c (.int .i64 212)))] [4, 5]) <|
  .ret) (.seq (.reg true [.r (some 17) (.mv (.t 0)),
    .r (some 18) (.nn (.t 17)),
    .r (some 19) (.fa 2 (.t 18)),
    .r (some 20) (.l1 (.t 19)),
    .r (some 21) (.len (.t 20)),
    .r (some 22) (.mv (.t 0)),
    .r (some 23) (.nn (.t 22)),
    .r (some 24) (.fa 0 (.t 23)),
    .r (some 25) (.l1 (.t 24)),
    .r (some 26) (.bi .geq (.t 21) (.t 25)),
    .r (some 16) (.mv (.t 26))] [0, 3, 16]) <|
  .cond (.t 16) (.seq (.reg false [.r (some 4) (.mv (.c (.int .i64 0))),
    .r (some 5) (.mv (.c (.int .i64 211)))] [4, 5]) <|
  .ret) (.skip))))) <|
  .seq (.reg false [.r (some 27) (.fa 2 (.t 3)),
    .r (some 28) (.l1 (.t 27)),
    .e (some 29) (.call 42 [(.t 28)]),
    .r (some 30) (.fa 2 (.t 3)),
    .e none (.st 1 (.t 30) (.t 29))] [0, 3]) <|
  .seq (.dr (.r 0 none (some 31) (.mv (.t 0)) <|
    .r 1 none (some 32) (.mv (.t 0)) <|
    .r 2 none (some 33) (.nn (.t 32)) <|
    .r 3 none (some 34) (.fa 2 (.t 33)) <|
    .r 4 none (some 35) (.l1 (.t 34)) <|
    .r 5 none (some 36) (.ln 3 (.t 3)) <|
    .e 6 none (some 37) (.bs 38 1 #[(.int .i64 0), (.int .i64 0), (.slice none 0 0)] [(0, 3, (.t 36))]) [4] <|
    .e 7 none (some 38) (.ap 38 3 40 #[(.int .i64 0), (.int .i64 0), (.slice none 0 0)] (.t 35) (.t 37)) [] <|
    .r 8 none (some 39) (.nn (.t 31)) <|
    .r 9 none (some 40) (.fa 2 (.t 39)) <|
    .e 10 none none (.st 1 (.t 40) (.t 38)) [] <|
    .nil) [0]) <|
  .seq (.reg false [.r (some 41) (.mv (.t 0)),
    .r (some 42) (.nn (.t 41)),
    .r (some 43) (.fa 2 (.t 42)),
    .r (some 44) (.l1 (.t 43)),
    .r (some 45) (.len (.t 44)),
    .r (some 46) (.bi .sub (.t 45) (.c (.int .i64 1))),
    .r (some 4) (.mv (.t 46)),
    .r (some 5) (.mv (.c (.int .i64 0)))] [4, 5]) <|
  .ret
theorem fit17 : Fits Try.prog 17 2 [(0, [0, 3], []), (1, [0, 3, 6], []), (2, [4, 5], []), (3, [0, 3, 10], []), (4, [4, 5], []), (5, [0, 3, 16], [0, 1, 3, 7, 15, 0, 32, 96, 224, 511, 1023]), (6, [4, 5], []), (7, [0, 3], []), (8, [0], [0, 0, 2, 6, 14, 0, 32, 126, 255, 511, 1023]), (9, [4, 5], [])] ir17 [.t 4, .t 5] 47 :=
  ⟨Try.f17, _, rfl, rfl, rfl, by decide, by kernel_rfl, by kernel_rfl⟩

/- 18 (*sloth/heap.Arena).Add (2) -/
def ir18 : IR := .seq (.reg false [.e (some 3) (.bx 38 (.t 1)),
    .r (some 4) (.mv (.c (.int .i64 0))),
    .r (some 5) (.mv (.c (.int .i64 0)))] [0, 3]) <|
  .seq (.block 0 (.seq (.reg false [.r (some 7) (.ln 3 (.t 3)),
    .e (some 8) (.call 43 [(.t 7)]),
    .r (some 9) (.no (.t 8)),
    .r (some 6) (.mv (.t 9))] [0, 3, 6]) <|
  .cond (.t 6) (.seq (.reg false [.r (some 4) (.mv (.c (.int .i64 0))),
    .r (some 5) (.mv (.c (.int .i64 1)))] [4, 5]) <|
  .ret) (.seq (.reg false [.r (some 11) (.mv (.t 0)),
    .r (some 12) (.fa 2 (.t 3)),
    .r (some 13) (.l1 (.t 12)),
    .e (some 14) (.call 44 [(.t 11), (.t 13)]),
    .r (some 15) (.no (.t 14)),
    .r (some 10) (.mv (.t 15))] [0, 3, 10]) <|
  .cond (.t 10) (.seq (.reg false [.r (some 4) (.mv (.c (.int .i64 0))),
    .r (some 5) (.mv (.c (.int .i64 202)))] [4, 5]) <|
  .ret) (.seq (.reg true [.r (some 17) (.mv (.t 0)),
    .r (some 18) (.nn (.t 17)),
    .r (some 19) (.fa 1 (.t 18)),
    .r (some 20) (.l1 (.t 19)),
    .r (some 21) (.len (.t 20)),
    .r (some 22) (.mv (.t 0)),
    .r (some 23) (.nn (.t 22)),
    .r (some 24) (.fa 0 (.t 23)),
    .r (some 25) (.l1 (.t 24)),
    .r (some 26) (.bi .eql (.t 21) (.t 25)),
    .r (some 16) (.mv (.t 26))] [0, 3, 16]) <|
  .cond (.t 16) (.seq (.reg false [.r (some 4) (.mv (.c (.int .i64 0))),
    .r (some 5) (.mv (.c (.int .i64 201)))] [4, 5]) <|
  .ret) (.skip))))) <|
  .seq (.dr (.r 0 none (some 27) (.mv (.t 0)) <|
    .r 1 none (some 28) (.mv (.t 0)) <|
    .r 2 none (some 29) (.nn (.t 28)) <|
    .r 3 none (some 30) (.fa 1 (.t 29)) <|
    .r 4 none (some 31) (.l1 (.t 30)) <|
    .r 5 none (some 32) (.ln 3 (.t 3)) <|
    .e 6 none (some 33) (.call 45 [(.t 32)]) [4] <|
    .e 7 none (some 34) (.bs 87 1 #[(.int .i64 0), (.int .i64 0), (.slice none 0 0)] [(0, 3, (.t 33))]) [4] <|
    .e 8 none (some 35) (.ap 87 3 40 #[(.int .i64 0), (.int .i64 0), (.slice none 0 0)] (.t 31) (.t 34)) [] <|
    .r 9 none (some 36) (.nn (.t 27)) <|
    .r 10 none (some 37) (.fa 1 (.t 36)) <|
    .e 11 none none (.st 1 (.t 37) (.t 35)) [] <|
    .nil) [0]) <|
  .seq (.reg false [.r (some 38) (.mv (.t 0)),
    .r (some 39) (.nn (.t 38)),
    .r (some 40) (.fa 1 (.t 39)),
    .r (some 41) (.l1 (.t 40)),
    .r (some 42) (.len (.t 41)),
    .r (some 43) (.bi .sub (.t 42) (.c (.int .i64 1))),
    .r (some 4) (.mv (.t 43)),
    .r (some 5) (.mv (.c (.int .i64 0)))] [4, 5]) <|
  .ret
theorem fit18 : Fits Try.prog 18 2 [(0, [0, 3], []), (1, [0, 3, 6], []), (2, [4, 5], []), (3, [0, 3, 10], []), (4, [4, 5], []), (5, [0, 3, 16], [0, 1, 3, 7, 15, 0, 32, 96, 224, 511, 1023]), (6, [4, 5], []), (7, [0], [0, 0, 2, 6, 14, 0, 32, 96, 254, 511, 1023, 2047]), (8, [4, 5], [])] ir18 [.t 4, .t 5] 44 :=
  ⟨Try.f18, _, rfl, rfl, rfl, by decide, by kernel_rfl, by kernel_rfl⟩

/- 19 sloth/slothlaw21.twin (2) -/
def ir19 : IR := .seq (.reg false [.r (some 4) (.mv (.c (.bool false)))] [0, 1]) <|
  .seq (.seq (.reg false [.r (some 5) (.mv (.t 0))] [0, 1, 5]) <|
  .block 0 (.seq (.reg false [.r (some 7) (.bi .eql (.t 5) (.c (.int .i64 211))),
    .r (some 6) (.mv (.t 7))] [0, 1, 5, 6]) <|
  .cond (.t 6) (.seq (.reg false [.r (some 8) (.mv (.t 1)),
    .r (some 9) (.bi .eql (.t 8) (.c (.int .i64 201))),
    .r (some 4) (.mv (.t 9))] [4]) <|
  .ret) (.seq (.reg false [.r (some 11) (.bi .eql (.t 5) (.c (.int .i64 212))),
    .r (some 10) (.mv (.t 11))] [0, 1, 10]) <|
  .cond (.t 10) (.seq (.reg false [.r (some 12) (.mv (.t 1)),
    .r (some 13) (.bi .eql (.t 12) (.c (.int .i64 202))),
    .r (some 4) (.mv (.t 13))] [4]) <|
  .ret) (.skip)))) <|
  .seq (.reg false [.r (some 14) (.mv (.t 0)),
    .r (some 15) (.mv (.t 1)),
    .r (some 16) (.bi .eql (.t 14) (.t 15)),
    .r (some 4) (.mv (.t 16))] [4]) <|
  .ret
theorem fit19 : Fits Try.prog 19 2 [(0, [0, 1], []), (1, [0, 1, 5], []), (2, [0, 1, 5, 6], []), (3, [4], []), (4, [0, 1, 10], []), (5, [4], []), (6, [4], [])] ir19 [.t 4] 17 :=
  ⟨Try.f19, _, rfl, rfl, rfl, by decide, by kernel_rfl, by kernel_rfl⟩

/- 20 sloth/slothlaw21.which (2) -/
def ir20 : IR := .seq (.reg false [.r (some 4) (.mv (.c (.int .i64 0)))] [0, 1]) <|
  .seq (.seq (.reg false [.r (some 5) (.mv (.t 0)),
    .r (some 6) (.len (.t 5)),
    .r (some 7) (.bi .eql (.t 6) (.c (.int .i64 0)))] [0, 1, 7]) <|
  .cond (.t 7) (.seq (.reg false [.r (some 4) (.mv (.c (.int .i64 (-1))))] [4]) <|
  .ret) (.skip)) <|
  .seq (.seq (.reg false [.r (some 8) (.mv (.t 1)),
    .r (some 9) (.bi .lss (.t 8) (.c (.int .i64 0)))] [0, 1, 9]) <|
  .cond (.t 9) (.reg false [.r (some 10) (.mv (.t 1)),
    .r (some 11) (.bi .add (.t 10) (.c (.int .i64 1))),
    .r (some 12) (.ng (.t 11)),
    .r (some 1) (.mv (.t 12))] [0, 1]) (.skip)) <|
  .seq (.reg false [.r (some 13) (.mv (.t 0)),
    .r (some 14) (.mv (.t 1)),
    .r (some 15) (.mv (.t 0)),
    .r (some 16) (.len (.t 15)),
    .r (some 17) (.bi .rem (.t 14) (.t 16)),
    .r (some 18) (.ia 1 (.t 13) (.t 17)),
    .r (some 19) (.l1 (.t 18)),
    .r (some 4) (.mv (.t 19))] [4]) <|
  .ret
theorem fit20 : Fits Try.prog 20 2 [(0, [0, 1], []), (1, [0, 1, 7], []), (2, [4], []), (3, [0, 1, 9], []), (4, [0, 1], []), (5, [4], [])] ir20 [.t 4] 20 :=
  ⟨Try.f20, _, rfl, rfl, rfl, by decide, by kernel_rfl, by kernel_rfl⟩

/- 21 sloth/slothlaw21.over (2) -/
def ir21L1 : IR := .seq (.seq (.reg false [.r (some 17) (.fa 0 (.t 6)),
    .r (some 18) (.l1 (.t 17)),
    .r (some 19) (.bi .eql (.t 18) (.c (.int .i64 5))),
    .r (some 20) (.mv (.t 19)),
    .gr 20 true (some 21) (.fa 2 (.t 6)),
    .gr 20 true (some 22) (.l1 (.t 21)),
    .gr 20 true (some 23) (.len (.t 22)),
    .gr 20 true (some 24) (.bi .eql (.t 23) (.c (.int .i64 1))),
    .r (some 25) (.pk (.t 20) (.t 24) (.c (.bool false)))] [0, 1, 6, 8, 25]) <|
  .cond (.t 25) (.skip) ((.exit 0))) <|
  .seq (.block 1 (.seq (.seq (.reg false [.r (some 28) (.mv (.t 8)),
    .r (some 29) (.mv (.t 0)),
    .e (some 30) (.call 10 [(.t 29)]),
    .r (some 31) (.bi .gtr (.t 28) (.t 30))] [0, 1, 6, 8, 31]) <|
  .cond (.t 31) (.seq (.reg false [.r (some 32) (.mv (.t 1)),
    .r (some 4) (.mv (.t 32)),
    .r (some 5) (.mv (.c (.bool true)))] [4, 5]) <|
  .ret) (.skip)) <|
  .seq (.reg false [.r (some 33) (.fa 2 (.t 6)),
    .r (some 34) (.l1 (.t 33)),
    .r (some 35) (.ia 1 (.t 34) (.c (.int .i64 0))),
    .r (some 36) (.l1 (.t 35)),
    .r (some 1) (.mv (.t 36))] [0, 1, 6, 8]) <|
  .seq (.reg false [.r (some 38) (.mv (.t 0)),
    .r (some 39) (.mv (.t 1)),
    .e (some 40) (.call 29 [(.t 38), (.t 39)]),
    .r (some 37) (.mv (.t 40)),
    .r (some 41) (.ex 0 (.t 37)),
    .r (some 42) (.ex 1 (.t 37)),
    .e (some 9) (.al 38 (.agg #[(.int .i64 0), (.int .i64 0), (.slice none 0 0)])),
    .e none (.st 3 (.t 9) (.t 41)),
    .r (some 10) (.mv (.t 42))] [0, 1, 6, 8, 9]) <|
  .reg false [.r (some 43) (.ln 3 (.t 9)),
    .e none (.st 3 (.t 6) (.t 43))] [0, 1, 6, 8])) <|
  .reg false [.r (some 26) (.mv (.t 8)),
    .r (some 27) (.bi .add (.t 26) (.c (.int .i64 1))),
    .r (some 8) (.mv (.t 27))] [0, 1, 6, 8]
def ir21 : IR := .seq (.reg false [.r (some 4) (.mv (.c (.int .i64 0))),
    .r (some 5) (.mv (.c (.bool false)))] [0, 1]) <|
  .seq (.reg false [.r (some 12) (.mv (.t 0)),
    .r (some 13) (.mv (.t 1)),
    .e (some 14) (.call 29 [(.t 12), (.t 13)]),
    .r (some 11) (.mv (.t 14)),
    .r (some 15) (.ex 0 (.t 11)),
    .r (some 16) (.ex 1 (.t 11)),
    .e (some 6) (.al 38 (.agg #[(.int .i64 0), (.int .i64 0), (.slice none 0 0)])),
    .e none (.st 3 (.t 6) (.t 15)),
    .r (some 7) (.mv (.t 16))] [0, 1, 6]) <|
  .seq (.seq (.reg false [.r (some 8) (.mv (.c (.int .i64 0)))] [0, 1, 6, 8]) <|
  .block 0 (.loop ir21L1)) <|
  .seq (.reg false [.r (some 44) (.mv (.t 1)),
    .r (some 4) (.mv (.t 44)),
    .r (some 5) (.mv (.c (.bool false)))] [4, 5]) <|
  .ret
theorem fit21 : Fits Try.prog 21 2 [(0, [0, 1], []), (1, [0, 1, 6], []), (2, [0, 1, 6, 8], []), (3, [0, 1, 6, 8, 25], []), (4, [0, 1, 6, 8], []), (5, [0, 1, 6, 8, 31], []), (6, [4, 5], []), (7, [0, 1, 6, 8], []), (8, [0, 1, 6, 8, 9], []), (9, [0, 1, 6, 8], []), (10, [4, 5], [])] ir21 [.t 4, .t 5] 45 :=
  ⟨Try.f21, _, rfl, rfl, rfl, by decide, by kernel_rfl, by kernel_rfl⟩

/- 22 sloth/slothlaw21.overHeap (2) -/
def ir22L1 : IR := .seq (.seq (.reg false [.r (some 17) (.fa 0 (.t 6)),
    .r (some 18) (.l1 (.t 17)),
    .r (some 19) (.bi .eql (.t 18) (.c (.int .i64 5))),
    .r (some 20) (.mv (.t 19)),
    .gr 20 true (some 21) (.fa 2 (.t 6)),
    .gr 20 true (some 22) (.l1 (.t 21)),
    .gr 20 true (some 23) (.len (.t 22)),
    .gr 20 true (some 24) (.bi .eql (.t 23) (.c (.int .i64 1))),
    .r (some 25) (.pk (.t 20) (.t 24) (.c (.bool false)))] [0, 1, 6, 8, 25]) <|
  .cond (.t 25) (.skip) ((.exit 0))) <|
  .seq (.block 1 (.seq (.seq (.reg false [.r (some 28) (.mv (.t 8)),
    .r (some 29) (.mv (.t 0)),
    .e (some 30) (.call 47 [(.t 29)]),
    .r (some 31) (.bi .gtr (.t 28) (.t 30))] [0, 1, 6, 8, 31]) <|
  .cond (.t 31) (.seq (.reg false [.r (some 32) (.mv (.t 1)),
    .r (some 4) (.mv (.t 32)),
    .r (some 5) (.mv (.c (.bool true)))] [4, 5]) <|
  .ret) (.skip)) <|
  .seq (.reg false [.r (some 33) (.fa 2 (.t 6)),
    .r (some 34) (.l1 (.t 33)),
    .r (some 35) (.ia 1 (.t 34) (.c (.int .i64 0))),
    .r (some 36) (.l1 (.t 35)),
    .r (some 1) (.mv (.t 36))] [0, 1, 6, 8]) <|
  .seq (.reg false [.r (some 38) (.mv (.t 0)),
    .r (some 39) (.mv (.t 1)),
    .e (some 40) (.call 46 [(.t 38), (.t 39)]),
    .r (some 37) (.mv (.t 40)),
    .r (some 41) (.ex 0 (.t 37)),
    .r (some 42) (.ex 1 (.t 37)),
    .e (some 9) (.al 38 (.agg #[(.int .i64 0), (.int .i64 0), (.slice none 0 0)])),
    .e none (.st 3 (.t 9) (.t 41)),
    .r (some 10) (.mv (.t 42))] [0, 1, 6, 8, 9]) <|
  .reg false [.r (some 43) (.ln 3 (.t 9)),
    .e none (.st 3 (.t 6) (.t 43))] [0, 1, 6, 8])) <|
  .reg false [.r (some 26) (.mv (.t 8)),
    .r (some 27) (.bi .add (.t 26) (.c (.int .i64 1))),
    .r (some 8) (.mv (.t 27))] [0, 1, 6, 8]
def ir22 : IR := .seq (.reg false [.r (some 4) (.mv (.c (.int .i64 0))),
    .r (some 5) (.mv (.c (.bool false)))] [0, 1]) <|
  .seq (.reg false [.r (some 12) (.mv (.t 0)),
    .r (some 13) (.mv (.t 1)),
    .e (some 14) (.call 46 [(.t 12), (.t 13)]),
    .r (some 11) (.mv (.t 14)),
    .r (some 15) (.ex 0 (.t 11)),
    .r (some 16) (.ex 1 (.t 11)),
    .e (some 6) (.al 38 (.agg #[(.int .i64 0), (.int .i64 0), (.slice none 0 0)])),
    .e none (.st 3 (.t 6) (.t 15)),
    .r (some 7) (.mv (.t 16))] [0, 1, 6]) <|
  .seq (.seq (.reg false [.r (some 8) (.mv (.c (.int .i64 0)))] [0, 1, 6, 8]) <|
  .block 0 (.loop ir22L1)) <|
  .seq (.reg false [.r (some 44) (.mv (.t 1)),
    .r (some 4) (.mv (.t 44)),
    .r (some 5) (.mv (.c (.bool false)))] [4, 5]) <|
  .ret
theorem fit22 : Fits Try.prog 22 2 [(0, [0, 1], []), (1, [0, 1, 6], []), (2, [0, 1, 6, 8], []), (3, [0, 1, 6, 8, 25], []), (4, [0, 1, 6, 8], []), (5, [0, 1, 6, 8, 31], []), (6, [4, 5], []), (7, [0, 1, 6, 8], []), (8, [0, 1, 6, 8, 9], []), (9, [0, 1, 6, 8], []), (10, [4, 5], [])] ir22 [.t 4, .t 5] 45 :=
  ⟨Try.f22, _, rfl, rfl, rfl, by decide, by kernel_rfl, by kernel_rfl⟩

/- 23 (*sloth/gens.Arena).Set (3) -/
def ir23 : IR := .seq (.reg false [.e (some 3) (.bx 24 (.t 0)),
    .e (some 5) (.bx 38 (.t 2)),
    .r (some 6) (.mv (.c (.int .i64 0)))] [1, 3, 5]) <|
  .seq (.block 0 (.seq (.reg false [.r (some 8) (.l1 (.t 3)),
    .r (some 9) (.mv (.t 1)),
    .e (some 10) (.bs 3 1 #[(.int .i64 0)] [(0, 1, (.t 9))]),
    .e (some 11) (.call 41 [(.t 8), (.t 10)]),
    .r (some 12) (.no (.t 11)),
    .r (some 7) (.mv (.t 12))] [1, 3, 5, 7]) <|
  .cond (.t 7) (.seq (.reg false [.r (some 6) (.mv (.c (.int .i64 212)))] [6]) <|
  .ret) (.seq (.reg false [.r (some 14) (.ln 3 (.t 5)),
    .e (some 15) (.call 40 [(.t 14)]),
    .r (some 16) (.no (.t 15)),
    .r (some 13) (.mv (.t 16))] [1, 3, 5, 13]) <|
  .cond (.t 13) (.seq (.reg false [.r (some 6) (.mv (.c (.int .i64 1)))] [6]) <|
  .ret) (.seq (.reg false [.r (some 18) (.l1 (.t 3)),
    .r (some 19) (.fa 2 (.t 5)),
    .r (some 20) (.l1 (.t 19)),
    .e (some 21) (.call 41 [(.t 18), (.t 20)]),
    .r (some 22) (.no (.t 21)),
    .r (some 17) (.mv (.t 22))] [1, 3, 5, 17]) <|
  .cond (.t 17) (.seq (.reg false [.r (some 6) (.mv (.c (.int .i64 212)))] [6]) <|
  .ret) (.skip))))) <|
  .seq (.reg false [.r (some 23) (.fa 2 (.t 5)),
    .r (some 24) (.l1 (.t 23)),
    .e (some 25) (.call 42 [(.t 24)]),
    .r (some 26) (.fa 2 (.t 5)),
    .e none (.st 1 (.t 26) (.t 25))] [1, 3, 5]) <|
  .seq (.reg true [.r (some 27) (.l1 (.t 3)),
    .r (some 28) (.nn (.t 27)),
    .r (some 29) (.fa 2 (.t 28)),
    .r (some 30) (.l1 (.t 29)),
    .r (some 31) (.mv (.t 1)),
    .r (some 32) (.ln 3 (.t 5)),
    .r (some 33) (.ia 3 (.t 30) (.t 31)),
    .e none (.st 3 (.t 33) (.t 32))] [1, 3, 5]) <|
  .seq (.seq (.reg false [.r (some 34) (.mv (.t 1)),
    .r (some 35) (.l1 (.t 3)),
    .r (some 36) (.nn (.t 35)),
    .r (some 37) (.fa 3 (.t 36)),
    .r (some 38) (.l1 (.t 37)),
    .r (some 39) (.bi .lss (.t 34) (.t 38))] [1, 3, 5, 39]) <|
  .cond (.t 39) (.seq (.reg false [.r (some 40) (.l1 (.t 3)),
    .r (some 41) (.nn (.t 40)),
    .r (some 42) (.fa 4 (.t 41)),
    .r (some 43) (.l1 (.t 42)),
    .r (some 44) (.mv (.t 1)),
    .e none (.raw ⟨none, (.call { callee := (.builtin .delete), args := #[(.tmp 43), (.tmp 44)], argTypes := #[69, 3] }), 0, "gens.go:94", #[⟨3, .data⟩, ⟨4, .data⟩], none⟩)] [1, 3, 5]) <|
  .seq (.reg false [.r (some 45) (.fa 2 (.t 5)),
    .r (some 46) (.l1 (.t 45)),
    .r (some 47) (.mf (.func 49) [] [(.t 3)]),
    .e (some 48) (.call 48 [(.t 46), (.t 47)])] [1, 3, 48]) <|
  .cond (.t 48) (.reg false [.r (some 49) (.l1 (.t 3)),
    .r (some 50) (.nn (.t 49)),
    .r (some 51) (.fa 4 (.t 50)),
    .r (some 52) (.l1 (.t 51)),
    .r (some 53) (.mv (.t 1)),
    .e none (.raw ⟨none, (.mapUpdate 69 (.tmp 52) (.tmp 53) (.const (.int .i64 1))), 0, "gens.go:96", #[⟨3, .data⟩, ⟨4, .data⟩, ⟨0, .phase⟩, ⟨1, .phase⟩, ⟨2, .phase⟩, ⟨3, .phase⟩, ⟨4, .phase⟩], none⟩)] []) (.skip)) (.skip)) <|
  .seq (.reg false [.r (some 6) (.mv (.c (.int .i64 0)))] [6]) <|
  .ret
theorem fit23 : Fits Try.prog 23 3 [(0, [1, 3, 5], []), (1, [1, 3, 5, 7], []), (2, [6], []), (3, [1, 3, 5, 13], []), (4, [6], []), (5, [1, 3, 5, 17], []), (6, [6], []), (7, [1, 3, 5], []), (8, [1, 3, 5], [0, 1, 3, 7, 0, 0, 63, 127]), (9, [1, 3, 5, 39], []), (10, [1, 3, 5], []), (11, [1, 3, 48], []), (12, [], []), (13, [6], [])] ir23 [.t 6] 54 :=
  ⟨Try.f23, _, rfl, rfl, rfl, by decide, by kernel_rfl, by kernel_rfl⟩

/- 24 (*sloth/heap.Arena).Set (3) -/
def ir24 : IR := .seq (.reg false [.e (some 5) (.bx 38 (.t 2)),
    .r (some 6) (.mv (.c (.int .i64 0)))] [0, 1, 5]) <|
  .seq (.block 0 (.seq (.reg false [.r (some 8) (.mv (.t 0)),
    .r (some 9) (.mv (.t 1)),
    .e (some 10) (.bs 3 1 #[(.int .i64 0)] [(0, 1, (.t 9))]),
    .e (some 11) (.call 44 [(.t 8), (.t 10)]),
    .r (some 12) (.no (.t 11)),
    .r (some 7) (.mv (.t 12))] [0, 1, 5, 7]) <|
  .cond (.t 7) (.seq (.reg false [.r (some 6) (.mv (.c (.int .i64 202)))] [6]) <|
  .ret) (.seq (.reg false [.r (some 14) (.ln 3 (.t 5)),
    .e (some 15) (.call 43 [(.t 14)]),
    .r (some 16) (.no (.t 15)),
    .r (some 13) (.mv (.t 16))] [0, 1, 5, 13]) <|
  .cond (.t 13) (.seq (.reg false [.r (some 6) (.mv (.c (.int .i64 1)))] [6]) <|
  .ret) (.seq (.reg false [.r (some 18) (.mv (.t 0)),
    .r (some 19) (.fa 2 (.t 5)),
    .r (some 20) (.l1 (.t 19)),
    .e (some 21) (.call 44 [(.t 18), (.t 20)]),
    .r (some 22) (.no (.t 21)),
    .r (some 17) (.mv (.t 22))] [0, 1, 5, 17]) <|
  .cond (.t 17) (.seq (.reg false [.r (some 6) (.mv (.c (.int .i64 202)))] [6]) <|
  .ret) (.skip))))) <|
  .seq (.seq (.reg true [.r (some 23) (.fa 2 (.t 5)),
    .r (some 24) (.l1 (.t 23)),
    .r (some 25) (.len (.t 24)),
    .r (some 26) (.bi .eql (.t 25) (.c (.int .i64 0))),
    .r (some 27) (.mv (.t 26)),
    .gr 27 true (some 28) (.mv (.t 0)),
    .gr 27 true (some 29) (.nn (.t 28)),
    .gr 27 true (some 30) (.fa 1 (.t 29)),
    .gr 27 true (some 31) (.l1 (.t 30)),
    .gr 27 true (some 32) (.mv (.t 1)),
    .gr 27 true (some 33) (.ia 3 (.t 31) (.t 32)),
    .gr 27 true (some 34) (.fa 0 (.t 33)),
    .gr 27 true (some 35) (.ln 2 (.t 34)),
    .gr 27 true (some 36) (.fa 0 (.t 5)),
    .gr 27 true (some 37) (.l1 (.t 36)),
    .gr 27 true (some 38) (.fa 1 (.t 5)),
    .gr 27 true (some 39) (.l1 (.t 38)),
    .gr 27 true (some 40) (.bd #[(.int .i64 0), (.int .i64 0)] [(0, 1, (.t 37)), (1, 1, (.t 39))]),
    .gr 27 true (some 41) (.eqa false [(0, .int), (1, .int)] (.t 35) (.t 40)),
    .r (some 42) (.pk (.t 27) (.t 41) (.c (.bool false))),
    .r (some 43) (.mv (.t 42)),
    .gr 43 true (some 44) (.mv (.t 0)),
    .gr 43 true (some 45) (.nn (.t 44)),
    .gr 43 true (some 46) (.fa 1 (.t 45)),
    .gr 43 true (some 47) (.l1 (.t 46)),
    .gr 43 true (some 48) (.mv (.t 1)),
    .gr 43 true (some 49) (.ia 3 (.t 47) (.t 48)),
    .gr 43 true (some 50) (.fa 2 (.t 49)),
    .gr 43 true (some 51) (.l1 (.t 50)),
    .gr 43 true (some 52) (.len (.t 51)),
    .gr 43 true (some 53) (.bi .eql (.t 52) (.c (.int .i64 0))),
    .r (some 54) (.pk (.t 43) (.t 53) (.c (.bool false)))] [0, 1, 5, 54]) <|
  .cond (.t 54) (.seq (.reg false [.r (some 6) (.mv (.c (.int .i64 0)))] [6]) <|
  .ret) (.skip)) <|
  .seq (.dr (.r 0 none (some 55) (.mv (.t 0)) <|
    .r 1 none (some 56) (.nn (.t 55)) <|
    .r 2 none (some 57) (.fa 1 (.t 56)) <|
    .r 3 none (some 58) (.l1 (.t 57)) <|
    .r 4 none (some 59) (.mv (.t 1)) <|
    .r 5 none (some 60) (.ln 3 (.t 5)) <|
    .e 6 none (some 61) (.call 45 [(.t 60)]) [3] <|
    .r 7 none (some 62) (.ia 3 (.t 58) (.t 59)) <|
    .e 8 none none (.st 3 (.t 62) (.t 61)) [] <|
    .nil) []) <|
  .seq (.reg false [.r (some 6) (.mv (.c (.int .i64 0)))] [6]) <|
  .ret
theorem fit24 : Fits Try.prog 24 3 [(0, [0, 1, 5], []), (1, [0, 1, 5, 7], []), (2, [6], []), (3, [0, 1, 5, 13], []), (4, [6], []), (5, [0, 1, 5, 17], []), (6, [6], []), (7, [0, 1, 5, 54], [0, 1, 3, 7, 15, 31, 63, 127, 255, 31, 1023, 2047, 4095, 31, 8223, 31, 32799, 122911, 262143, 524287, 1048575, 2097151, 4194303, 8388607, 16777215, 2097151, 67108863, 134217727, 268435455, 536870911, 1073741823, 2147483647]), (8, [6], []), (9, [], [0, 1, 3, 7, 0, 0, 32, 127, 255]), (10, [6], [])] ir24 [.t 6] 63 :=
  ⟨Try.f24, _, rfl, rfl, rfl, by decide, by kernel_rfl, by kernel_rfl⟩

/- 25 sloth/slothlaw21.both (5) -/
def ir25 : IR := .seq (.reg false [.e (some 7) (.bx 49 (.t 2)),
    .r (some 10) (.mv (.c (.slice none 0 0))),
    .r (some 11) (.mv (.c (.slice none 0 0))),
    .r (some 12) (.mv (.c (.int .i64 0))),
    .r (some 13) (.mv (.c (.int .i64 0)))] [0, 1, 3, 4, 7]) <|
  .seq (.seq (.reg false [.r (some 22) (.fa 0 (.t 7)),
    .r (some 23) (.l1 (.t 22)),
    .r (some 24) (.bi .eql (.t 23) (.c (.int .i64 4)))] [0, 1, 3, 4, 7, 24]) <|
  .cond (.t 24) (.seq (.reg false [.r (some 26) (.mv (.t 0)),
    .r (some 27) (.mv (.t 3)),
    .e (some 28) (.call 34 [(.t 26), (.t 27)]),
    .r (some 25) (.mv (.t 28)),
    .r (some 29) (.ex 0 (.t 25)),
    .r (some 30) (.ex 1 (.t 25)),
    .r (some 14) (.mv (.t 29)),
    .r (some 15) (.mv (.t 30))] [1, 4, 14, 15]) <|
  .seq (.reg false [.r (some 32) (.mv (.t 1)),
    .r (some 33) (.mv (.t 4)),
    .e (some 34) (.call 50 [(.t 32), (.t 33)]),
    .r (some 31) (.mv (.t 34)),
    .r (some 35) (.ex 0 (.t 31)),
    .r (some 36) (.ex 1 (.t 31)),
    .r (some 16) (.mv (.t 35)),
    .r (some 17) (.mv (.t 36))] [14, 15, 16, 17]) <|
  .seq (.reg false [.r (some 37) (.mv (.t 14)),
    .r (some 38) (.mv (.t 16)),
    .r (some 39) (.mv (.t 15)),
    .r (some 40) (.mv (.t 17)),
    .r (some 10) (.mv (.t 37)),
    .r (some 11) (.mv (.t 38)),
    .r (some 12) (.mv (.t 39)),
    .r (some 13) (.mv (.t 40))] [10, 11, 12, 13]) <|
  .ret) (.skip)) <|
  .seq (.reg false [.r (some 42) (.mv (.t 0)),
    .r (some 43) (.fa 1 (.t 7)),
    .r (some 44) (.l1 (.t 43)),
    .r (some 45) (.mv (.t 3)),
    .e (some 46) (.call 28 [(.t 42), (.t 44), (.t 45)]),
    .r (some 41) (.mv (.t 46)),
    .r (some 47) (.ex 0 (.t 41)),
    .r (some 48) (.ex 1 (.t 41)),
    .r (some 18) (.mv (.t 47)),
    .r (some 19) (.mv (.t 48))] [1, 4, 7, 18, 19]) <|
  .seq (.reg false [.r (some 50) (.mv (.t 1)),
    .r (some 51) (.fa 1 (.t 7)),
    .r (some 52) (.l1 (.t 51)),
    .r (some 53) (.mv (.t 4)),
    .e (some 54) (.call 51 [(.t 50), (.t 52), (.t 53)]),
    .r (some 49) (.mv (.t 54)),
    .r (some 55) (.ex 0 (.t 49)),
    .r (some 56) (.ex 1 (.t 49)),
    .r (some 20) (.mv (.t 55)),
    .r (some 21) (.mv (.t 56))] [18, 19, 20, 21]) <|
  .seq (.reg false [.r (some 57) (.mv (.t 18)),
    .r (some 58) (.mv (.t 20)),
    .r (some 59) (.mv (.t 19)),
    .r (some 60) (.mv (.t 21)),
    .r (some 10) (.mv (.t 57)),
    .r (some 11) (.mv (.t 58)),
    .r (some 12) (.mv (.t 59)),
    .r (some 13) (.mv (.t 60))] [10, 11, 12, 13]) <|
  .ret
theorem fit25 : Fits Try.prog 25 5 [(0, [0, 1, 3, 4, 7], []), (1, [0, 1, 3, 4, 7, 24], []), (2, [1, 4, 14, 15], []), (3, [14, 15, 16, 17], []), (4, [10, 11, 12, 13], []), (5, [1, 4, 7, 18, 19], []), (6, [18, 19, 20, 21], []), (7, [10, 11, 12, 13], [])] ir25 [.t 10, .t 11, .t 12, .t 13] 61 :=
  ⟨Try.f25, _, rfl, rfl, rfl, by decide, by kernel_rfl, by kernel_rfl⟩

/- 26 sloth/slothlaw21.copied (1) -/
def ir26 : IR := .seq (.reg false [.r (some 2) (.mv (.c (.slice none 0 0)))] [0]) <|
  .seq (.reg false [.r (some 3) (.mv (.c (.slice none 0 0)))] [0, 3]) <|
  .seq (.reg false [.r (some 4) (.mv (.t 3)),
    .r (some 5) (.mv (.t 0)),
    .e (some 6) (.ap 3 1 8 #[(.int .i64 0)] (.t 4) (.t 5)),
    .r (some 2) (.mv (.t 6))] [2]) <|
  .ret
theorem fit26 : Fits Try.prog 26 1 [(0, [0], []), (1, [0, 3], []), (2, [2], [])] ir26 [.t 2] 7 :=
  ⟨Try.f26, _, rfl, rfl, rfl, by decide, by kernel_rfl, by kernel_rfl⟩

/- 27 sloth/slothlaw21.alike (5) -/
def ir27L1 : IR := .seq (.seq (.reg false [.r (some 192) (.mv (.t 26)),
    .r (some 193) (.fa 2 (.t 22)),
    .r (some 194) (.l1 (.t 193)),
    .r (some 195) (.len (.t 194)),
    .r (some 196) (.bi .lss (.t 192) (.t 195)),
    .r (some 197) (.mv (.t 196)),
    .gr 197 true (some 198) (.mv (.t 19)),
    .gr 197 true (some 199) (.no (.t 198)),
    .r (some 200) (.pk (.t 197) (.t 199) (.c (.bool false)))] [1, 2, 13, 14, 15, 16, 19, 22, 24, 26, 200]) <|
  .cond (.t 200) (.skip) ((.exit 2))) <|
  .seq (.block 3 (.seq (.reg false [.r (some 203) (.mv (.t 15)),
    .r (some 204) (.fa 2 (.t 22)),
    .r (some 205) (.l1 (.t 204)),
    .r (some 206) (.mv (.t 26)),
    .r (some 207) (.ia 1 (.t 205) (.t 206)),
    .r (some 208) (.l1 (.t 207)),
    .e (some 209) (.bs 3 1 #[(.int .i64 0)] [(0, 1, (.t 208))]),
    .e (some 210) (.ap 3 1 8 #[(.int .i64 0)] (.t 203) (.t 209)),
    .r (some 15) (.mv (.t 210))] [1, 2, 13, 14, 15, 16, 19, 22, 24, 26]) <|
  .reg false [.r (some 211) (.mv (.t 16)),
    .r (some 212) (.fa 2 (.t 24)),
    .r (some 213) (.l1 (.t 212)),
    .r (some 214) (.mv (.t 26)),
    .r (some 215) (.ia 1 (.t 213) (.t 214)),
    .r (some 216) (.l1 (.t 215)),
    .e (some 217) (.bs 3 1 #[(.int .i64 0)] [(0, 1, (.t 216))]),
    .e (some 218) (.ap 3 1 8 #[(.int .i64 0)] (.t 211) (.t 217)),
    .r (some 16) (.mv (.t 218))] [1, 2, 13, 14, 15, 16, 19, 22, 24, 26])) <|
  .reg false [.r (some 201) (.mv (.t 26)),
    .r (some 202) (.bi .add (.t 201) (.c (.int .i64 1))),
    .r (some 26) (.mv (.t 202))] [1, 2, 13, 14, 15, 16, 19, 22, 24, 26]
def ir27L2 : IR := .seq (.seq (.reg false [.r (some 55) (.mv (.t 15)),
    .r (some 56) (.len (.t 55)),
    .r (some 57) (.bi .gtr (.t 56) (.c (.int .i64 0)))] [1, 2, 13, 14, 15, 16, 57]) <|
  .cond (.t 57) (.skip) ((.exit 0))) <|
  .block 1 (.seq (.reg false [.r (some 58) (.mv (.t 15)),
    .r (some 59) (.len (.t 58)),
    .r (some 60) (.bi .sub (.t 59) (.c (.int .i64 1))),
    .r (some 17) (.mv (.t 60))] [1, 2, 13, 14, 15, 16, 17]) <|
  .seq (.reg false [.r (some 62) (.mv (.t 1)),
    .r (some 63) (.mv (.t 15)),
    .r (some 64) (.mv (.t 17)),
    .r (some 65) (.ia 1 (.t 63) (.t 64)),
    .r (some 66) (.l1 (.t 65)),
    .e (some 67) (.call 21 [(.t 62), (.t 66)]),
    .r (some 61) (.mv (.t 67)),
    .r (some 68) (.ex 0 (.t 61)),
    .r (some 69) (.ex 1 (.t 61)),
    .r (some 18) (.mv (.t 68)),
    .r (some 19) (.mv (.t 69))] [1, 2, 13, 14, 15, 16, 17, 18, 19]) <|
  .seq (.reg false [.r (some 71) (.mv (.t 2)),
    .r (some 72) (.mv (.t 16)),
    .r (some 73) (.mv (.t 17)),
    .r (some 74) (.ia 1 (.t 72) (.t 73)),
    .r (some 75) (.l1 (.t 74)),
    .e (some 76) (.call 22 [(.t 71), (.t 75)]),
    .r (some 70) (.mv (.t 76)),
    .r (some 77) (.ex 0 (.t 70)),
    .r (some 78) (.ex 1 (.t 70)),
    .r (some 20) (.mv (.t 77)),
    .r (some 21) (.mv (.t 78))] [1, 2, 13, 14, 15, 16, 17, 18, 19, 20, 21]) <|
  .seq (.reg false [.r (some 79) (.mv (.t 15)),
    .r (some 80) (.mv (.t 17)),
    .r (some 81) (.sl 1 (.t 79) none (some (.t 80)) none),
    .r (some 15) (.mv (.t 81))] [1, 2, 13, 14, 15, 16, 17, 18, 19, 20, 21]) <|
  .seq (.reg false [.r (some 82) (.mv (.t 16)),
    .r (some 83) (.mv (.t 17)),
    .r (some 84) (.sl 1 (.t 82) none (some (.t 83)) none),
    .r (some 16) (.mv (.t 84))] [1, 2, 13, 14, 15, 16, 18, 19, 20, 21]) <|
  .seq (.seq (.reg false [.r (some 85) (.mv (.t 19)),
    .r (some 86) (.mv (.t 21)),
    .r (some 87) (.eq .bool true (.t 85) (.t 86))] [1, 2, 13, 14, 15, 16, 18, 19, 20, 87]) <|
  .cond (.t 87) (.seq (.reg false [.r (some 10) (.mv (.c (.bool false)))] [10]) <|
  .ret) (.skip)) <|
  .seq (.seq (.reg false [.r (some 88) (.mv (.t 19))] [1, 2, 13, 14, 15, 16, 18, 19, 20, 88]) <|
  .cond (.t 88) (.seq (.reg false [.r (some 89) (.mv (.t 1)),
    .r (some 90) (.mv (.t 18)),
    .e (some 91) (.call 52 [(.t 89), (.t 90)]),
    .r (some 18) (.mv (.t 91))] [1, 2, 13, 14, 15, 16, 18, 19, 20]) <|
  .reg false [.r (some 92) (.mv (.t 2)),
    .r (some 93) (.mv (.t 20)),
    .e (some 94) (.call 53 [(.t 92), (.t 93)]),
    .r (some 20) (.mv (.t 94))] [1, 2, 13, 14, 15, 16, 18, 19, 20]) (.skip)) <|
  .seq (.seq (.reg false [.r (some 95) (.mv (.t 18)),
    .r (some 96) (.bi .lss (.t 95) (.c (.int .i64 0))),
    .r (some 97) (.mv (.t 96)),
    .gr 97 false (some 98) (.mv (.t 18)),
    .gr 97 false (some 99) (.mv (.t 13)),
    .gr 97 false (some 100) (.len (.t 99)),
    .gr 97 false (some 101) (.bi .geq (.t 98) (.t 100)),
    .r (some 102) (.pk (.t 97) (.c (.bool true)) (.t 101)),
    .r (some 103) (.mv (.t 102)),
    .gr 103 false (some 104) (.mv (.t 20)),
    .gr 103 false (some 105) (.bi .lss (.t 104) (.c (.int .i64 0))),
    .r (some 106) (.pk (.t 103) (.c (.bool true)) (.t 105)),
    .r (some 107) (.mv (.t 106)),
    .gr 107 false (some 108) (.mv (.t 20)),
    .gr 107 false (some 109) (.mv (.t 14)),
    .gr 107 false (some 110) (.len (.t 109)),
    .gr 107 false (some 111) (.bi .geq (.t 108) (.t 110)),
    .r (some 112) (.pk (.t 107) (.c (.bool true)) (.t 111))] [1, 2, 13, 14, 15, 16, 18, 19, 20, 112]) <|
  .cond (.t 112) (.seq (.reg false [.r (some 10) (.mv (.c (.bool false)))] [10]) <|
  .ret) (.skip)) <|
  .seq (.seq (.reg false [.r (some 113) (.mv (.t 13)),
    .r (some 114) (.mv (.t 18)),
    .r (some 115) (.ia 1 (.t 113) (.t 114)),
    .r (some 116) (.l1 (.t 115)),
    .r (some 117) (.bi .neq (.t 116) (.c (.int .i64 0))),
    .r (some 118) (.mv (.t 117)),
    .gr 118 false (some 119) (.mv (.t 14)),
    .gr 118 false (some 120) (.mv (.t 20)),
    .gr 118 false (some 121) (.ia 1 (.t 119) (.t 120)),
    .gr 118 false (some 122) (.l1 (.t 121)),
    .gr 118 false (some 123) (.bi .neq (.t 122) (.c (.int .i64 0))),
    .r (some 124) (.pk (.t 118) (.c (.bool true)) (.t 123))] [1, 2, 13, 14, 15, 16, 18, 19, 20, 124]) <|
  .cond (.t 124) (.seq (.seq (.reg false [.r (some 125) (.mv (.t 13)),
    .r (some 126) (.mv (.t 18)),
    .r (some 127) (.ia 1 (.t 125) (.t 126)),
    .r (some 128) (.l1 (.t 127)),
    .r (some 129) (.mv (.t 20)),
    .r (some 130) (.bi .add (.t 129) (.c (.int .i64 1))),
    .r (some 131) (.bi .neq (.t 128) (.t 130)),
    .r (some 132) (.mv (.t 131)),
    .gr 132 false (some 133) (.mv (.t 14)),
    .gr 132 false (some 134) (.mv (.t 20)),
    .gr 132 false (some 135) (.ia 1 (.t 133) (.t 134)),
    .gr 132 false (some 136) (.l1 (.t 135)),
    .gr 132 false (some 137) (.mv (.t 18)),
    .gr 132 false (some 138) (.bi .add (.t 137) (.c (.int .i64 1))),
    .gr 132 false (some 139) (.bi .neq (.t 136) (.t 138)),
    .r (some 140) (.pk (.t 132) (.c (.bool true)) (.t 139))] [1, 2, 13, 14, 15, 16, 140]) <|
  .cond (.t 140) (.seq (.reg false [.r (some 10) (.mv (.c (.bool false)))] [10]) <|
  .ret) (.skip)) <|
  (.exit 1)) (.skip)) <|
  .seq (.reg false [.r (some 141) (.mv (.t 13)),
    .r (some 142) (.mv (.t 18)),
    .r (some 143) (.mv (.t 20)),
    .r (some 144) (.bi .add (.t 143) (.c (.int .i64 1))),
    .r (some 145) (.ia 1 (.t 141) (.t 142)),
    .e none (.st 1 (.t 145) (.t 144))] [1, 2, 13, 14, 15, 16, 18, 19, 20]) <|
  .seq (.reg false [.r (some 146) (.mv (.t 14)),
    .r (some 147) (.mv (.t 20)),
    .r (some 148) (.mv (.t 18)),
    .r (some 149) (.bi .add (.t 148) (.c (.int .i64 1))),
    .r (some 150) (.ia 1 (.t 146) (.t 147)),
    .e none (.st 1 (.t 150) (.t 149))] [1, 2, 13, 14, 15, 16, 18, 19, 20]) <|
  .seq (.reg false [.r (some 152) (.mv (.t 1)),
    .r (some 153) (.mv (.t 18)),
    .e (some 154) (.call 29 [(.t 152), (.t 153)]),
    .r (some 151) (.mv (.t 154)),
    .r (some 155) (.ex 0 (.t 151)),
    .r (some 156) (.ex 1 (.t 151)),
    .e (some 22) (.al 38 (.agg #[(.int .i64 0), (.int .i64 0), (.slice none 0 0)])),
    .e none (.st 3 (.t 22) (.t 155)),
    .r (some 23) (.mv (.t 156))] [1, 2, 13, 14, 15, 16, 19, 20, 22, 23]) <|
  .seq (.reg false [.r (some 158) (.mv (.t 2)),
    .r (some 159) (.mv (.t 20)),
    .e (some 160) (.call 46 [(.t 158), (.t 159)]),
    .r (some 157) (.mv (.t 160)),
    .r (some 161) (.ex 0 (.t 157)),
    .r (some 162) (.ex 1 (.t 157)),
    .e (some 24) (.al 38 (.agg #[(.int .i64 0), (.int .i64 0), (.slice none 0 0)])),
    .e none (.st 3 (.t 24) (.t 161)),
    .r (some 25) (.mv (.t 162))] [1, 2, 13, 14, 15, 16, 19, 22, 23, 24, 25]) <|
  .seq (.seq (.reg false [.r (some 163) (.mv (.t 23)),
    .r (some 164) (.bi .neq (.t 163) (.c (.int .i64 0))),
    .r (some 165) (.mv (.t 164)),
    .gr 165 false (some 166) (.mv (.t 25)),
    .gr 165 false (some 167) (.bi .neq (.t 166) (.c (.int .i64 0))),
    .r (some 168) (.pk (.t 165) (.c (.bool true)) (.t 167)),
    .r (some 169) (.mv (.t 168)),
    .gr 169 false (some 170) (.fa 0 (.t 22)),
    .gr 169 false (some 171) (.l1 (.t 170)),
    .gr 169 false (some 172) (.fa 0 (.t 24)),
    .gr 169 false (some 173) (.l1 (.t 172)),
    .gr 169 false (some 174) (.bi .neq (.t 171) (.t 173)),
    .r (some 175) (.pk (.t 169) (.c (.bool true)) (.t 174)),
    .r (some 176) (.mv (.t 175)),
    .gr 176 false (some 177) (.fa 1 (.t 22)),
    .gr 176 false (some 178) (.l1 (.t 177)),
    .gr 176 false (some 179) (.fa 1 (.t 24)),
    .gr 176 false (some 180) (.l1 (.t 179)),
    .gr 176 false (some 181) (.bi .neq (.t 178) (.t 180)),
    .r (some 182) (.pk (.t 176) (.c (.bool true)) (.t 181)),
    .r (some 183) (.mv (.t 182)),
    .gr 183 false (some 184) (.fa 2 (.t 22)),
    .gr 183 false (some 185) (.l1 (.t 184)),
    .gr 183 false (some 186) (.len (.t 185)),
    .gr 183 false (some 187) (.fa 2 (.t 24)),
    .gr 183 false (some 188) (.l1 (.t 187)),
    .gr 183 false (some 189) (.len (.t 188)),
    .gr 183 false (some 190) (.bi .neq (.t 186) (.t 189)),
    .r (some 191) (.pk (.t 183) (.c (.bool true)) (.t 190))] [1, 2, 13, 14, 15, 16, 19, 22, 24, 191]) <|
  .cond (.t 191) (.seq (.reg false [.r (some 10) (.mv (.c (.bool false)))] [10]) <|
  .ret) (.skip)) <|
  .seq (.reg false [.r (some 26) (.mv (.c (.int .i64 0)))] [1, 2, 13, 14, 15, 16, 19, 22, 24, 26]) <|
  .block 2 (.loop ir27L1))
def ir27 : IR := .seq (.reg false [.r (some 10) (.mv (.c (.bool false)))] [0, 1, 2, 3, 4]) <|
  .seq (.reg false [.r (some 27) (.mv (.t 1)),
    .e (some 28) (.call 10 [(.t 27)]),
    .r (some 11) (.mv (.t 28))] [0, 1, 2, 3, 4, 11]) <|
  .seq (.reg false [.r (some 29) (.mv (.t 2)),
    .e (some 30) (.call 47 [(.t 29)]),
    .r (some 12) (.mv (.t 30))] [0, 1, 2, 3, 4, 11, 12]) <|
  .seq (.seq (.reg false [.r (some 31) (.mv (.t 11)),
    .r (some 32) (.bi .lss (.t 31) (.c (.int .i64 0))),
    .r (some 33) (.mv (.t 32)),
    .gr 33 false (some 34) (.mv (.t 11)),
    .gr 33 false (some 35) (.mv (.t 0)),
    .gr 33 false (some 36) (.bi .gtr (.t 34) (.t 35)),
    .r (some 37) (.pk (.t 33) (.c (.bool true)) (.t 36)),
    .r (some 38) (.mv (.t 37)),
    .gr 38 false (some 39) (.mv (.t 12)),
    .gr 38 false (some 40) (.bi .lss (.t 39) (.c (.int .i64 0))),
    .r (some 41) (.pk (.t 38) (.c (.bool true)) (.t 40)),
    .r (some 42) (.mv (.t 41)),
    .gr 42 false (some 43) (.mv (.t 12)),
    .gr 42 false (some 44) (.mv (.t 0)),
    .gr 42 false (some 45) (.bi .gtr (.t 43) (.t 44)),
    .r (some 46) (.pk (.t 42) (.c (.bool true)) (.t 45))] [1, 2, 3, 4, 11, 12, 46]) <|
  .cond (.t 46) (.seq (.reg false [.r (some 10) (.mv (.c (.bool false)))] [10]) <|
  .ret) (.skip)) <|
  .seq (.reg false [.r (some 47) (.mv (.t 11)),
    .e (some 48) (.ms 3 1 8 #[(.int .i64 0)] (.t 47) (.t 47)),
    .r (some 13) (.mv (.t 48))] [1, 2, 3, 4, 12, 13]) <|
  .seq (.reg false [.r (some 49) (.mv (.t 12)),
    .e (some 50) (.ms 3 1 8 #[(.int .i64 0)] (.t 49) (.t 49)),
    .r (some 14) (.mv (.t 50))] [1, 2, 3, 4, 13, 14]) <|
  .seq (.reg false [.r (some 51) (.mv (.t 3)),
    .e (some 52) (.call 26 [(.t 51)]),
    .r (some 15) (.mv (.t 52))] [1, 2, 4, 13, 14, 15]) <|
  .seq (.reg false [.r (some 53) (.mv (.t 4)),
    .e (some 54) (.call 26 [(.t 53)]),
    .r (some 16) (.mv (.t 54))] [1, 2, 13, 14, 15, 16]) <|
  .seq (.block 0 (.loop ir27L2)) <|
  .seq (.reg false [.r (some 10) (.mv (.c (.bool true)))] [10]) <|
  .ret
theorem fit27 : Fits Try.prog 27 5 [(0, [0, 1, 2, 3, 4], []), (1, [0, 1, 2, 3, 4, 11], []), (2, [0, 1, 2, 3, 4, 11, 12], []), (3, [1, 2, 3, 4, 11, 12, 46], []), (4, [10], []), (5, [1, 2, 3, 4, 12, 13], []), (6, [1, 2, 3, 4, 13, 14], []), (7, [1, 2, 4, 13, 14, 15], []), (8, [1, 2, 13, 14, 15, 16], []), (9, [1, 2, 13, 14, 15, 16, 57], []), (10, [1, 2, 13, 14, 15, 16, 17], []), (11, [1, 2, 13, 14, 15, 16, 17, 18, 19], []), (12, [1, 2, 13, 14, 15, 16, 17, 18, 19, 20, 21], []), (13, [1, 2, 13, 14, 15, 16, 17, 18, 19, 20, 21], []), (14, [1, 2, 13, 14, 15, 16, 18, 19, 20, 21], []), (15, [1, 2, 13, 14, 15, 16, 18, 19, 20, 87], []), (16, [10], []), (17, [1, 2, 13, 14, 15, 16, 18, 19, 20, 88], []), (18, [1, 2, 13, 14, 15, 16, 18, 19, 20], []), (19, [1, 2, 13, 14, 15, 16, 18, 19, 20], []), (20, [1, 2, 13, 14, 15, 16, 18, 19, 20, 112], []), (21, [10], []), (22, [1, 2, 13, 14, 15, 16, 18, 19, 20, 124], []), (23, [1, 2, 13, 14, 15, 16, 140], []), (24, [10], []), (25, [1, 2, 13, 14, 15, 16, 18, 19, 20], []), (26, [1, 2, 13, 14, 15, 16, 18, 19, 20], []), (27, [1, 2, 13, 14, 15, 16, 19, 20, 22, 23], []), (28, [1, 2, 13, 14, 15, 16, 19, 22, 23, 24, 25], []), (29, [1, 2, 13, 14, 15, 16, 19, 22, 24, 191], []), (30, [10], []), (31, [1, 2, 13, 14, 15, 16, 19, 22, 24, 26], []), (32, [1, 2, 13, 14, 15, 16, 19, 22, 24, 26, 200], []), (33, [1, 2, 13, 14, 15, 16, 19, 22, 24, 26], []), (34, [1, 2, 13, 14, 15, 16, 19, 22, 24, 26], []), (35, [1, 2, 13, 14, 15, 16, 19, 22, 24, 26], []), (36, [10], [])] ir27 [.t 10] 219 :=
  ⟨Try.f27, _, rfl, rfl, rfl, by decide, by kernel_rfl, by kernel_rfl⟩

/- 28 (*sloth/gens.Arena).Room (3) -/
def ir28 : IR := .seq (.reg false [.r (some 6) (.mv (.c (.slice none 0 0))),
    .r (some 7) (.mv (.c (.int .i64 0)))] [0, 1, 2]) <|
  .seq (.seq (.reg false [.r (some 8) (.mv (.t 1)),
    .r (some 9) (.bi .lss (.t 8) (.c (.int .i64 0)))] [0, 1, 2, 9]) <|
  .cond (.t 9) (.seq (.reg false [.r (some 6) (.mv (.c (.slice none 0 0))),
    .r (some 7) (.mv (.c (.int .i64 1)))] [6, 7]) <|
  .ret) (.skip)) <|
  .seq (.seq (.reg false [.r (some 10) (.mv (.t 0)),
    .r (some 11) (.mv (.t 2)),
    .e (some 12) (.call 41 [(.t 10), (.t 11)]),
    .r (some 13) (.no (.t 12))] [0, 1, 2, 13]) <|
  .cond (.t 13) (.seq (.reg false [.r (some 6) (.mv (.c (.slice none 0 0))),
    .r (some 7) (.mv (.c (.int .i64 212)))] [6, 7]) <|
  .ret) (.skip)) <|
  .seq (.seq (.reg true [.r (some 14) (.mv (.t 1)),
    .r (some 15) (.mv (.t 0)),
    .r (some 16) (.nn (.t 15)),
    .r (some 17) (.fa 1 (.t 16)),
    .r (some 18) (.l1 (.t 17)),
    .r (some 19) (.mv (.t 0)),
    .r (some 20) (.nn (.t 19)),
    .r (some 21) (.fa 2 (.t 20)),
    .r (some 22) (.l1 (.t 21)),
    .r (some 23) (.len (.t 22)),
    .r (some 24) (.mv (.t 0)),
    .r (some 25) (.nn (.t 24)),
    .r (some 26) (.fa 3 (.t 25)),
    .r (some 27) (.l1 (.t 26)),
    .r (some 28) (.bi .sub (.t 23) (.t 27)),
    .r (some 29) (.bi .sub (.t 18) (.t 28)),
    .r (some 30) (.bi .leq (.t 14) (.t 29)),
    .r (some 31) (.mv (.t 30)),
    .gr 31 true (some 32) (.mv (.t 1)),
    .gr 31 true (some 33) (.mv (.t 0)),
    .gr 31 true (some 34) (.nn (.t 33)),
    .gr 31 true (some 35) (.fa 0 (.t 34)),
    .gr 31 true (some 36) (.l1 (.t 35)),
    .gr 31 true (some 37) (.mv (.t 0)),
    .gr 31 true (some 38) (.nn (.t 37)),
    .gr 31 true (some 39) (.fa 2 (.t 38)),
    .gr 31 true (some 40) (.l1 (.t 39)),
    .gr 31 true (some 41) (.len (.t 40)),
    .gr 31 true (some 42) (.bi .sub (.t 36) (.t 41)),
    .gr 31 true (some 43) (.bi .leq (.t 32) (.t 42)),
    .r (some 44) (.pk (.t 31) (.t 43) (.c (.bool false)))] [0, 1, 2, 44]) <|
  .cond (.t 44) (.seq (.reg false [.r (some 45) (.mv (.t 2)),
    .e (some 46) (.call 42 [(.t 45)]),
    .r (some 6) (.mv (.t 46)),
    .r (some 7) (.mv (.c (.int .i64 0)))] [6, 7]) <|
  .ret) (.skip)) <|
  .seq (.reg false [.r (some 47) (.mv (.t 0)),
    .r (some 48) (.mv (.t 2)),
    .e (some 49) (.call 54 [(.t 47), (.t 48)]),
    .r (some 2) (.mv (.t 49))] [0, 1, 2]) <|
  .seq (.seq (.reg true [.r (some 50) (.mv (.t 1)),
    .r (some 51) (.mv (.t 0)),
    .r (some 52) (.nn (.t 51)),
    .r (some 53) (.fa 0 (.t 52)),
    .r (some 54) (.l1 (.t 53)),
    .r (some 55) (.mv (.t 0)),
    .r (some 56) (.nn (.t 55)),
    .r (some 57) (.fa 2 (.t 56)),
    .r (some 58) (.l1 (.t 57)),
    .r (some 59) (.len (.t 58)),
    .r (some 60) (.bi .sub (.t 54) (.t 59)),
    .r (some 61) (.bi .gtr (.t 50) (.t 60))] [0, 1, 2, 61]) <|
  .cond (.t 61) (.reg false [.r (some 62) (.mv (.t 0)),
    .r (some 63) (.mv (.t 2)),
    .e (some 64) (.call 55 [(.t 62), (.t 63)]),
    .r (some 2) (.mv (.t 64))] [0, 1, 2]) (.skip)) <|
  .seq (.seq (.reg true [.r (some 65) (.mv (.t 1)),
    .r (some 66) (.mv (.t 0)),
    .r (some 67) (.nn (.t 66)),
    .r (some 68) (.fa 0 (.t 67)),
    .r (some 69) (.l1 (.t 68)),
    .r (some 70) (.mv (.t 0)),
    .r (some 71) (.nn (.t 70)),
    .r (some 72) (.fa 2 (.t 71)),
    .r (some 73) (.l1 (.t 72)),
    .r (some 74) (.len (.t 73)),
    .r (some 75) (.bi .sub (.t 69) (.t 74)),
    .r (some 76) (.bi .gtr (.t 65) (.t 75))] [2, 76]) <|
  .cond (.t 76) (.seq (.reg false [.r (some 6) (.mv (.c (.slice none 0 0))),
    .r (some 7) (.mv (.c (.int .i64 211)))] [6, 7]) <|
  .ret) (.skip)) <|
  .seq (.reg false [.r (some 77) (.mv (.t 2)),
    .r (some 6) (.mv (.t 77)),
    .r (some 7) (.mv (.c (.int .i64 0)))] [6, 7]) <|
  .ret
theorem fit28 : Fits Try.prog 28 3 [(0, [0, 1, 2], []), (1, [0, 1, 2, 9], []), (2, [6, 7], []), (3, [0, 1, 2, 13], []), (4, [6, 7], []), (5, [0, 1, 2, 44], [0, 0, 2, 6, 14, 0, 32, 96, 224, 480, 0, 1024, 3072, 7168, 16352, 32766, 65535, 131071, 262143, 262143, 786431, 1835007, 3932159, 262143, 8650751, 25427967, 58982399, 126091263, 268173311, 536870911, 1073741823]), (6, [6, 7], []), (7, [0, 1, 2], []), (8, [0, 1, 2, 61], [0, 0, 2, 6, 14, 0, 32, 96, 224, 480, 1022, 2047]), (9, [0, 1, 2], []), (10, [2, 76], [0, 0, 2, 6, 14, 0, 32, 96, 224, 480, 1022, 2047]), (11, [6, 7], []), (12, [6, 7], [])] ir28 [.t 6, .t 7] 78 :=
  ⟨Try.f28, _, rfl, rfl, rfl, by decide, by kernel_rfl, by kernel_rfl⟩

/- 29 (*sloth/gens.Arena).Get (2) -/
def ir29 : IR := .seq (.reg false [.e (some 4) (.al 38 (.agg #[(.int .i64 0), (.int .i64 0), (.slice none 0 0)])),
    .r (some 5) (.mv (.c (.int .i64 0)))] [0, 1, 4]) <|
  .seq (.seq (.reg false [.r (some 7) (.mv (.t 0)),
    .r (some 8) (.mv (.t 1)),
    .e (some 9) (.bs 3 1 #[(.int .i64 0)] [(0, 1, (.t 8))]),
    .e (some 10) (.call 41 [(.t 7), (.t 9)]),
    .r (some 11) (.no (.t 10))] [0, 1, 4, 11]) <|
  .cond (.t 11) (.seq (.reg false [.r (some 12) (.bd #[(.int .i64 0), (.int .i64 0), (.slice none 0 0)] []),
    .e none (.st 3 (.t 4) (.t 12)),
    .r (some 5) (.mv (.c (.int .i64 212)))] [4, 5]) <|
  .ret) (.skip)) <|
  .seq (.reg false [.r (some 13) (.mv (.t 0)),
    .r (some 14) (.nn (.t 13)),
    .r (some 15) (.fa 2 (.t 14)),
    .r (some 16) (.l1 (.t 15)),
    .r (some 17) (.mv (.t 1)),
    .r (some 18) (.ia 3 (.t 16) (.t 17)),
    .r (some 19) (.ln 3 (.t 18)),
    .e (some 6) (.al 38 (.agg #[(.int .i64 0), (.int .i64 0), (.slice none 0 0)])),
    .e none (.st 3 (.t 6) (.t 19))] [4, 6]) <|
  .seq (.reg false [.r (some 20) (.fa 2 (.t 6)),
    .r (some 21) (.l1 (.t 20)),
    .e (some 22) (.call 42 [(.t 21)]),
    .r (some 23) (.fa 2 (.t 6)),
    .e none (.st 1 (.t 23) (.t 22))] [4, 6]) <|
  .seq (.reg false [.r (some 24) (.ln 3 (.t 6)),
    .e none (.st 3 (.t 4) (.t 24)),
    .r (some 5) (.mv (.c (.int .i64 0)))] [4, 5]) <|
  .ret
theorem fit29 : Fits Try.prog 29 2 [(0, [0, 1, 4], []), (1, [0, 1, 4, 11], []), (2, [4, 5], []), (3, [4, 6], []), (4, [4, 6], []), (5, [4, 5], [])] ir29 [.n 4 3, .t 5] 25 :=
  ⟨Try.f29, _, rfl, rfl, rfl, by decide, by kernel_rfl, by kernel_rfl⟩

/- 30 sloth/slothlaw21.lent (1) -/
def ir30L1 : IR := .seq (.seq (.reg false [.r (some 9) (.mv (.t 4)),
    .r (some 10) (.mv (.t 3)),
    .r (some 11) (.len (.t 10)),
    .r (some 12) (.bi .lss (.t 9) (.t 11))] [0, 3, 4, 12]) <|
  .cond (.t 12) (.skip) ((.exit 0))) <|
  .seq (.block 1 (.seq (.reg false [.r (some 15) (.mv (.t 3)),
    .r (some 16) (.mv (.t 4)),
    .r (some 17) (.ia 1 (.t 15) (.t 16)),
    .e none (.st 1 (.t 17) (.c (.int .i64 (-77))))] [0, 3, 4]) <|
  .seq (.reg false [.r (some 18) (.mv (.t 4)),
    .r (some 19) (.mv (.t 0)),
    .r (some 20) (.len (.t 19)),
    .r (some 21) (.bi .lss (.t 18) (.t 20))] [0, 3, 4, 21]) <|
  .cond (.t 21) (.reg false [.r (some 22) (.mv (.t 3)),
    .r (some 23) (.mv (.t 4)),
    .r (some 24) (.mv (.t 0)),
    .r (some 25) (.mv (.t 4)),
    .r (some 26) (.ia 1 (.t 24) (.t 25)),
    .r (some 27) (.l1 (.t 26)),
    .r (some 28) (.ia 1 (.t 22) (.t 23)),
    .e none (.st 1 (.t 28) (.t 27))] [0, 3, 4]) (.skip))) <|
  .reg false [.r (some 13) (.mv (.t 4)),
    .r (some 14) (.bi .add (.t 13) (.c (.int .i64 1))),
    .r (some 4) (.mv (.t 14))] [0, 3, 4]
def ir30 : IR := .seq (.reg false [.r (some 2) (.mv (.c (.slice none 0 0)))] [0]) <|
  .seq (.reg false [.r (some 5) (.mv (.t 0)),
    .r (some 6) (.len (.t 5)),
    .r (some 7) (.bi .add (.t 6) (.c (.int .i64 2))),
    .e (some 8) (.ms 3 1 8 #[(.int .i64 0)] (.t 7) (.t 7)),
    .r (some 3) (.mv (.t 8))] [0, 3]) <|
  .seq (.seq (.reg false [.r (some 4) (.mv (.c (.int .i64 0)))] [0, 3, 4]) <|
  .block 0 (.loop ir30L1)) <|
  .seq (.reg false [.r (some 29) (.mv (.t 3)),
    .r (some 2) (.mv (.t 29))] [2]) <|
  .ret
theorem fit30 : Fits Try.prog 30 1 [(0, [0], []), (1, [0, 3], []), (2, [0, 3, 4], []), (3, [0, 3, 4, 12], []), (4, [0, 3, 4], []), (5, [0, 3, 4], []), (6, [0, 3, 4, 21], []), (7, [0, 3, 4], []), (8, [2], [])] ir30 [.t 2] 30 :=
  ⟨Try.f30, _, rfl, rfl, rfl, by decide, by kernel_rfl, by kernel_rfl⟩

/- 31 (*sloth/slothref21.Arena).Add (2) -/
def ir31 : IR := .seq (.reg false [.e (some 3) (.bx 38 (.t 1)),
    .r (some 4) (.mv (.c (.int .i64 0))),
    .r (some 5) (.mv (.c (.int .i64 0)))] [0, 3]) <|
  .seq (.reg false [.r (some 8) (.ln 3 (.t 3)),
    .e (some 9) (.call 56 [(.t 8)]),
    .r (some 6) (.mv (.t 9))] [0, 3, 6]) <|
  .seq (.reg false [.r (some 10) (.mv (.t 0)),
    .r (some 11) (.fa 2 (.t 3)),
    .r (some 12) (.l1 (.t 11)),
    .e (some 13) (.call 57 [(.t 10), (.t 12)]),
    .r (some 7) (.mv (.t 13))] [0, 3, 6, 7]) <|
  .seq (.block 0 (.seq (.reg false [.r (some 15) (.mv (.t 6)),
    .r (some 16) (.no (.t 15)),
    .r (some 14) (.mv (.t 16))] [0, 3, 7, 14]) <|
  .cond (.t 14) (.seq (.reg false [.r (some 4) (.mv (.c (.int .i64 0))),
    .r (some 5) (.mv (.c (.int .i64 1)))] [4, 5]) <|
  .ret) (.seq (.reg false [.r (some 18) (.mv (.t 7)),
    .r (some 19) (.no (.t 18)),
    .r (some 17) (.mv (.t 19))] [0, 3, 17]) <|
  .cond (.t 17) (.seq (.reg false [.r (some 4) (.mv (.c (.int .i64 0))),
    .r (some 5) (.mv (.c (.int .i64 212)))] [4, 5]) <|
  .ret) (.seq (.reg true [.r (some 21) (.mv (.t 0)),
    .r (some 22) (.nn (.t 21)),
    .r (some 23) (.fa 2 (.t 22)),
    .r (some 24) (.l1 (.t 23)),
    .r (some 25) (.len (.t 24)),
    .r (some 26) (.mv (.t 0)),
    .r (some 27) (.nn (.t 26)),
    .r (some 28) (.fa 0 (.t 27)),
    .r (some 29) (.l1 (.t 28)),
    .r (some 30) (.bi .geq (.t 25) (.t 29)),
    .r (some 20) (.mv (.t 30))] [0, 3, 20]) <|
  .cond (.t 20) (.seq (.reg false [.r (some 4) (.mv (.c (.int .i64 0))),
    .r (some 5) (.mv (.c (.int .i64 211)))] [4, 5]) <|
  .ret) (.skip))))) <|
  .seq (.reg false [.r (some 31) (.fa 2 (.t 3)),
    .r (some 32) (.l1 (.t 31)),
    .e (some 33) (.call 58 [(.t 32)]),
    .r (some 34) (.fa 2 (.t 3)),
    .e none (.st 1 (.t 34) (.t 33))] [0, 3]) <|
  .seq (.dr (.r 0 none (some 35) (.mv (.t 0)) <|
    .r 1 none (some 36) (.mv (.t 0)) <|
    .r 2 none (some 37) (.nn (.t 36)) <|
    .r 3 none (some 38) (.fa 2 (.t 37)) <|
    .r 4 none (some 39) (.l1 (.t 38)) <|
    .r 5 none (some 40) (.ln 3 (.t 3)) <|
    .e 6 none (some 41) (.bs 38 1 #[(.int .i64 0), (.int .i64 0), (.slice none 0 0)] [(0, 3, (.t 40))]) [4] <|
    .e 7 none (some 42) (.ap 38 3 40 #[(.int .i64 0), (.int .i64 0), (.slice none 0 0)] (.t 39) (.t 41)) [] <|
    .r 8 none (some 43) (.nn (.t 35)) <|
    .r 9 none (some 44) (.fa 2 (.t 43)) <|
    .e 10 none none (.st 1 (.t 44) (.t 42)) [] <|
    .nil) [0]) <|
  .seq (.reg false [.r (some 45) (.mv (.t 0)),
    .r (some 46) (.nn (.t 45)),
    .r (some 47) (.fa 2 (.t 46)),
    .r (some 48) (.l1 (.t 47)),
    .r (some 49) (.len (.t 48)),
    .r (some 50) (.bi .sub (.t 49) (.c (.int .i64 1))),
    .r (some 4) (.mv (.t 50)),
    .r (some 5) (.mv (.c (.int .i64 0)))] [4, 5]) <|
  .ret
theorem fit31 : Fits Try.prog 31 2 [(0, [0, 3], []), (1, [0, 3, 6], []), (2, [0, 3, 6, 7], []), (3, [0, 3, 7, 14], []), (4, [4, 5], []), (5, [0, 3, 17], []), (6, [4, 5], []), (7, [0, 3, 20], [0, 1, 3, 7, 15, 0, 32, 96, 224, 511, 1023]), (8, [4, 5], []), (9, [0, 3], []), (10, [0], [0, 0, 2, 6, 14, 0, 32, 126, 255, 511, 1023]), (11, [4, 5], [])] ir31 [.t 4, .t 5] 51 :=
  ⟨Try.f31, _, rfl, rfl, rfl, by decide, by kernel_rfl, by kernel_rfl⟩

/- 32 (*sloth/slothref21.Arena).Get (2) -/
def ir32 : IR := .seq (.reg false [.e (some 4) (.al 38 (.agg #[(.int .i64 0), (.int .i64 0), (.slice none 0 0)])),
    .r (some 5) (.mv (.c (.int .i64 0)))] [0, 1, 4]) <|
  .seq (.seq (.reg false [.r (some 7) (.mv (.t 1)),
    .r (some 8) (.bi .lss (.t 7) (.c (.int .i64 0))),
    .r (some 9) (.mv (.t 8)),
    .gr 9 false (some 10) (.mv (.t 1)),
    .gr 9 false (some 11) (.mv (.t 0)),
    .gr 9 false (some 12) (.nn (.t 11)),
    .gr 9 false (some 13) (.fa 2 (.t 12)),
    .gr 9 false (some 14) (.l1 (.t 13)),
    .gr 9 false (some 15) (.len (.t 14)),
    .gr 9 false (some 16) (.bi .geq (.t 10) (.t 15)),
    .r (some 17) (.pk (.t 9) (.c (.bool true)) (.t 16))] [0, 1, 4, 17]) <|
  .cond (.t 17) (.seq (.reg false [.r (some 18) (.bd #[(.int .i64 0), (.int .i64 0), (.slice none 0 0)] []),
    .e none (.st 3 (.t 4) (.t 18)),
    .r (some 5) (.mv (.c (.int .i64 212)))] [4, 5]) <|
  .ret) (.skip)) <|
  .seq (.reg false [.r (some 19) (.mv (.t 0)),
    .r (some 20) (.nn (.t 19)),
    .r (some 21) (.fa 2 (.t 20)),
    .r (some 22) (.l1 (.t 21)),
    .r (some 23) (.mv (.t 1)),
    .r (some 24) (.ia 3 (.t 22) (.t 23)),
    .r (some 25) (.ln 3 (.t 24)),
    .e (some 6) (.al 38 (.agg #[(.int .i64 0), (.int .i64 0), (.slice none 0 0)])),
    .e none (.st 3 (.t 6) (.t 25))] [4, 6]) <|
  .seq (.reg false [.r (some 26) (.fa 2 (.t 6)),
    .r (some 27) (.l1 (.t 26)),
    .e (some 28) (.call 58 [(.t 27)]),
    .r (some 29) (.fa 2 (.t 6)),
    .e none (.st 1 (.t 29) (.t 28))] [4, 6]) <|
  .seq (.reg false [.r (some 30) (.ln 3 (.t 6)),
    .e none (.st 3 (.t 4) (.t 30)),
    .r (some 5) (.mv (.c (.int .i64 0)))] [4, 5]) <|
  .ret
theorem fit32 : Fits Try.prog 32 2 [(0, [0, 1, 4], []), (1, [0, 1, 4, 17], []), (2, [4, 5], []), (3, [4, 6], []), (4, [4, 6], []), (5, [4, 5], [])] ir32 [.n 4 3, .t 5] 31 :=
  ⟨Try.f32, _, rfl, rfl, rfl, by decide, by kernel_rfl, by kernel_rfl⟩

/- 33 (*sloth/slothref21.Arena).Set (3) -/
def ir33 : IR := .seq (.reg false [.e (some 5) (.bx 38 (.t 2)),
    .r (some 6) (.mv (.c (.int .i64 0)))] [0, 1, 5]) <|
  .seq (.seq (.reg false [.r (some 9) (.mv (.t 1)),
    .r (some 10) (.bi .lss (.t 9) (.c (.int .i64 0))),
    .r (some 11) (.mv (.t 10)),
    .gr 11 false (some 12) (.mv (.t 1)),
    .gr 11 false (some 13) (.mv (.t 0)),
    .gr 11 false (some 14) (.nn (.t 13)),
    .gr 11 false (some 15) (.fa 2 (.t 14)),
    .gr 11 false (some 16) (.l1 (.t 15)),
    .gr 11 false (some 17) (.len (.t 16)),
    .gr 11 false (some 18) (.bi .geq (.t 12) (.t 17)),
    .r (some 19) (.pk (.t 11) (.c (.bool true)) (.t 18))] [0, 1, 5, 19]) <|
  .cond (.t 19) (.seq (.reg false [.r (some 6) (.mv (.c (.int .i64 212)))] [6]) <|
  .ret) (.skip)) <|
  .seq (.reg false [.r (some 20) (.ln 3 (.t 5)),
    .e (some 21) (.call 56 [(.t 20)]),
    .r (some 7) (.mv (.t 21))] [0, 1, 5, 7]) <|
  .seq (.reg false [.r (some 22) (.mv (.t 0)),
    .r (some 23) (.fa 2 (.t 5)),
    .r (some 24) (.l1 (.t 23)),
    .e (some 25) (.call 57 [(.t 22), (.t 24)]),
    .r (some 8) (.mv (.t 25))] [0, 1, 5, 7, 8]) <|
  .seq (.block 0 (.seq (.reg false [.r (some 27) (.mv (.t 7)),
    .r (some 28) (.no (.t 27)),
    .r (some 26) (.mv (.t 28))] [0, 1, 5, 8, 26]) <|
  .cond (.t 26) (.seq (.reg false [.r (some 6) (.mv (.c (.int .i64 1)))] [6]) <|
  .ret) (.seq (.reg false [.r (some 30) (.mv (.t 8)),
    .r (some 31) (.no (.t 30)),
    .r (some 29) (.mv (.t 31))] [0, 1, 5, 29]) <|
  .cond (.t 29) (.seq (.reg false [.r (some 6) (.mv (.c (.int .i64 212)))] [6]) <|
  .ret) (.skip)))) <|
  .seq (.reg false [.r (some 32) (.fa 2 (.t 5)),
    .r (some 33) (.l1 (.t 32)),
    .e (some 34) (.call 58 [(.t 33)]),
    .r (some 35) (.fa 2 (.t 5)),
    .e none (.st 1 (.t 35) (.t 34))] [0, 1, 5]) <|
  .seq (.reg true [.r (some 36) (.mv (.t 0)),
    .r (some 37) (.nn (.t 36)),
    .r (some 38) (.fa 2 (.t 37)),
    .r (some 39) (.l1 (.t 38)),
    .r (some 40) (.mv (.t 1)),
    .r (some 41) (.ln 3 (.t 5)),
    .r (some 42) (.ia 3 (.t 39) (.t 40)),
    .e none (.st 3 (.t 42) (.t 41))] []) <|
  .seq (.reg false [.r (some 6) (.mv (.c (.int .i64 0)))] [6]) <|
  .ret
theorem fit33 : Fits Try.prog 33 3 [(0, [0, 1, 5], []), (1, [0, 1, 5, 19], []), (2, [6], []), (3, [0, 1, 5, 7], []), (4, [0, 1, 5, 7, 8], []), (5, [0, 1, 5, 8, 26], []), (6, [6], []), (7, [0, 1, 5, 29], []), (8, [6], []), (9, [0, 1, 5], []), (10, [], [0, 1, 3, 7, 0, 0, 63, 127]), (11, [6], [])] ir33 [.t 6] 43 :=
  ⟨Try.f33, _, rfl, rfl, rfl, by decide, by kernel_rfl, by kernel_rfl⟩

/- 34 (*sloth/gens.Arena).Collect (2) -/
def ir34 : IR := .seq (.reg false [.r (some 4) (.mv (.c (.slice none 0 0))),
    .r (some 5) (.mv (.c (.int .i64 0)))] [0, 1]) <|
  .seq (.seq (.reg false [.r (some 6) (.mv (.t 0)),
    .r (some 7) (.mv (.t 1)),
    .e (some 8) (.call 41 [(.t 6), (.t 7)]),
    .r (some 9) (.no (.t 8))] [0, 1, 9]) <|
  .cond (.t 9) (.seq (.reg false [.r (some 4) (.mv (.c (.slice none 0 0))),
    .r (some 5) (.mv (.c (.int .i64 212)))] [4, 5]) <|
  .ret) (.skip)) <|
  .seq (.reg false [.r (some 10) (.mv (.t 0)),
    .r (some 11) (.mv (.t 1)),
    .e (some 12) (.call 55 [(.t 10), (.t 11)]),
    .r (some 4) (.mv (.t 12)),
    .r (some 5) (.mv (.c (.int .i64 0)))] [4, 5]) <|
  .ret
theorem fit34 : Fits Try.prog 34 2 [(0, [0, 1], []), (1, [0, 1, 9], []), (2, [4, 5], []), (3, [4, 5], [])] ir34 [.t 4, .t 5] 13 :=
  ⟨Try.f34, _, rfl, rfl, rfl, by decide, by kernel_rfl, by kernel_rfl⟩

/- 35 (*sloth/slothref21.Arena).Collect (2) -/
def ir35L1 : IR := .seq (.seq (.reg false [.r (some 26) (.mv (.t 9)),
    .r (some 27) (.mv (.t 1)),
    .r (some 28) (.len (.t 27)),
    .r (some 29) (.bi .lss (.t 26) (.t 28))] [0, 1, 7, 8, 9, 29]) <|
  .cond (.t 29) (.skip) ((.exit 0))) <|
  .seq (.block 1 (.seq (.reg false [.r (some 32) (.mv (.t 0)),
    .r (some 33) (.mv (.t 1)),
    .r (some 34) (.mv (.t 9)),
    .r (some 35) (.ia 1 (.t 33) (.t 34)),
    .r (some 36) (.l1 (.t 35)),
    .e (some 37) (.call 60 [(.t 32), (.t 36)]),
    .r (some 10) (.mv (.t 37))] [0, 1, 7, 8, 9, 10]) <|
  .seq (.reg false [.r (some 38) (.mv (.t 7)),
    .r (some 39) (.mv (.t 10)),
    .e (some 40) (.call 61 [(.t 38), (.t 39)]),
    .r (some 11) (.mv (.t 40))] [0, 1, 7, 8, 9, 11]) <|
  .reg false [.r (some 41) (.mv (.t 8)),
    .r (some 42) (.mv (.t 11)),
    .e (some 43) (.bs 3 1 #[(.int .i64 0)] [(0, 1, (.t 42))]),
    .e (some 44) (.ap 3 1 8 #[(.int .i64 0)] (.t 41) (.t 43)),
    .r (some 8) (.mv (.t 44))] [0, 1, 7, 8, 9])) <|
  .reg false [.r (some 30) (.mv (.t 9)),
    .r (some 31) (.bi .add (.t 30) (.c (.int .i64 1))),
    .r (some 9) (.mv (.t 31))] [0, 1, 7, 8, 9]
def ir35 : IR := .seq (.reg false [.r (some 4) (.mv (.c (.slice none 0 0))),
    .r (some 5) (.mv (.c (.int .i64 0)))] [0, 1]) <|
  .seq (.reg false [.r (some 12) (.mv (.t 0)),
    .r (some 13) (.mv (.t 1)),
    .e (some 14) (.call 57 [(.t 12), (.t 13)]),
    .r (some 6) (.mv (.t 14))] [0, 1, 6]) <|
  .seq (.seq (.reg false [.r (some 15) (.mv (.t 6)),
    .r (some 16) (.no (.t 15))] [0, 1, 16]) <|
  .cond (.t 16) (.seq (.reg false [.r (some 4) (.mv (.c (.slice none 0 0))),
    .r (some 5) (.mv (.c (.int .i64 212)))] [4, 5]) <|
  .ret) (.skip)) <|
  .seq (.reg false [.r (some 17) (.mv (.t 0)),
    .r (some 18) (.nn (.t 17)),
    .r (some 19) (.fa 4 (.t 18)),
    .r (some 20) (.l1 (.t 19)),
    .r (some 21) (.bi .add (.t 20) (.c (.int .i64 1))),
    .r (some 22) (.nn (.t 17)),
    .r (some 23) (.fa 4 (.t 22)),
    .e none (.st 1 (.t 23) (.t 21))] [0, 1]) <|
  .seq (.reg false [.r (some 24) (.mv (.t 0)),
    .e (some 25) (.call 59 [(.t 24), (.c (.int .i64 0))]),
    .r (some 7) (.mv (.t 25))] [0, 1, 7]) <|
  .seq (.reg false [.r (some 8) (.mv (.c (.slice none 0 0)))] [0, 1, 7, 8]) <|
  .seq (.seq (.reg false [.r (some 9) (.mv (.c (.int .i64 0)))] [0, 1, 7, 8, 9]) <|
  .block 0 (.loop ir35L1)) <|
  .seq (.reg false [.r (some 45) (.mv (.t 0)),
    .r (some 46) (.mv (.t 0)),
    .r (some 47) (.mv (.t 7)),
    .e (some 48) (.call 62 [(.t 46), (.t 47)]),
    .r (some 49) (.nn (.t 45)),
    .r (some 50) (.fa 2 (.t 49)),
    .e none (.st 1 (.t 50) (.t 48))] [0, 8]) <|
  .seq (.reg false [.r (some 51) (.mv (.t 0)),
    .r (some 52) (.mv (.t 0)),
    .r (some 53) (.nn (.t 52)),
    .r (some 54) (.fa 2 (.t 53)),
    .r (some 55) (.l1 (.t 54)),
    .r (some 56) (.len (.t 55)),
    .r (some 57) (.nn (.t 51)),
    .r (some 58) (.fa 3 (.t 57)),
    .e none (.st 1 (.t 58) (.t 56))] [8]) <|
  .seq (.reg false [.r (some 59) (.mv (.t 8)),
    .r (some 4) (.mv (.t 59)),
    .r (some 5) (.mv (.c (.int .i64 0)))] [4, 5]) <|
  .ret
theorem fit35 : Fits Try.prog 35 2 [(0, [0, 1], []), (1, [0, 1, 6], []), (2, [0, 1, 16], []), (3, [4, 5], []), (4, [0, 1], []), (5, [0, 1, 7], []), (6, [0, 1, 7, 8], []), (7, [0, 1, 7, 8, 9], []), (8, [0, 1, 7, 8, 9, 29], []), (9, [0, 1, 7, 8, 9], []), (10, [0, 1, 7, 8, 9, 10], []), (11, [0, 1, 7, 8, 9, 11], []), (12, [0, 1, 7, 8, 9], []), (13, [0, 8], []), (14, [8], []), (15, [4, 5], [])] ir35 [.t 4, .t 5] 60 :=
  ⟨Try.f35, _, rfl, rfl, rfl, by decide, by kernel_rfl, by kernel_rfl⟩

/- 36 (*sloth/slothref21.Arena).Room (3) -/
def ir36 : IR := .seq (.reg false [.r (some 6) (.mv (.c (.slice none 0 0))),
    .r (some 7) (.mv (.c (.int .i64 0)))] [0, 1, 2]) <|
  .seq (.reg false [.r (some 12) (.mv (.t 0)),
    .r (some 13) (.mv (.t 2)),
    .e (some 14) (.call 57 [(.t 12), (.t 13)]),
    .r (some 8) (.mv (.t 14))] [0, 1, 2, 8]) <|
  .seq (.seq (.reg false [.r (some 15) (.mv (.t 1)),
    .r (some 16) (.bi .lss (.t 15) (.c (.int .i64 0)))] [0, 1, 2, 8, 16]) <|
  .cond (.t 16) (.seq (.reg false [.r (some 6) (.mv (.c (.slice none 0 0))),
    .r (some 7) (.mv (.c (.int .i64 1)))] [6, 7]) <|
  .ret) (.skip)) <|
  .seq (.seq (.reg false [.r (some 17) (.mv (.t 8)),
    .r (some 18) (.no (.t 17))] [0, 1, 2, 18]) <|
  .cond (.t 18) (.seq (.reg false [.r (some 6) (.mv (.c (.slice none 0 0))),
    .r (some 7) (.mv (.c (.int .i64 212)))] [6, 7]) <|
  .ret) (.skip)) <|
  .seq (.seq (.reg true [.r (some 19) (.mv (.t 1)),
    .r (some 20) (.mv (.t 0)),
    .r (some 21) (.nn (.t 20)),
    .r (some 22) (.fa 1 (.t 21)),
    .r (some 23) (.l1 (.t 22)),
    .r (some 24) (.mv (.t 0)),
    .r (some 25) (.nn (.t 24)),
    .r (some 26) (.fa 2 (.t 25)),
    .r (some 27) (.l1 (.t 26)),
    .r (some 28) (.len (.t 27)),
    .r (some 29) (.mv (.t 0)),
    .r (some 30) (.nn (.t 29)),
    .r (some 31) (.fa 3 (.t 30)),
    .r (some 32) (.l1 (.t 31)),
    .r (some 33) (.bi .sub (.t 28) (.t 32)),
    .r (some 34) (.bi .sub (.t 23) (.t 33)),
    .r (some 35) (.bi .leq (.t 19) (.t 34)),
    .r (some 36) (.mv (.t 35)),
    .gr 36 true (some 37) (.mv (.t 1)),
    .gr 36 true (some 38) (.mv (.t 0)),
    .gr 36 true (some 39) (.nn (.t 38)),
    .gr 36 true (some 40) (.fa 0 (.t 39)),
    .gr 36 true (some 41) (.l1 (.t 40)),
    .gr 36 true (some 42) (.mv (.t 0)),
    .gr 36 true (some 43) (.nn (.t 42)),
    .gr 36 true (some 44) (.fa 2 (.t 43)),
    .gr 36 true (some 45) (.l1 (.t 44)),
    .gr 36 true (some 46) (.len (.t 45)),
    .gr 36 true (some 47) (.bi .sub (.t 41) (.t 46)),
    .gr 36 true (some 48) (.bi .leq (.t 37) (.t 47)),
    .r (some 49) (.pk (.t 36) (.t 48) (.c (.bool false)))] [0, 1, 2, 49]) <|
  .cond (.t 49) (.seq (.reg false [.r (some 50) (.mv (.t 2)),
    .e (some 51) (.call 58 [(.t 50)]),
    .r (some 6) (.mv (.t 51)),
    .r (some 7) (.mv (.c (.int .i64 0)))] [6, 7]) <|
  .ret) (.skip)) <|
  .seq (.reg false [.r (some 52) (.mv (.t 0)),
    .r (some 53) (.mv (.t 2)),
    .e (some 54) (.call 63 [(.t 52), (.t 53)]),
    .r (some 9) (.mv (.t 54))] [0, 1, 9]) <|
  .seq (.seq (.reg true [.r (some 55) (.mv (.t 1)),
    .r (some 56) (.mv (.t 0)),
    .r (some 57) (.nn (.t 56)),
    .r (some 58) (.fa 0 (.t 57)),
    .r (some 59) (.l1 (.t 58)),
    .r (some 60) (.mv (.t 0)),
    .r (some 61) (.nn (.t 60)),
    .r (some 62) (.fa 2 (.t 61)),
    .r (some 63) (.l1 (.t 62)),
    .r (some 64) (.len (.t 63)),
    .r (some 65) (.bi .sub (.t 59) (.t 64)),
    .r (some 66) (.bi .gtr (.t 55) (.t 65))] [0, 1, 9, 66]) <|
  .cond (.t 66) (.seq (.reg false [.r (some 68) (.mv (.t 0)),
    .r (some 69) (.mv (.t 9)),
    .e (some 70) (.call 35 [(.t 68), (.t 69)]),
    .r (some 67) (.mv (.t 70)),
    .r (some 71) (.ex 0 (.t 67)),
    .r (some 72) (.ex 1 (.t 67)),
    .r (some 10) (.mv (.t 71)),
    .r (some 11) (.mv (.t 72))] [0, 1, 10]) <|
  .reg false [.r (some 73) (.mv (.t 10)),
    .r (some 9) (.mv (.t 73))] [0, 1, 9]) (.skip)) <|
  .seq (.seq (.reg true [.r (some 74) (.mv (.t 1)),
    .r (some 75) (.mv (.t 0)),
    .r (some 76) (.nn (.t 75)),
    .r (some 77) (.fa 0 (.t 76)),
    .r (some 78) (.l1 (.t 77)),
    .r (some 79) (.mv (.t 0)),
    .r (some 80) (.nn (.t 79)),
    .r (some 81) (.fa 2 (.t 80)),
    .r (some 82) (.l1 (.t 81)),
    .r (some 83) (.len (.t 82)),
    .r (some 84) (.bi .sub (.t 78) (.t 83)),
    .r (some 85) (.bi .gtr (.t 74) (.t 84))] [9, 85]) <|
  .cond (.t 85) (.seq (.reg false [.r (some 6) (.mv (.c (.slice none 0 0))),
    .r (some 7) (.mv (.c (.int .i64 211)))] [6, 7]) <|
  .ret) (.skip)) <|
  .seq (.reg false [.r (some 86) (.mv (.t 9)),
    .r (some 6) (.mv (.t 86)),
    .r (some 7) (.mv (.c (.int .i64 0)))] [6, 7]) <|
  .ret
theorem fit36 : Fits Try.prog 36 3 [(0, [0, 1, 2], []), (1, [0, 1, 2, 8], []), (2, [0, 1, 2, 8, 16], []), (3, [6, 7], []), (4, [0, 1, 2, 18], []), (5, [6, 7], []), (6, [0, 1, 2, 49], [0, 0, 2, 6, 14, 0, 32, 96, 224, 480, 0, 1024, 3072, 7168, 16352, 32766, 65535, 131071, 262143, 262143, 786431, 1835007, 3932159, 262143, 8650751, 25427967, 58982399, 126091263, 268173311, 536870911, 1073741823]), (7, [6, 7], []), (8, [0, 1, 9], []), (9, [0, 1, 9, 66], [0, 0, 2, 6, 14, 0, 32, 96, 224, 480, 1022, 2047]), (10, [0, 1, 10], []), (11, [0, 1, 9], []), (12, [9, 85], [0, 0, 2, 6, 14, 0, 32, 96, 224, 480, 1022, 2047]), (13, [6, 7], []), (14, [6, 7], [])] ir36 [.t 6, .t 7] 87 :=
  ⟨Try.f36, _, rfl, rfl, rfl, by decide, by kernel_rfl, by kernel_rfl⟩

/- 37 sloth/slothlaw21.sameInts (2) -/
def ir37L1 : IR := .seq (.seq (.reg false [.r (some 11) (.mv (.t 5)),
    .r (some 12) (.mv (.t 0)),
    .r (some 13) (.len (.t 12)),
    .r (some 14) (.bi .lss (.t 11) (.t 13))] [0, 1, 5, 14]) <|
  .cond (.t 14) (.skip) ((.exit 0))) <|
  .seq (.block 1 (.seq (.reg true [.r (some 17) (.mv (.t 0)),
    .r (some 18) (.mv (.t 5)),
    .r (some 19) (.ia 1 (.t 17) (.t 18)),
    .r (some 20) (.l1 (.t 19)),
    .r (some 21) (.mv (.t 1)),
    .r (some 22) (.mv (.t 5)),
    .r (some 23) (.ia 1 (.t 21) (.t 22)),
    .r (some 24) (.l1 (.t 23)),
    .r (some 25) (.bi .neq (.t 20) (.t 24))] [0, 1, 5, 25]) <|
  .cond (.t 25) (.seq (.reg false [.r (some 4) (.mv (.c (.bool false)))] [4]) <|
  .ret) (.skip))) <|
  .reg false [.r (some 15) (.mv (.t 5)),
    .r (some 16) (.bi .add (.t 15) (.c (.int .i64 1))),
    .r (some 5) (.mv (.t 16))] [0, 1, 5]
def ir37 : IR := .seq (.reg false [.r (some 4) (.mv (.c (.bool false)))] [0, 1]) <|
  .seq (.seq (.reg false [.r (some 6) (.mv (.t 0)),
    .r (some 7) (.len (.t 6)),
    .r (some 8) (.mv (.t 1)),
    .r (some 9) (.len (.t 8)),
    .r (some 10) (.bi .neq (.t 7) (.t 9))] [0, 1, 10]) <|
  .cond (.t 10) (.seq (.reg false [.r (some 4) (.mv (.c (.bool false)))] [4]) <|
  .ret) (.skip)) <|
  .seq (.seq (.reg false [.r (some 5) (.mv (.c (.int .i64 0)))] [0, 1, 5]) <|
  .block 0 (.loop ir37L1)) <|
  .seq (.reg false [.r (some 4) (.mv (.c (.bool true)))] [4]) <|
  .ret
theorem fit37 : Fits Try.prog 37 2 [(0, [0, 1], []), (1, [0, 1, 10], []), (2, [4], []), (3, [0, 1, 5], []), (4, [0, 1, 5, 14], []), (5, [0, 1, 5], []), (6, [0, 1, 5, 25], [0, 0, 3, 7, 0, 0, 48, 112, 255]), (7, [4], []), (8, [4], [])] ir37 [.t 4] 26 :=
  ⟨Try.f37, _, rfl, rfl, rfl, by decide, by kernel_rfl, by kernel_rfl⟩

/- 38 sloth/slothlaw21.sameNode (2) -/
def ir38 : IR := .seq (.reg false [.e (some 2) (.bx 38 (.t 0)),
    .e (some 3) (.bx 38 (.t 1)),
    .r (some 4) (.mv (.c (.bool false)))] [2, 3]) <|
  .seq (.reg false [.r (some 6) (.fa 2 (.t 2)),
    .r (some 7) (.l1 (.t 6)),
    .r (some 8) (.fa 2 (.t 3)),
    .r (some 9) (.l1 (.t 8)),
    .e (some 10) (.call 37 [(.t 7), (.t 9)]),
    .r (some 5) (.mv (.t 10))] [2, 3, 5]) <|
  .seq (.reg false [.r (some 11) (.mv (.t 5)),
    .r (some 12) (.mv (.t 11)),
    .gr 12 true (some 13) (.fa 0 (.t 2)),
    .gr 12 true (some 14) (.l1 (.t 13)),
    .gr 12 true (some 15) (.fa 0 (.t 3)),
    .gr 12 true (some 16) (.l1 (.t 15)),
    .gr 12 true (some 17) (.bi .eql (.t 14) (.t 16)),
    .r (some 18) (.pk (.t 12) (.t 17) (.c (.bool false))),
    .r (some 19) (.mv (.t 18)),
    .gr 19 true (some 20) (.fa 1 (.t 2)),
    .gr 19 true (some 21) (.l1 (.t 20)),
    .gr 19 true (some 22) (.fa 1 (.t 3)),
    .gr 19 true (some 23) (.l1 (.t 22)),
    .gr 19 true (some 24) (.bi .eql (.t 21) (.t 23)),
    .r (some 25) (.pk (.t 19) (.t 24) (.c (.bool false))),
    .r (some 4) (.mv (.t 25))] [4]) <|
  .ret
theorem fit38 : Fits Try.prog 38 2 [(0, [2, 3], []), (1, [2, 3, 5], []), (2, [4], [])] ir38 [.t 4] 26 :=
  ⟨Try.f38, _, rfl, rfl, rfl, by decide, by kernel_rfl, by kernel_rfl⟩

/- 39 (*sloth/slothlaw21.Book).keep (2) -/
def ir39L1 : IR := .seq (.seq (.reg false [.r (some 13) (.mv (.t 5)),
    .r (some 14) (.mv (.t 1)),
    .r (some 15) (.len (.t 14)),
    .r (some 16) (.bi .lss (.t 13) (.t 15))] [0, 1, 4, 5, 16]) <|
  .cond (.t 16) (.skip) ((.exit 0))) <|
  .seq (.block 1 (.reg false [.r (some 19) (.mv (.t 1)),
    .r (some 20) (.mv (.t 5)),
    .r (some 21) (.mv (.t 4)),
    .r (some 22) (.ia 1 (.t 19) (.t 20)),
    .e none (.st 1 (.t 22) (.t 21))] [0, 1, 4, 5])) <|
  .reg false [.r (some 17) (.mv (.t 5)),
    .r (some 18) (.bi .add (.t 17) (.c (.int .i64 1))),
    .r (some 5) (.mv (.t 18))] [0, 1, 4, 5]
def ir39L2 : IR := .seq (.seq (.reg false [.r (some 23) (.mv (.t 6)),
    .r (some 24) (.bi .lss (.t 23) (.c (.int .i64 5)))] [0, 1, 4, 6, 24]) <|
  .cond (.t 24) (.skip) ((.exit 2))) <|
  .seq (.block 3 (.reg false [.r (some 27) (.mv (.t 1)),
    .r (some 28) (.mv (.t 4)),
    .e (some 29) (.bs 3 1 #[(.int .i64 0)] [(0, 1, (.t 28))]),
    .e (some 30) (.ap 3 1 8 #[(.int .i64 0)] (.t 27) (.t 29)),
    .r (some 1) (.mv (.t 30))] [0, 1, 4, 6])) <|
  .reg false [.r (some 25) (.mv (.t 6)),
    .r (some 26) (.bi .add (.t 25) (.c (.int .i64 1))),
    .r (some 6) (.mv (.t 26))] [0, 1, 4, 6]
def ir39 : IR := .seq (.reg false [.r (some 7) (.mv (.t 0)),
    .r (some 8) (.nn (.t 7)),
    .r (some 9) (.fa 0 (.t 8)),
    .r (some 10) (.l1 (.t 9)),
    .r (some 11) (.len (.t 10)),
    .r (some 12) (.bi .sub (.c (.int .i64 (-100))) (.t 11)),
    .r (some 4) (.mv (.t 12))] [0, 1, 4]) <|
  .seq (.seq (.reg false [.r (some 5) (.mv (.c (.int .i64 0)))] [0, 1, 4, 5]) <|
  .block 0 (.loop ir39L1)) <|
  .seq (.seq (.reg false [.r (some 6) (.mv (.c (.int .i64 0)))] [0, 1, 4, 6]) <|
  .block 2 (.loop ir39L2)) <|
  .seq (.reg false [.r (some 31) (.mv (.t 0)),
    .r (some 32) (.mv (.t 0)),
    .r (some 33) (.nn (.t 32)),
    .r (some 34) (.fa 0 (.t 33)),
    .r (some 35) (.l1 (.t 34)),
    .r (some 36) (.mv (.t 1)),
    .e (some 37) (.bs 33 1 #[(.slice none 0 0)] [(0, 1, (.t 36))]),
    .e (some 38) (.ap 33 1 24 #[(.slice none 0 0)] (.t 35) (.t 37)),
    .r (some 39) (.nn (.t 31)),
    .r (some 40) (.fa 0 (.t 39)),
    .e none (.st 1 (.t 40) (.t 38))] [0, 4]) <|
  .reg false [.r (some 41) (.mv (.t 0)),
    .r (some 42) (.mv (.t 0)),
    .r (some 43) (.nn (.t 42)),
    .r (some 44) (.fa 1 (.t 43)),
    .r (some 45) (.l1 (.t 44)),
    .r (some 46) (.mv (.t 4)),
    .e (some 47) (.bs 3 1 #[(.int .i64 0)] [(0, 1, (.t 46))]),
    .e (some 48) (.ap 3 1 8 #[(.int .i64 0)] (.t 45) (.t 47)),
    .r (some 49) (.nn (.t 41)),
    .r (some 50) (.fa 1 (.t 49)),
    .e none (.st 1 (.t 50) (.t 48))] []
theorem fit39 : Fits Try.prog 39 2 [(0, [0, 1, 4], []), (1, [0, 1, 4, 5], []), (2, [0, 1, 4, 5, 16], []), (3, [0, 1, 4, 5], []), (4, [0, 1, 4, 5], []), (5, [0, 1, 4, 6], []), (6, [0, 1, 4, 6, 24], []), (7, [0, 1, 4, 6], []), (8, [0, 1, 4, 6], []), (9, [0, 4], []), (10, [], [])] ir39 [] 51 :=
  ⟨Try.f39, _, rfl, rfl, rfl, by decide, by kernel_rfl, by kernel_rfl⟩

/- 40 sloth/gens.may (1) -/
def ir40 : IR := .seq (.reg false [.e (some 1) (.bx 38 (.t 0)),
    .r (some 2) (.mv (.c (.bool false)))] [1]) <|
  .seq (.reg false [.r (some 3) (.mv (.c (.int .i64 0)))] [1, 3]) <|
  .seq (.seq (.reg false [.r (some 4) (.fa 0 (.t 1)),
    .r (some 5) (.l1 (.t 4))] [1, 3, 5]) <|
  .block 0 (.seq (.reg false [.r (some 7) (.bi .eql (.t 5) (.c (.int .i64 1))),
    .r (some 6) (.mv (.t 7))] [1, 3, 5, 6]) <|
  .cond (.t 6) (.seq (.seq (.reg false [.r (some 8) (.fa 1 (.t 1)),
    .r (some 9) (.l1 (.t 8)),
    .r (some 10) (.bi .lss (.t 9) (.c (.int .i64 (-4611686018427387904)))),
    .r (some 11) (.mv (.t 10)),
    .gr 11 false (some 12) (.fa 1 (.t 1)),
    .gr 11 false (some 13) (.l1 (.t 12)),
    .gr 11 false (some 14) (.bi .gtr (.t 13) (.c (.int .i64 4611686018427387903))),
    .r (some 15) (.pk (.t 11) (.c (.bool true)) (.t 14))] [1, 15]) <|
  .cond (.t 15) (.seq (.reg false [.r (some 2) (.mv (.c (.bool false)))] [2]) <|
  .ret) (.skip)) <|
  .seq (.reg false [.r (some 16) (.fa 2 (.t 1)),
    .r (some 17) (.l1 (.t 16)),
    .r (some 18) (.len (.t 17)),
    .r (some 19) (.bi .eql (.t 18) (.c (.int .i64 0))),
    .r (some 2) (.mv (.t 19))] [2]) <|
  .ret) (.seq (.reg false [.r (some 21) (.bi .eql (.t 5) (.c (.int .i64 2))),
    .r (some 20) (.mv (.t 21))] [1, 3, 5, 20]) <|
  .cond (.t 20) (.seq (.reg false [.r (some 22) (.fa 1 (.t 1)),
    .r (some 23) (.l1 (.t 22)),
    .r (some 24) (.bi .geq (.t 23) (.c (.int .i64 0))),
    .r (some 25) (.mv (.t 24)),
    .gr 25 true (some 26) (.fa 2 (.t 1)),
    .gr 25 true (some 27) (.l1 (.t 26)),
    .gr 25 true (some 28) (.len (.t 27)),
    .gr 25 true (some 29) (.bi .leq (.t 28) (.c (.int .i64 8))),
    .r (some 30) (.pk (.t 25) (.t 29) (.c (.bool false))),
    .r (some 2) (.mv (.t 30))] [2]) <|
  .ret) (.seq (.seq (.reg false [.r (some 32) (.bi .eql (.t 5) (.c (.int .i64 4))),
    .r (some 31) (.mv (.t 32))] [1, 3, 5, 31]) <|
  .cond (.t 31) (.skip) (.reg false [.r (some 33) (.bi .eql (.t 5) (.c (.int .i64 8))),
    .r (some 31) (.mv (.t 33))] [1, 3, 5, 31])) <|
  .cond (.t 31) (.seq (.reg false [.r (some 34) (.fa 1 (.t 1)),
    .r (some 35) (.l1 (.t 34)),
    .r (some 36) (.bi .geq (.t 35) (.c (.int .i64 0))),
    .r (some 37) (.mv (.t 36)),
    .gr 37 true (some 38) (.fa 2 (.t 1)),
    .gr 37 true (some 39) (.l1 (.t 38)),
    .gr 37 true (some 40) (.len (.t 39)),
    .gr 37 true (some 41) (.bi .eql (.t 40) (.c (.int .i64 0))),
    .r (some 42) (.pk (.t 37) (.t 41) (.c (.bool false))),
    .r (some 2) (.mv (.t 42))] [2]) <|
  .ret) (.seq (.reg false [.r (some 44) (.bi .eql (.t 5) (.c (.int .i64 3))),
    .r (some 43) (.mv (.t 44))] [1, 3, 5, 43]) <|
  .cond (.t 43) (.reg false [.r (some 3) (.mv (.c (.int .i64 2)))] [1, 3]) (.seq (.reg false [.r (some 46) (.bi .eql (.t 5) (.c (.int .i64 5))),
    .r (some 45) (.mv (.t 46))] [1, 3, 5, 45]) <|
  .cond (.t 45) (.reg false [.r (some 3) (.mv (.c (.int .i64 1)))] [1, 3]) (.seq (.seq (.reg false [.r (some 48) (.bi .eql (.t 5) (.c (.int .i64 6))),
    .r (some 47) (.mv (.t 48))] [1, 3, 5, 47]) <|
  .cond (.t 47) (.skip) (.reg false [.r (some 49) (.bi .eql (.t 5) (.c (.int .i64 7))),
    .r (some 47) (.mv (.t 49))] [1, 3, 47])) <|
  .cond (.t 47) (.skip) (.seq (.reg false [.r (some 2) (.mv (.c (.bool false)))] [2]) <|
  .ret)))))))) <|
  .seq (.reg false [.r (some 50) (.fa 1 (.t 1)),
    .r (some 51) (.l1 (.t 50)),
    .r (some 52) (.bi .eql (.t 51) (.c (.int .i64 0))),
    .r (some 53) (.mv (.t 52)),
    .gr 53 true (some 54) (.fa 2 (.t 1)),
    .gr 53 true (some 55) (.l1 (.t 54)),
    .gr 53 true (some 56) (.len (.t 55)),
    .gr 53 true (some 57) (.mv (.t 3)),
    .gr 53 true (some 58) (.bi .eql (.t 56) (.t 57)),
    .r (some 59) (.pk (.t 53) (.t 58) (.c (.bool false))),
    .r (some 2) (.mv (.t 59))] [2]) <|
  .ret
theorem fit40 : Fits Try.prog 40 1 [(0, [1], []), (1, [1, 3], []), (2, [1, 3, 5], []), (3, [2], []), (4, [1, 3, 5, 6], []), (5, [1, 15], []), (6, [2], []), (7, [2], []), (8, [1, 3, 5, 20], []), (9, [2], []), (10, [1, 3, 5, 31], []), (11, [1, 3, 5, 31], []), (12, [2], []), (13, [1, 3, 5, 43], []), (14, [1, 3], []), (15, [1, 3, 5, 45], []), (16, [1, 3], []), (17, [1, 3, 5, 47], []), (18, [1, 3, 47], []), (19, [2], [])] ir40 [.t 2] 60 :=
  ⟨Try.f40, _, rfl, rfl, rfl, by decide, by kernel_rfl, by kernel_rfl⟩

/- 41 (*sloth/gens.Arena).places (2) -/
def ir41 : IR := .seq (.reg false [.e (some 2) (.bx 24 (.t 0)),
    .r (some 4) (.mv (.c (.bool false)))] [1, 2]) <|
  .seq (.reg false [.r (some 5) (.mv (.t 1)),
    .r (some 6) (.mf (.func 64) [] [(.t 2)]),
    .e (some 7) (.call 48 [(.t 5), (.t 6)]),
    .r (some 8) (.no (.t 7)),
    .r (some 4) (.mv (.t 8))] [4]) <|
  .ret
theorem fit41 : Fits Try.prog 41 2 [(0, [1, 2], []), (1, [4], [])] ir41 [.t 4] 9 :=
  ⟨Try.f41, _, rfl, rfl, rfl, by decide, by kernel_rfl, by kernel_rfl⟩

/- 42 slices.Clone[[]int,int] (1) -/
def ir42 : IR := .seq (.reg false [.r (some 2) (.mv (.c (.slice none 0 0)))] [0]) <|
  .seq (.seq (.reg false [.r (some 3) (.mv (.t 0)),
    .r (some 4) (.eq .slice false (.t 3) (.c (.slice none 0 0)))] [0, 4]) <|
  .cond (.t 4) (.seq (.reg false [.r (some 2) (.mv (.c (.slice none 0 0)))] [2]) <|
  .ret) (.skip)) <|
  .seq (.reg false [.e (some 5) (.raw ⟨(some 5), (.buildSlice 33 0 #[]), 33, "slices.go:362", #[], none⟩),
    .r (some 6) (.mv (.t 0)),
    .e (some 7) (.ap 3 1 8 #[(.int .i64 0)] (.t 5) (.t 6)),
    .r (some 2) (.mv (.t 7))] [2]) <|
  .ret
theorem fit42 : Fits Try.prog 42 1 [(0, [0], []), (1, [0, 4], []), (2, [2], []), (3, [2], [])] ir42 [.t 2] 8 :=
  ⟨Try.f42, _, rfl, rfl, rfl, by decide, by kernel_rfl, by kernel_rfl⟩

/- 43 sloth/heap.may (1) -/
def ir43 : IR := .seq (.reg false [.e (some 1) (.bx 38 (.t 0)),
    .r (some 2) (.mv (.c (.bool false)))] [1]) <|
  .seq (.reg false [.r (some 4) (.fa 2 (.t 1)),
    .r (some 5) (.l1 (.t 4)),
    .r (some 6) (.len (.t 5)),
    .r (some 3) (.mv (.t 6))] [1, 3]) <|
  .seq (.seq (.reg false [.r (some 7) (.fa 0 (.t 1)),
    .r (some 8) (.l1 (.t 7))] [1, 3, 8]) <|
  .block 0 (.seq (.reg false [.r (some 10) (.bi .eql (.t 8) (.c (.int .i64 1))),
    .r (some 9) (.mv (.t 10))] [1, 3, 8, 9]) <|
  .cond (.t 9) (.seq (.reg false [.r (some 11) (.mv (.t 3)),
    .r (some 12) (.bi .eql (.t 11) (.c (.int .i64 0))),
    .r (some 13) (.mv (.t 12)),
    .gr 13 true (some 14) (.fa 1 (.t 1)),
    .gr 13 true (some 15) (.l1 (.t 14)),
    .gr 13 true (some 16) (.bi .geq (.t 15) (.c (.int .i64 (-4611686018427387904)))),
    .r (some 17) (.pk (.t 13) (.t 16) (.c (.bool false))),
    .r (some 18) (.mv (.t 17)),
    .gr 18 true (some 19) (.fa 1 (.t 1)),
    .gr 18 true (some 20) (.l1 (.t 19)),
    .gr 18 true (some 21) (.bi .leq (.t 20) (.c (.int .i64 4611686018427387903))),
    .r (some 22) (.pk (.t 18) (.t 21) (.c (.bool false))),
    .r (some 2) (.mv (.t 22))] [2]) <|
  .ret) (.seq (.reg false [.r (some 24) (.bi .eql (.t 8) (.c (.int .i64 2))),
    .r (some 23) (.mv (.t 24))] [1, 3, 8, 23]) <|
  .cond (.t 23) (.seq (.reg false [.r (some 25) (.mv (.t 3)),
    .r (some 26) (.bi .leq (.t 25) (.c (.int .i64 8))),
    .r (some 27) (.mv (.t 26)),
    .gr 27 true (some 28) (.fa 1 (.t 1)),
    .gr 27 true (some 29) (.l1 (.t 28)),
    .gr 27 true (some 30) (.bi .geq (.t 29) (.c (.int .i64 0))),
    .r (some 31) (.pk (.t 27) (.t 30) (.c (.bool false))),
    .r (some 2) (.mv (.t 31))] [2]) <|
  .ret) (.seq (.reg false [.r (some 33) (.bi .eql (.t 8) (.c (.int .i64 3))),
    .r (some 32) (.mv (.t 33))] [1, 3, 8, 32]) <|
  .cond (.t 32) (.seq (.reg false [.r (some 34) (.mv (.t 3)),
    .r (some 35) (.bi .eql (.t 34) (.c (.int .i64 2))),
    .r (some 36) (.mv (.t 35)),
    .gr 36 true (some 37) (.fa 1 (.t 1)),
    .gr 36 true (some 38) (.l1 (.t 37)),
    .gr 36 true (some 39) (.bi .eql (.t 38) (.c (.int .i64 0))),
    .r (some 40) (.pk (.t 36) (.t 39) (.c (.bool false))),
    .r (some 2) (.mv (.t 40))] [2]) <|
  .ret) (.seq (.seq (.reg false [.r (some 42) (.bi .eql (.t 8) (.c (.int .i64 4))),
    .r (some 41) (.mv (.t 42))] [1, 3, 8, 41]) <|
  .cond (.t 41) (.skip) (.reg false [.r (some 43) (.bi .eql (.t 8) (.c (.int .i64 8))),
    .r (some 41) (.mv (.t 43))] [1, 3, 8, 41])) <|
  .cond (.t 41) (.seq (.reg false [.r (some 44) (.mv (.t 3)),
    .r (some 45) (.bi .eql (.t 44) (.c (.int .i64 0))),
    .r (some 46) (.mv (.t 45)),
    .gr 46 true (some 47) (.fa 1 (.t 1)),
    .gr 46 true (some 48) (.l1 (.t 47)),
    .gr 46 true (some 49) (.bi .geq (.t 48) (.c (.int .i64 0))),
    .r (some 50) (.pk (.t 46) (.t 49) (.c (.bool false))),
    .r (some 2) (.mv (.t 50))] [2]) <|
  .ret) (.seq (.reg false [.r (some 52) (.bi .eql (.t 8) (.c (.int .i64 5))),
    .r (some 51) (.mv (.t 52))] [1, 3, 8, 51]) <|
  .cond (.t 51) (.seq (.reg false [.r (some 53) (.mv (.t 3)),
    .r (some 54) (.bi .eql (.t 53) (.c (.int .i64 1))),
    .r (some 55) (.mv (.t 54)),
    .gr 55 true (some 56) (.fa 1 (.t 1)),
    .gr 55 true (some 57) (.l1 (.t 56)),
    .gr 55 true (some 58) (.bi .eql (.t 57) (.c (.int .i64 0))),
    .r (some 59) (.pk (.t 55) (.t 58) (.c (.bool false))),
    .r (some 2) (.mv (.t 59))] [2]) <|
  .ret) (.seq (.seq (.reg false [.r (some 61) (.bi .eql (.t 8) (.c (.int .i64 6))),
    .r (some 60) (.mv (.t 61))] [1, 3, 8, 60]) <|
  .cond (.t 60) (.skip) (.reg false [.r (some 62) (.bi .eql (.t 8) (.c (.int .i64 7))),
    .r (some 60) (.mv (.t 62))] [1, 3, 60])) <|
  .cond (.t 60) (.seq (.reg false [.r (some 63) (.mv (.t 3)),
    .r (some 64) (.bi .eql (.t 63) (.c (.int .i64 0))),
    .r (some 65) (.mv (.t 64)),
    .gr 65 true (some 66) (.fa 1 (.t 1)),
    .gr 65 true (some 67) (.l1 (.t 66)),
    .gr 65 true (some 68) (.bi .eql (.t 67) (.c (.int .i64 0))),
    .r (some 69) (.pk (.t 65) (.t 68) (.c (.bool false))),
    .r (some 2) (.mv (.t 69))] [2]) <|
  .ret) (.skip)))))))) <|
  .seq (.reg false [.r (some 2) (.mv (.c (.bool false)))] [2]) <|
  .ret
theorem fit43 : Fits Try.prog 43 1 [(0, [1], []), (1, [1, 3], []), (2, [1, 3, 8], []), (3, [1, 3, 8, 9], []), (4, [2], []), (5, [1, 3, 8, 23], []), (6, [2], []), (7, [1, 3, 8, 32], []), (8, [2], []), (9, [1, 3, 8, 41], []), (10, [1, 3, 8, 41], []), (11, [2], []), (12, [1, 3, 8, 51], []), (13, [2], []), (14, [1, 3, 8, 60], []), (15, [1, 3, 60], []), (16, [2], []), (17, [2], [])] ir43 [.t 2] 70 :=
  ⟨Try.f43, _, rfl, rfl, rfl, by decide, by kernel_rfl, by kernel_rfl⟩

/- 44 (*sloth/heap.Arena).places (2) -/
def ir44L1 : IR := .seq (.reg false [.r (some 10) (.bi .lss (.t 9) (.t 8))] [0, 7, 8, 9, 10]) <|
  .seq (.cond (.t 10) (.skip) ((.exit 0))) <|
  .seq (.block 1 (.seq (.reg false [.r (some 11) (.ia 1 (.t 7) (.t 9)),
    .r (some 12) (.l1 (.t 11)),
    .r (some 6) (.mv (.t 12))] [0, 6, 7, 8, 9]) <|
  .seq (.reg false [.r (some 13) (.mv (.t 6)),
    .r (some 14) (.bi .lss (.t 13) (.c (.int .i64 0))),
    .r (some 15) (.mv (.t 14)),
    .gr 15 false (some 16) (.mv (.t 6)),
    .gr 15 false (some 17) (.mv (.t 0)),
    .gr 15 false (some 18) (.nn (.t 17)),
    .gr 15 false (some 19) (.fa 1 (.t 18)),
    .gr 15 false (some 20) (.l1 (.t 19)),
    .gr 15 false (some 21) (.len (.t 20)),
    .gr 15 false (some 22) (.bi .geq (.t 16) (.t 21)),
    .r (some 23) (.pk (.t 15) (.c (.bool true)) (.t 22))] [0, 7, 8, 9, 23]) <|
  .cond (.t 23) (.seq (.reg false [.r (some 4) (.mv (.c (.bool false)))] [4]) <|
  .ret) (.skip))) <|
  .reg false [.r (some 24) (.bi .add (.t 9) (.c (.int .i64 1))),
    .r (some 9) (.mv (.t 24))] [0, 7, 8, 9]
def ir44 : IR := .seq (.reg false [.r (some 4) (.mv (.c (.bool false)))] [0, 1]) <|
  .seq (.seq (.reg false [.r (some 7) (.mv (.t 1)),
    .r (some 8) (.len (.t 7)),
    .r (some 9) (.mv (.c (.int .i64 0)))] [0, 7, 8, 9]) <|
  .block 0 (.loop ir44L1)) <|
  .seq (.reg false [.r (some 4) (.mv (.c (.bool true)))] [4]) <|
  .ret
theorem fit44 : Fits Try.prog 44 2 [(0, [0, 1], []), (1, [0, 7, 8, 9], []), (2, [0, 7, 8, 9, 10], []), (3, [0, 6, 7, 8, 9], []), (4, [0, 7, 8, 9, 23], []), (5, [4], []), (6, [0, 7, 8, 9], []), (7, [4], [])] ir44 [.t 4] 25 :=
  ⟨Try.f44, _, rfl, rfl, rfl, by decide, by kernel_rfl, by kernel_rfl⟩

/- 45 sloth/heap.cellOf (1) -/
def ir45 : IR := .seq (.reg false [.e (some 1) (.bx 38 (.t 0)),
    .e (some 2) (.al 87 (.agg #[(.int .i64 0), (.int .i64 0), (.slice none 0 0)]))] [1, 2]) <|
  .seq (.dr (.r 0 none (some 3) (.fa 0 (.t 1)) <|
    .r 1 none (some 4) (.l1 (.t 3)) <|
    .r 2 none (some 5) (.fa 1 (.t 1)) <|
    .r 3 none (some 6) (.l1 (.t 5)) <|
    .r 4 none (some 7) (.bd #[(.int .i64 0), (.int .i64 0)] [(0, 1, (.t 4)), (1, 1, (.t 6))]) <|
    .r 5 none (some 8) (.fa 2 (.t 1)) <|
    .r 6 none (some 9) (.l1 (.t 8)) <|
    .e 7 none (some 10) (.call 65 [(.t 9)]) [1, 3] <|
    .r 8 none (some 11) (.bd #[(.int .i64 0), (.int .i64 0), (.slice none 0 0)] [(0, 2, (.t 7)), (2, 1, (.t 10))]) <|
    .e 9 none none (.st 3 (.t 2) (.t 11)) [] <|
    .nil) [2]) <|
  .ret
theorem fit45 : Fits Try.prog 45 1 [(0, [1, 2], []), (1, [2], [0, 1, 0, 4, 15, 0, 32, 96, 255, 511])] ir45 [.n 2 3] 12 :=
  ⟨Try.f45, _, rfl, rfl, rfl, by decide, by kernel_rfl, by kernel_rfl⟩

/- 46 (*sloth/heap.Arena).Get (2) -/
def ir46 : IR := .seq (.reg false [.e (some 4) (.al 38 (.agg #[(.int .i64 0), (.int .i64 0), (.slice none 0 0)])),
    .r (some 5) (.mv (.c (.int .i64 0)))] [0, 1, 4]) <|
  .seq (.seq (.reg false [.r (some 7) (.mv (.t 0)),
    .r (some 8) (.mv (.t 1)),
    .e (some 9) (.bs 3 1 #[(.int .i64 0)] [(0, 1, (.t 8))]),
    .e (some 10) (.call 44 [(.t 7), (.t 9)]),
    .r (some 11) (.no (.t 10))] [0, 1, 4, 11]) <|
  .cond (.t 11) (.seq (.reg false [.r (some 12) (.bd #[(.int .i64 0), (.int .i64 0), (.slice none 0 0)] []),
    .e none (.st 3 (.t 4) (.t 12)),
    .r (some 5) (.mv (.c (.int .i64 202)))] [4, 5]) <|
  .ret) (.skip)) <|
  .seq (.reg false [.r (some 13) (.mv (.t 0)),
    .r (some 14) (.nn (.t 13)),
    .r (some 15) (.fa 1 (.t 14)),
    .r (some 16) (.l1 (.t 15)),
    .r (some 17) (.mv (.t 1)),
    .r (some 18) (.ia 3 (.t 16) (.t 17)),
    .r (some 19) (.ln 3 (.t 18)),
    .e (some 6) (.al 87 (.agg #[(.int .i64 0), (.int .i64 0), (.slice none 0 0)])),
    .e none (.st 3 (.t 6) (.t 19))] [4, 6]) <|
  .seq (.dr (.r 0 none (some 20) (.fa 0 (.t 6)) <|
    .r 1 none (some 21) (.fa 0 (.t 20)) <|
    .r 2 none (some 22) (.l1 (.t 21)) <|
    .r 3 none (some 23) (.fa 0 (.t 6)) <|
    .r 4 none (some 24) (.fa 1 (.t 23)) <|
    .r 5 none (some 25) (.l1 (.t 24)) <|
    .r 6 none (some 26) (.fa 2 (.t 6)) <|
    .r 7 none (some 27) (.l1 (.t 26)) <|
    .e 8 none (some 28) (.call 65 [(.t 27)]) [2, 5] <|
    .r 9 none (some 29) (.bd #[(.int .i64 0), (.int .i64 0), (.slice none 0 0)] [(0, 1, (.t 22)), (1, 1, (.t 25)), (2, 1, (.t 28))]) <|
    .e 10 none none (.st 3 (.t 4) (.t 29)) [] <|
    .r 11 none (some 5) (.mv (.c (.int .i64 0))) <|
    .nil) [4, 5]) <|
  .ret
theorem fit46 : Fits Try.prog 46 2 [(0, [0, 1, 4], []), (1, [0, 1, 4, 11], []), (2, [4, 5], []), (3, [4, 6], []), (4, [4, 5], [0, 1, 3, 0, 8, 24, 0, 64, 192, 511, 1023, 2047])] ir46 [.n 4 3, .t 5] 30 :=
  ⟨Try.f46, _, rfl, rfl, rfl, by decide, by kernel_rfl, by kernel_rfl⟩

/- 47 (*sloth/heap.Arena).Used (1) -/
def ir47 : IR := .seq (.reg false [.r (some 2) (.mv (.c (.int .i64 0)))] [0]) <|
  .seq (.reg false [.r (some 3) (.mv (.t 0)),
    .r (some 4) (.nn (.t 3)),
    .r (some 5) (.fa 1 (.t 4)),
    .r (some 6) (.l1 (.t 5)),
    .r (some 7) (.len (.t 6)),
    .r (some 2) (.mv (.t 7))] [2]) <|
  .ret
theorem fit47 : Fits Try.prog 47 1 [(0, [0], []), (1, [2], [])] ir47 [.t 2] 8 :=
  ⟨Try.f47, _, rfl, rfl, rfl, by decide, by kernel_rfl, by kernel_rfl⟩

/- 48 slices.ContainsFunc[[]int,int] (2) -/
def ir48 : IR := .seq (.reg false [.r (some 4) (.mv (.c (.bool false)))] [0, 1]) <|
  .seq (.reg false [.r (some 5) (.mv (.t 0)),
    .r (some 6) (.mv (.t 1)),
    .e (some 7) (.call 66 [(.t 5), (.t 6)]),
    .r (some 8) (.bi .geq (.t 7) (.c (.int .i64 0))),
    .r (some 4) (.mv (.t 8))] [4]) <|
  .ret
theorem fit48 : Fits Try.prog 48 2 [(0, [0, 1], []), (1, [4], [])] ir48 [.t 4] 9 :=
  ⟨Try.f48, _, rfl, rfl, rfl, by decide, by kernel_rfl, by kernel_rfl⟩

/- 49 (*sloth/gens.Arena).Set$1 (1) -/
def ir49 : IR := .seq (.reg false [.r (some 3) (.mv (.c (.bool false)))] [0, 1]) <|
  .seq (.reg false [.r (some 4) (.mv (.t 0)),
    .r (some 5) (.l1 (.t 1)),
    .r (some 6) (.nn (.t 5)),
    .r (some 7) (.fa 3 (.t 6)),
    .r (some 8) (.l1 (.t 7)),
    .r (some 9) (.bi .geq (.t 4) (.t 8)),
    .r (some 3) (.mv (.t 9))] [3]) <|
  .ret
theorem fit49 : Fits Try.prog 49 2 [(0, [0, 1], []), (1, [3], [])] ir49 [.t 3] 10 :=
  ⟨Try.f49, _, rfl, rfl, rfl, by decide, by kernel_rfl, by kernel_rfl⟩

/- 50 (*sloth/heap.Arena).Collect (2) -/
def ir50L1 : IR := .seq (.reg false [.r (some 42) (.bi .lss (.t 41) (.t 40))] [0, 6, 7, 39, 40, 41, 42]) <|
  .seq (.cond (.t 42) (.skip) ((.exit 0))) <|
  .seq (.block 1 (.seq (.reg false [.r (some 43) (.mv (.t 41)),
    .r (some 44) (.ia 1 (.t 39) (.t 41)),
    .r (some 45) (.l1 (.t 44)),
    .r (some 8) (.mv (.t 43)),
    .r (some 9) (.mv (.t 45))] [0, 6, 7, 8, 9, 39, 40, 41]) <|
  .reg false [.r (some 46) (.mv (.t 7)),
    .r (some 47) (.mv (.t 8)),
    .r (some 48) (.mv (.t 6)),
    .r (some 49) (.mv (.t 9)),
    .e (some 50) (.call 67 [(.t 48), (.t 49)]),
    .r (some 51) (.ia 1 (.t 46) (.t 47)),
    .e none (.st 1 (.t 51) (.t 50))] [0, 6, 7, 39, 40, 41])) <|
  .reg false [.r (some 52) (.bi .add (.t 41) (.c (.int .i64 1))),
    .r (some 41) (.mv (.t 52))] [0, 6, 7, 39, 40, 41]
def ir50L2 : IR := .seq (.reg false [.r (some 72) (.bi .lss (.t 71) (.t 70))] [0, 6, 7, 10, 69, 70, 71, 72]) <|
  .seq (.cond (.t 72) (.skip) ((.exit 4))) <|
  .seq (.block 5 (.seq (.reg false [.r (some 73) (.mv (.t 71)),
    .r (some 74) (.ia 1 (.t 69) (.t 71)),
    .r (some 75) (.l1 (.t 74)),
    .r (some 11) (.mv (.t 73)),
    .r (some 12) (.mv (.t 75))] [0, 6, 7, 10, 11, 12, 69, 70, 71]) <|
  .seq (.reg false [.r (some 76) (.mv (.t 6)),
    .r (some 77) (.mv (.t 12)),
    .e (some 78) (.call 67 [(.t 76), (.t 77)]),
    .r (some 13) (.mv (.t 78))] [0, 6, 7, 10, 11, 13, 69, 70, 71]) <|
  .reg false [.r (some 79) (.mv (.t 6)),
    .r (some 80) (.nn (.t 79)),
    .r (some 81) (.fa 1 (.t 80)),
    .r (some 82) (.l1 (.t 81)),
    .r (some 83) (.mv (.t 10)),
    .r (some 84) (.ia 3 (.t 82) (.t 83)),
    .r (some 85) (.fa 2 (.t 84)),
    .r (some 86) (.l1 (.t 85)),
    .r (some 87) (.mv (.t 11)),
    .r (some 88) (.mv (.t 13)),
    .r (some 89) (.ia 1 (.t 86) (.t 87)),
    .e none (.st 1 (.t 89) (.t 88))] [0, 6, 7, 10, 69, 70, 71])) <|
  .reg false [.r (some 90) (.bi .add (.t 71) (.c (.int .i64 1))),
    .r (some 71) (.mv (.t 90))] [0, 6, 7, 10, 69, 70, 71]
def ir50L3 : IR := .seq (.seq (.reg false [.r (some 53) (.mv (.t 10)),
    .r (some 54) (.mv (.t 6)),
    .r (some 55) (.nn (.t 54)),
    .r (some 56) (.fa 1 (.t 55)),
    .r (some 57) (.l1 (.t 56)),
    .r (some 58) (.len (.t 57)),
    .r (some 59) (.bi .lss (.t 53) (.t 58))] [0, 6, 7, 10, 59]) <|
  .cond (.t 59) (.skip) ((.exit 2))) <|
  .seq (.block 3 (.seq (.reg false [.r (some 62) (.mv (.t 6)),
    .r (some 63) (.nn (.t 62)),
    .r (some 64) (.fa 1 (.t 63)),
    .r (some 65) (.l1 (.t 64)),
    .r (some 66) (.mv (.t 10)),
    .r (some 67) (.ia 3 (.t 65) (.t 66)),
    .r (some 68) (.fa 2 (.t 67)),
    .r (some 69) (.l1 (.t 68)),
    .r (some 70) (.len (.t 69)),
    .r (some 71) (.mv (.c (.int .i64 0)))] [0, 6, 7, 10, 69, 70, 71]) <|
  .block 4 (.loop ir50L2))) <|
  .reg false [.r (some 60) (.mv (.t 10)),
    .r (some 61) (.bi .add (.t 60) (.c (.int .i64 1))),
    .r (some 10) (.mv (.t 61))] [0, 6, 7, 10]
def ir50 : IR := .seq (.reg false [.r (some 4) (.mv (.c (.slice none 0 0))),
    .r (some 5) (.mv (.c (.int .i64 0)))] [0, 1]) <|
  .seq (.seq (.reg false [.r (some 14) (.mv (.t 0)),
    .r (some 15) (.mv (.t 1)),
    .e (some 16) (.call 44 [(.t 14), (.t 15)]),
    .r (some 17) (.no (.t 16))] [0, 1, 17]) <|
  .cond (.t 17) (.seq (.reg false [.r (some 4) (.mv (.c (.slice none 0 0))),
    .r (some 5) (.mv (.c (.int .i64 202)))] [4, 5]) <|
  .ret) (.skip)) <|
  .seq (.dr (.r 0 none (some 18) (.mv (.t 0)) <|
    .r 1 none (some 19) (.nn (.t 18)) <|
    .r 2 none (some 20) (.fa 1 (.t 19)) <|
    .r 3 none (some 21) (.l1 (.t 20)) <|
    .r 4 none (some 22) (.mv (.t 0)) <|
    .r 5 none (some 23) (.nn (.t 22)) <|
    .r 6 none (some 24) (.fa 1 (.t 23)) <|
    .r 7 none (some 25) (.l1 (.t 24)) <|
    .r 8 none (some 26) (.len (.t 25)) <|
    .r 10 none (some 28) (.mv (.t 0)) <|
    .r 11 none (some 29) (.nn (.t 28)) <|
    .r 12 none (some 30) (.fa 1 (.t 29)) <|
    .r 13 none (some 31) (.l1 (.t 30)) <|
    .r 14 none (some 32) (.len (.t 31)) <|
    .e2 9 (some 27) (.ms 3 1 8 #[(.int .i64 0)] (.t 26) (.t 26)) [3, 13] (.e 15 none (some 33) (.ms 3 1 8 #[(.int .i64 0)] (.t 32) (.t 32)) [3, 7] <|
    .r 16 none (some 34) (.bd #[(.slice none 0 0), (.slice none 0 0), (.slice none 0 0), (.slice none 0 0), (.slice none 0 0)] [(0, 1, (.t 21)), (2, 1, (.t 27)), (3, 1, (.t 33))]) <|
    .e 17 none (some 35) (.bx 100 (.t 34)) [] <|
    .r 18 none (some 6) (.mv (.t 35)) <|
    .nil) 15 (some 33) (.ms 3 1 8 #[(.int .i64 0)] (.t 32) (.t 32)) [3, 7]
    (.e 9 none (some 27) (.ms 3 1 8 #[(.int .i64 0)] (.t 26) (.t 26)) [3, 13] <|
    .r 16 none (some 34) (.bd #[(.slice none 0 0), (.slice none 0 0), (.slice none 0 0), (.slice none 0 0), (.slice none 0 0)] [(0, 1, (.t 21)), (2, 1, (.t 27)), (3, 1, (.t 33))]) <|
    .e 17 none (some 35) (.bx 100 (.t 34)) [] <|
    .r 18 none (some 6) (.mv (.t 35)) <|
    .nil)) [0, 1, 6]) <|
  .seq (.reg false [.r (some 36) (.mv (.t 1)),
    .r (some 37) (.len (.t 36)),
    .e (some 38) (.ms 3 1 8 #[(.int .i64 0)] (.t 37) (.t 37)),
    .r (some 7) (.mv (.t 38))] [0, 1, 6, 7]) <|
  .seq (.seq (.reg false [.r (some 39) (.mv (.t 1)),
    .r (some 40) (.len (.t 39)),
    .r (some 41) (.mv (.c (.int .i64 0)))] [0, 6, 7, 39, 40, 41]) <|
  .block 0 (.loop ir50L1)) <|
  .seq (.seq (.reg false [.r (some 10) (.mv (.c (.int .i64 0)))] [0, 6, 7, 10]) <|
  .block 2 (.loop ir50L3)) <|
  .seq (.reg false [.r (some 91) (.mv (.t 0)),
    .r (some 92) (.mv (.t 6)),
    .r (some 93) (.nn (.t 92)),
    .r (some 94) (.fa 1 (.t 93)),
    .r (some 95) (.l1 (.t 94)),
    .r (some 96) (.nn (.t 91)),
    .r (some 97) (.fa 1 (.t 96)),
    .e none (.st 1 (.t 97) (.t 95))] [0, 7]) <|
  .seq (.reg false [.r (some 98) (.mv (.t 0)),
    .r (some 99) (.nn (.t 98)),
    .r (some 100) (.fa 2 (.t 99)),
    .r (some 101) (.l1 (.t 100)),
    .r (some 102) (.bi .add (.t 101) (.c (.int .i64 1))),
    .r (some 103) (.nn (.t 98)),
    .r (some 104) (.fa 2 (.t 103)),
    .e none (.st 1 (.t 104) (.t 102))] [7]) <|
  .seq (.reg false [.r (some 105) (.mv (.t 7)),
    .r (some 4) (.mv (.t 105)),
    .r (some 5) (.mv (.c (.int .i64 0)))] [4, 5]) <|
  .ret
theorem fit50 : Fits Try.prog 50 2 [(0, [0, 1], []), (1, [0, 1, 17], []), (2, [4, 5], []), (3, [0, 1, 6], [0, 1, 3, 7, 0, 16, 48, 112, 240, 496, 0, 1024, 3072, 7168, 15360, 31744, 65535, 131071, 262143]), (4, [0, 1, 6, 7], []), (5, [0, 6, 7, 39, 40, 41], []), (6, [0, 6, 7, 39, 40, 41, 42], []), (7, [0, 6, 7, 8, 9, 39, 40, 41], []), (8, [0, 6, 7, 39, 40, 41], []), (9, [0, 6, 7, 39, 40, 41], []), (10, [0, 6, 7, 10], []), (11, [0, 6, 7, 10, 59], []), (12, [0, 6, 7, 10], []), (13, [0, 6, 7, 10, 69, 70, 71], []), (14, [0, 6, 7, 10, 69, 70, 71, 72], []), (15, [0, 6, 7, 10, 11, 12, 69, 70, 71], []), (16, [0, 6, 7, 10, 11, 13, 69, 70, 71], []), (17, [0, 6, 7, 10, 69, 70, 71], []), (18, [0, 6, 7, 10, 69, 70, 71], []), (19, [0, 7], []), (20, [7], []), (21, [4, 5], [])] ir50 [.t 4, .t 5] 106 :=
  ⟨Try.f50, _, rfl, rfl, rfl, by decide, by kernel_rfl, by kernel_rfl⟩

/- 51 (*sloth/heap.Arena).Room (3) -/
def ir51 : IR := .seq (.reg false [.r (some 6) (.mv (.c (.slice none 0 0))),
    .r (some 7) (.mv (.c (.int .i64 0)))] [0, 1, 2]) <|
  .seq (.block 0 (.seq (.reg false [.r (some 9) (.mv (.t 1)),
    .r (some 10) (.bi .lss (.t 9) (.c (.int .i64 0))),
    .r (some 8) (.mv (.t 10))] [0, 1, 2, 8]) <|
  .cond (.t 8) (.seq (.reg false [.r (some 6) (.mv (.c (.slice none 0 0))),
    .r (some 7) (.mv (.c (.int .i64 1)))] [6, 7]) <|
  .ret) (.seq (.reg false [.r (some 12) (.mv (.t 0)),
    .r (some 13) (.mv (.t 2)),
    .e (some 14) (.call 44 [(.t 12), (.t 13)]),
    .r (some 15) (.no (.t 14)),
    .r (some 11) (.mv (.t 15))] [0, 1, 2, 11]) <|
  .cond (.t 11) (.seq (.reg false [.r (some 6) (.mv (.c (.slice none 0 0))),
    .r (some 7) (.mv (.c (.int .i64 202)))] [6, 7]) <|
  .ret) (.seq (.reg true [.r (some 17) (.mv (.t 1)),
    .r (some 18) (.mv (.t 0)),
    .r (some 19) (.nn (.t 18)),
    .r (some 20) (.fa 0 (.t 19)),
    .r (some 21) (.l1 (.t 20)),
    .r (some 22) (.mv (.t 0)),
    .r (some 23) (.nn (.t 22)),
    .r (some 24) (.fa 1 (.t 23)),
    .r (some 25) (.l1 (.t 24)),
    .r (some 26) (.len (.t 25)),
    .r (some 27) (.bi .sub (.t 21) (.t 26)),
    .r (some 28) (.bi .leq (.t 17) (.t 27)),
    .r (some 16) (.mv (.t 28))] [0, 1, 2, 16]) <|
  .cond (.t 16) (.seq (.reg false [.r (some 29) (.mv (.t 2)),
    .e (some 30) (.call 65 [(.t 29)]),
    .r (some 6) (.mv (.t 30)),
    .r (some 7) (.mv (.c (.int .i64 0)))] [6, 7]) <|
  .ret) (.skip))))) <|
  .seq (.reg false [.r (some 32) (.mv (.t 0)),
    .r (some 33) (.mv (.t 2)),
    .e (some 34) (.call 50 [(.t 32), (.t 33)]),
    .r (some 31) (.mv (.t 34)),
    .r (some 35) (.ex 0 (.t 31)),
    .r (some 36) (.ex 1 (.t 31)),
    .r (some 2) (.mv (.t 35))] [0, 1, 2]) <|
  .seq (.seq (.reg true [.r (some 37) (.mv (.t 1)),
    .r (some 38) (.mv (.t 0)),
    .r (some 39) (.nn (.t 38)),
    .r (some 40) (.fa 0 (.t 39)),
    .r (some 41) (.l1 (.t 40)),
    .r (some 42) (.mv (.t 0)),
    .r (some 43) (.nn (.t 42)),
    .r (some 44) (.fa 1 (.t 43)),
    .r (some 45) (.l1 (.t 44)),
    .r (some 46) (.len (.t 45)),
    .r (some 47) (.bi .sub (.t 41) (.t 46)),
    .r (some 48) (.bi .gtr (.t 37) (.t 47))] [2, 48]) <|
  .cond (.t 48) (.seq (.reg false [.r (some 6) (.mv (.c (.slice none 0 0))),
    .r (some 7) (.mv (.c (.int .i64 201)))] [6, 7]) <|
  .ret) (.skip)) <|
  .seq (.reg false [.r (some 49) (.mv (.t 2)),
    .r (some 6) (.mv (.t 49)),
    .r (some 7) (.mv (.c (.int .i64 0)))] [6, 7]) <|
  .ret
theorem fit51 : Fits Try.prog 51 3 [(0, [0, 1, 2], []), (1, [0, 1, 2, 8], []), (2, [6, 7], []), (3, [0, 1, 2, 11], []), (4, [6, 7], []), (5, [0, 1, 2, 16], [0, 0, 2, 6, 14, 0, 32, 96, 224, 480, 1022, 2047, 4095]), (6, [6, 7], []), (7, [0, 1, 2], []), (8, [2, 48], [0, 0, 2, 6, 14, 0, 32, 96, 224, 480, 1022, 2047]), (9, [6, 7], []), (10, [6, 7], [])] ir51 [.t 6, .t 7] 50 :=
  ⟨Try.f51, _, rfl, rfl, rfl, by decide, by kernel_rfl, by kernel_rfl⟩

/- 52 sloth/slothlaw21.least (2) -/
def ir52L1 : IR := .seq (.seq (.reg false [.r (some 18) (.mv (.t 8)),
    .r (some 19) (.mv (.t 0)),
    .e (some 20) (.call 10 [(.t 19)]),
    .r (some 21) (.bi .lss (.t 18) (.t 20)),
    .r (some 22) (.mv (.t 21)),
    .gr 22 true (some 23) (.fa 0 (.t 6)),
    .gr 22 true (some 24) (.l1 (.t 23)),
    .gr 22 true (some 25) (.bi .eql (.t 24) (.c (.int .i64 5))),
    .r (some 26) (.pk (.t 22) (.t 25) (.c (.bool false))),
    .r (some 27) (.mv (.t 26)),
    .gr 27 true (some 28) (.fa 2 (.t 6)),
    .gr 27 true (some 29) (.l1 (.t 28)),
    .gr 27 true (some 30) (.len (.t 29)),
    .gr 27 true (some 31) (.bi .eql (.t 30) (.c (.int .i64 1))),
    .r (some 32) (.pk (.t 27) (.t 31) (.c (.bool false)))] [0, 5, 6, 8, 32]) <|
  .cond (.t 32) (.skip) ((.exit 0))) <|
  .seq (.block 1 (.seq (.reg false [.r (some 35) (.mv (.t 5)),
    .r (some 36) (.fa 2 (.t 6)),
    .r (some 37) (.l1 (.t 36)),
    .r (some 38) (.ia 1 (.t 37) (.c (.int .i64 0))),
    .r (some 39) (.l1 (.t 38)),
    .r (some 40) (.mm false (.t 35) (.t 39)),
    .r (some 5) (.mv (.t 40))] [0, 5, 6, 8]) <|
  .seq (.reg false [.r (some 42) (.mv (.t 0)),
    .r (some 43) (.fa 2 (.t 6)),
    .r (some 44) (.l1 (.t 43)),
    .r (some 45) (.ia 1 (.t 44) (.c (.int .i64 0))),
    .r (some 46) (.l1 (.t 45)),
    .e (some 47) (.call 29 [(.t 42), (.t 46)]),
    .r (some 41) (.mv (.t 47)),
    .r (some 48) (.ex 0 (.t 41)),
    .r (some 49) (.ex 1 (.t 41)),
    .e (some 9) (.al 38 (.agg #[(.int .i64 0), (.int .i64 0), (.slice none 0 0)])),
    .e none (.st 3 (.t 9) (.t 48)),
    .r (some 10) (.mv (.t 49))] [0, 5, 6, 8, 9]) <|
  .reg false [.r (some 50) (.ln 3 (.t 9)),
    .e none (.st 3 (.t 6) (.t 50))] [0, 5, 6, 8])) <|
  .reg false [.r (some 33) (.mv (.t 8)),
    .r (some 34) (.bi .add (.t 33) (.c (.int .i64 1))),
    .r (some 8) (.mv (.t 34))] [0, 5, 6, 8]
def ir52 : IR := .seq (.reg false [.r (some 4) (.mv (.c (.int .i64 0)))] [0, 1]) <|
  .seq (.reg false [.r (some 11) (.mv (.t 1)),
    .r (some 5) (.mv (.t 11))] [0, 1, 5]) <|
  .seq (.reg false [.r (some 13) (.mv (.t 0)),
    .r (some 14) (.mv (.t 1)),
    .e (some 15) (.call 29 [(.t 13), (.t 14)]),
    .r (some 12) (.mv (.t 15)),
    .r (some 16) (.ex 0 (.t 12)),
    .r (some 17) (.ex 1 (.t 12)),
    .e (some 6) (.al 38 (.agg #[(.int .i64 0), (.int .i64 0), (.slice none 0 0)])),
    .e none (.st 3 (.t 6) (.t 16)),
    .r (some 7) (.mv (.t 17))] [0, 5, 6]) <|
  .seq (.seq (.reg false [.r (some 8) (.mv (.c (.int .i64 0)))] [0, 5, 6, 8]) <|
  .block 0 (.loop ir52L1)) <|
  .seq (.reg false [.r (some 51) (.mv (.t 5)),
    .r (some 4) (.mv (.t 51))] [4]) <|
  .ret
theorem fit52 : Fits Try.prog 52 2 [(0, [0, 1], []), (1, [0, 1, 5], []), (2, [0, 5, 6], []), (3, [0, 5, 6, 8], []), (4, [0, 5, 6, 8, 32], []), (5, [0, 5, 6, 8], []), (6, [0, 5, 6, 8], []), (7, [0, 5, 6, 8, 9], []), (8, [0, 5, 6, 8], []), (9, [4], [])] ir52 [.t 4] 52 :=
  ⟨Try.f52, _, rfl, rfl, rfl, by decide, by kernel_rfl, by kernel_rfl⟩

/- 53 sloth/slothlaw21.leastHeap (2) -/
def ir53L1 : IR := .seq (.seq (.reg false [.r (some 18) (.mv (.t 8)),
    .r (some 19) (.mv (.t 0)),
    .e (some 20) (.call 47 [(.t 19)]),
    .r (some 21) (.bi .lss (.t 18) (.t 20)),
    .r (some 22) (.mv (.t 21)),
    .gr 22 true (some 23) (.fa 0 (.t 6)),
    .gr 22 true (some 24) (.l1 (.t 23)),
    .gr 22 true (some 25) (.bi .eql (.t 24) (.c (.int .i64 5))),
    .r (some 26) (.pk (.t 22) (.t 25) (.c (.bool false))),
    .r (some 27) (.mv (.t 26)),
    .gr 27 true (some 28) (.fa 2 (.t 6)),
    .gr 27 true (some 29) (.l1 (.t 28)),
    .gr 27 true (some 30) (.len (.t 29)),
    .gr 27 true (some 31) (.bi .eql (.t 30) (.c (.int .i64 1))),
    .r (some 32) (.pk (.t 27) (.t 31) (.c (.bool false)))] [0, 5, 6, 8, 32]) <|
  .cond (.t 32) (.skip) ((.exit 0))) <|
  .seq (.block 1 (.seq (.reg false [.r (some 35) (.mv (.t 5)),
    .r (some 36) (.fa 2 (.t 6)),
    .r (some 37) (.l1 (.t 36)),
    .r (some 38) (.ia 1 (.t 37) (.c (.int .i64 0))),
    .r (some 39) (.l1 (.t 38)),
    .r (some 40) (.mm false (.t 35) (.t 39)),
    .r (some 5) (.mv (.t 40))] [0, 5, 6, 8]) <|
  .seq (.reg false [.r (some 42) (.mv (.t 0)),
    .r (some 43) (.fa 2 (.t 6)),
    .r (some 44) (.l1 (.t 43)),
    .r (some 45) (.ia 1 (.t 44) (.c (.int .i64 0))),
    .r (some 46) (.l1 (.t 45)),
    .e (some 47) (.call 46 [(.t 42), (.t 46)]),
    .r (some 41) (.mv (.t 47)),
    .r (some 48) (.ex 0 (.t 41)),
    .r (some 49) (.ex 1 (.t 41)),
    .e (some 9) (.al 38 (.agg #[(.int .i64 0), (.int .i64 0), (.slice none 0 0)])),
    .e none (.st 3 (.t 9) (.t 48)),
    .r (some 10) (.mv (.t 49))] [0, 5, 6, 8, 9]) <|
  .reg false [.r (some 50) (.ln 3 (.t 9)),
    .e none (.st 3 (.t 6) (.t 50))] [0, 5, 6, 8])) <|
  .reg false [.r (some 33) (.mv (.t 8)),
    .r (some 34) (.bi .add (.t 33) (.c (.int .i64 1))),
    .r (some 8) (.mv (.t 34))] [0, 5, 6, 8]
def ir53 : IR := .seq (.reg false [.r (some 4) (.mv (.c (.int .i64 0)))] [0, 1]) <|
  .seq (.reg false [.r (some 11) (.mv (.t 1)),
    .r (some 5) (.mv (.t 11))] [0, 1, 5]) <|
  .seq (.reg false [.r (some 13) (.mv (.t 0)),
    .r (some 14) (.mv (.t 1)),
    .e (some 15) (.call 46 [(.t 13), (.t 14)]),
    .r (some 12) (.mv (.t 15)),
    .r (some 16) (.ex 0 (.t 12)),
    .r (some 17) (.ex 1 (.t 12)),
    .e (some 6) (.al 38 (.agg #[(.int .i64 0), (.int .i64 0), (.slice none 0 0)])),
    .e none (.st 3 (.t 6) (.t 16)),
    .r (some 7) (.mv (.t 17))] [0, 5, 6]) <|
  .seq (.seq (.reg false [.r (some 8) (.mv (.c (.int .i64 0)))] [0, 5, 6, 8]) <|
  .block 0 (.loop ir53L1)) <|
  .seq (.reg false [.r (some 51) (.mv (.t 5)),
    .r (some 4) (.mv (.t 51))] [4]) <|
  .ret
theorem fit53 : Fits Try.prog 53 2 [(0, [0, 1], []), (1, [0, 1, 5], []), (2, [0, 5, 6], []), (3, [0, 5, 6, 8], []), (4, [0, 5, 6, 8, 32], []), (5, [0, 5, 6, 8], []), (6, [0, 5, 6, 8], []), (7, [0, 5, 6, 8, 9], []), (8, [0, 5, 6, 8], []), (9, [4], [])] ir53 [.t 4] 52 :=
  ⟨Try.f53, _, rfl, rfl, rfl, by decide, by kernel_rfl, by kernel_rfl⟩

/- 54 (*sloth/gens.Arena).small (2) -/
def ir54L1 : IR := .seq (.reg false [.r (some 57) (.bi .lss (.t 56) (.t 55))] [0, 5, 6, 9, 39, 40, 41, 54, 55, 56, 57]) <|
  .seq (.cond (.t 57) (.skip) ((.exit 2))) <|
  .seq (.block 3 (.seq (.reg false [.r (some 58) (.mv (.t 56)),
    .r (some 59) (.ia 1 (.t 54) (.t 56)),
    .r (some 60) (.l1 (.t 59)),
    .r (some 10) (.mv (.t 58)),
    .r (some 11) (.mv (.t 60))] [0, 5, 6, 9, 10, 11, 39, 40, 41, 54, 55, 56]) <|
  .seq (.reg false [.r (some 61) (.mv (.t 11)),
    .r (some 62) (.mv (.t 0)),
    .r (some 63) (.nn (.t 62)),
    .r (some 64) (.fa 3 (.t 63)),
    .r (some 65) (.l1 (.t 64)),
    .r (some 66) (.bi .geq (.t 61) (.t 65))] [0, 5, 6, 9, 10, 11, 39, 40, 41, 54, 55, 56, 66]) <|
  .cond (.t 66) (.dr (.r 0 none (some 67) (.mv (.t 9)) <|
    .r 1 none (some 68) (.nn (.t 67)) <|
    .r 2 none (some 69) (.fa 2 (.t 68)) <|
    .r 3 none (some 70) (.l1 (.t 69)) <|
    .r 4 none (some 71) (.mv (.t 10)) <|
    .r 5 none (some 72) (.mv (.t 5)) <|
    .r 6 none (some 73) (.mv (.t 11)) <|
    .e 7 none (some 74) (.call 72 [(.t 72), (.t 73)]) [3] <|
    .r 8 none (some 75) (.ia 1 (.t 70) (.t 71)) <|
    .e 9 none none (.st 1 (.t 75) (.t 74)) [] <|
    .nil) [0, 5, 6, 9, 39, 40, 41, 54, 55, 56]) (.skip))) <|
  .reg false [.r (some 76) (.bi .add (.t 56) (.c (.int .i64 1))),
    .r (some 56) (.mv (.t 76))] [0, 5, 6, 9, 39, 40, 41, 54, 55, 56]
def ir54L2 : IR := .seq (.reg false [.r (some 42) (.bi .lss (.t 41) (.t 40))] [0, 5, 6, 39, 40, 41, 42]) <|
  .seq (.cond (.t 42) (.skip) ((.exit 0))) <|
  .seq (.block 1 (.seq (.reg false [.r (some 43) (.ia 1 (.t 39) (.t 41)),
    .r (some 44) (.l1 (.t 43)),
    .r (some 8) (.mv (.t 44))] [0, 5, 6, 8, 39, 40, 41]) <|
  .seq (.reg false [.r (some 45) (.mv (.t 0)),
    .r (some 46) (.nn (.t 45)),
    .r (some 47) (.fa 2 (.t 46)),
    .r (some 48) (.l1 (.t 47)),
    .r (some 49) (.mv (.t 8)),
    .r (some 50) (.ia 3 (.t 48) (.t 49)),
    .r (some 9) (.mv (.t 50))] [0, 5, 6, 9, 39, 40, 41]) <|
  .seq (.reg false [.r (some 51) (.mv (.t 9)),
    .r (some 52) (.nn (.t 51)),
    .r (some 53) (.fa 2 (.t 52)),
    .r (some 54) (.l1 (.t 53)),
    .r (some 55) (.len (.t 54)),
    .r (some 56) (.mv (.c (.int .i64 0)))] [0, 5, 6, 9, 39, 40, 41, 54, 55, 56]) <|
  .block 2 (.loop ir54L1))) <|
  .reg false [.r (some 77) (.bi .add (.t 41) (.c (.int .i64 1))),
    .r (some 41) (.mv (.t 77))] [0, 5, 6, 39, 40, 41]
def ir54L3 : IR := .seq (.reg false [.e (some 84) (.raw ⟨(some 84), (.next (.tmp 83) false), 0, "gens.go:206", #[], none⟩),
    .r (some 85) (.ex 0 (.t 84))] [0, 5, 6, 83, 85]) <|
  .seq (.cond (.t 85) (.skip) ((.exit 4))) <|
  .block 5 (.seq (.reg false [.e (some 86) (.raw ⟨(some 86), (.entry (.tmp 83)), 0, "gens.go:206", #[], none⟩),
    .r (some 87) (.ex 0 (.t 86)),
    .r (some 12) (.mv (.t 87))] [0, 5, 6, 12, 83]) <|
  .seq (.reg false [.r (some 88) (.mv (.t 12)),
    .r (some 89) (.mv (.t 0)),
    .r (some 90) (.nn (.t 89)),
    .r (some 91) (.fa 3 (.t 90)),
    .r (some 92) (.l1 (.t 91)),
    .r (some 93) (.bi .lss (.t 88) (.t 92))] [0, 5, 6, 12, 83, 93]) <|
  .cond (.t 93) (.reg false [.r (some 94) (.mv (.t 0)),
    .r (some 95) (.nn (.t 94)),
    .r (some 96) (.fa 2 (.t 95)),
    .r (some 97) (.l1 (.t 96)),
    .r (some 98) (.mv (.t 12)),
    .r (some 99) (.ia 3 (.t 97) (.t 98)),
    .r (some 100) (.fa 2 (.t 99)),
    .r (some 101) (.l1 (.t 100)),
    .r (some 102) (.mv (.t 12)),
    .r (some 103) (.ia 1 (.t 101) (.c (.int .i64 0))),
    .e none (.st 1 (.t 103) (.t 102))] [0, 5, 6, 83]) (.skip))
def ir54 : IR := .seq (.reg false [.r (some 4) (.mv (.c (.slice none 0 0)))] [0, 1]) <|
  .seq (.reg false [.r (some 14) (.mv (.t 0)),
    .r (some 15) (.nn (.t 14)),
    .r (some 16) (.fa 5 (.t 15)),
    .r (some 17) (.l1 (.t 16)),
    .r (some 18) (.bi .add (.t 17) (.c (.int .i64 1))),
    .r (some 19) (.nn (.t 14)),
    .r (some 20) (.fa 5 (.t 19)),
    .e none (.st 1 (.t 20) (.t 18))] [0, 1]) <|
  .seq (.dr (.r 0 none (some 21) (.mv (.t 0)) <|
    .r 1 none (some 22) (.mv (.t 0)) <|
    .r 3 none (some 24) (.mv (.t 0)) <|
    .r 4 none (some 25) (.nn (.t 24)) <|
    .r 5 none (some 26) (.fa 3 (.t 25)) <|
    .r 6 none (some 27) (.l1 (.t 26)) <|
    .e2 2 (some 23) (.call 68 [(.t 22)]) [6] (.e 7 none (some 28) (.raw ⟨(some 28), (.makeMap 69 none), 69, "gens.go:196", #[], none⟩) [6] <|
    .r 8 none (some 29) (.bd #[(.pointer none), (.slice none 0 0), (.map none), (.int .i64 0), (.map none), (.slice none 0 0)] [(0, 1, (.t 21)), (1, 2, (.t 23)), (3, 1, (.t 27)), (4, 1, (.t 28))]) <|
    .e 9 none (some 30) (.bx 106 (.t 29)) [] <|
    .r 10 none (some 5) (.mv (.t 30)) <|
    .nil) 7 (some 28) (.raw ⟨(some 28), (.makeMap 69 none), 69, "gens.go:196", #[], none⟩) [6]
    (.e 2 none (some 23) (.call 68 [(.t 22)]) [6] <|
    .r 8 none (some 29) (.bd #[(.pointer none), (.slice none 0 0), (.map none), (.int .i64 0), (.map none), (.slice none 0 0)] [(0, 1, (.t 21)), (1, 2, (.t 23)), (3, 1, (.t 27)), (4, 1, (.t 28))]) <|
    .e 9 none (some 30) (.bx 106 (.t 29)) [] <|
    .r 10 none (some 5) (.mv (.t 30)) <|
    .nil)) [0, 1, 5]) <|
  .seq (.reg false [.r (some 31) (.mv (.t 5)),
    .r (some 32) (.mv (.t 1)),
    .e (some 33) (.call 69 [(.t 31), (.t 32)]),
    .r (some 6) (.mv (.t 33))] [0, 5, 6]) <|
  .seq (.seq (.reg false [.r (some 34) (.mv (.t 0)),
    .r (some 35) (.nn (.t 34)),
    .r (some 36) (.fa 4 (.t 35)),
    .r (some 37) (.l1 (.t 36)),
    .e (some 38) (.call 71 [(.t 37)]),
    .e (some 39) (.call 70 [(.t 38)]),
    .r (some 40) (.len (.t 39)),
    .r (some 41) (.mv (.c (.int .i64 0)))] [0, 5, 6, 39, 40, 41]) <|
  .block 0 (.loop ir54L2)) <|
  .seq (.seq (.reg false [.r (some 78) (.mv (.t 5)),
    .r (some 79) (.nn (.t 78)),
    .r (some 80) (.fa 1 (.t 79)),
    .r (some 81) (.fa 1 (.t 80)),
    .r (some 82) (.l1 (.t 81)),
    .e (some 83) (.raw ⟨(some 83), (.range 69 (.tmp 82)), 0, "gens.go:206", #[⟨4, .data⟩], none⟩)] [0, 5, 6, 83]) <|
  .block 4 (.loop ir54L3)) <|
  .seq (.reg false [.r (some 104) (.mv (.t 5)),
    .e (some 105) (.call 73 [(.t 104)]),
    .r (some 13) (.mv (.t 105))] [0, 6, 13]) <|
  .seq (.reg true [.r (some 106) (.mv (.t 0)),
    .r (some 107) (.mv (.t 0)),
    .r (some 108) (.nn (.t 107)),
    .r (some 109) (.fa 2 (.t 108)),
    .r (some 110) (.l1 (.t 109)),
    .r (some 111) (.mv (.t 0)),
    .r (some 112) (.nn (.t 111)),
    .r (some 113) (.fa 3 (.t 112)),
    .r (some 114) (.l1 (.t 113)),
    .r (some 115) (.mv (.t 0)),
    .r (some 116) (.nn (.t 115)),
    .r (some 117) (.fa 3 (.t 116)),
    .r (some 118) (.l1 (.t 117)),
    .r (some 119) (.sl 3 (.t 110) none (some (.t 114)) (some (.t 118))),
    .r (some 120) (.mv (.t 13)),
    .e (some 121) (.ap 38 3 40 #[(.int .i64 0), (.int .i64 0), (.slice none 0 0)] (.t 119) (.t 120)),
    .r (some 122) (.nn (.t 106)),
    .r (some 123) (.fa 2 (.t 122)),
    .e none (.st 1 (.t 123) (.t 121))] [0, 6]) <|
  .seq (.reg false [.r (some 124) (.mv (.t 0)),
    .r (some 125) (.mv (.t 0)),
    .r (some 126) (.nn (.t 125)),
    .r (some 127) (.fa 2 (.t 126)),
    .r (some 128) (.l1 (.t 127)),
    .r (some 129) (.len (.t 128)),
    .r (some 130) (.nn (.t 124)),
    .r (some 131) (.fa 3 (.t 130)),
    .e none (.st 1 (.t 131) (.t 129))] [0, 6]) <|
  .seq (.reg false [.r (some 132) (.mv (.t 0)),
    .r (some 133) (.nn (.t 132)),
    .r (some 134) (.fa 4 (.t 133)),
    .r (some 135) (.l1 (.t 134)),
    .e none (.raw ⟨none, (.call { callee := (.builtin .clear), args := #[(.tmp 135)], argTypes := #[69] }), 0, "gens.go:214", #[⟨3, .data⟩], none⟩)] [6]) <|
  .seq (.reg false [.r (some 136) (.mv (.t 6)),
    .r (some 4) (.mv (.t 136))] [4]) <|
  .ret
theorem fit54 : Fits Try.prog 54 2 [(0, [0, 1], []), (1, [0, 1], []), (2, [0, 1, 5], [0, 0, 2, 0, 8, 24, 56, 0, 255, 511, 1023]), (3, [0, 5, 6], []), (4, [0, 5, 6, 39, 40, 41], []), (5, [0, 5, 6, 39, 40, 41, 42], []), (6, [0, 5, 6, 8, 39, 40, 41], []), (7, [0, 5, 6, 9, 39, 40, 41], []), (8, [0, 5, 6, 9, 39, 40, 41, 54, 55, 56], []), (9, [0, 5, 6, 9, 39, 40, 41, 54, 55, 56, 57], []), (10, [0, 5, 6, 9, 10, 11, 39, 40, 41, 54, 55, 56], []), (11, [0, 5, 6, 9, 10, 11, 39, 40, 41, 54, 55, 56, 66], []), (12, [0, 5, 6, 9, 39, 40, 41, 54, 55, 56], [0, 1, 3, 7, 0, 0, 0, 96, 255, 511]), (13, [0, 5, 6, 9, 39, 40, 41, 54, 55, 56], []), (14, [0, 5, 6, 39, 40, 41], []), (15, [0, 5, 6, 83], []), (16, [0, 5, 6, 83, 85], []), (17, [0, 5, 6, 12, 83], []), (18, [0, 5, 6, 12, 83, 93], []), (19, [0, 5, 6, 83], []), (20, [0, 6, 13], []), (21, [0, 6], [0, 0, 2, 6, 14, 0, 32, 96, 224, 0, 512, 1536, 3584, 8190, 0, 32766, 65535, 131071, 262143]), (22, [0, 6], []), (23, [6], []), (24, [4], [])] ir54 [.t 4] 137 :=
  ⟨Try.f54, _, rfl, rfl, rfl, by decide, by kernel_rfl, by kernel_rfl⟩

/- 55 (*sloth/gens.Arena).all (2) -/
def ir55 : IR := .seq (.reg false [.r (some 4) (.mv (.c (.slice none 0 0)))] [0, 1]) <|
  .seq (.reg false [.r (some 7) (.mv (.t 0)),
    .r (some 8) (.nn (.t 7)),
    .r (some 9) (.fa 5 (.t 8)),
    .r (some 10) (.l1 (.t 9)),
    .r (some 11) (.bi .add (.t 10) (.c (.int .i64 1))),
    .r (some 12) (.nn (.t 7)),
    .r (some 13) (.fa 5 (.t 12)),
    .e none (.st 1 (.t 13) (.t 11))] [0, 1]) <|
  .seq (.reg false [.r (some 14) (.mv (.t 0)),
    .r (some 15) (.mv (.t 0)),
    .e (some 16) (.call 68 [(.t 15)]),
    .e (some 17) (.raw ⟨(some 17), (.makeMap 69 none), 69, "gens.go:221", #[], none⟩),
    .r (some 18) (.bd #[(.pointer none), (.slice none 0 0), (.map none), (.int .i64 0), (.map none), (.slice none 0 0)] [(0, 1, (.t 14)), (1, 2, (.t 16)), (4, 1, (.t 17))]),
    .e (some 19) (.bx 106 (.t 18)),
    .r (some 5) (.mv (.t 19))] [0, 1, 5]) <|
  .seq (.reg false [.r (some 20) (.mv (.t 5)),
    .r (some 21) (.mv (.t 1)),
    .e (some 22) (.call 69 [(.t 20), (.t 21)]),
    .r (some 6) (.mv (.t 22))] [0, 5, 6]) <|
  .seq (.reg false [.r (some 23) (.mv (.t 0)),
    .r (some 24) (.mv (.t 5)),
    .e (some 25) (.call 73 [(.t 24)]),
    .r (some 26) (.nn (.t 23)),
    .r (some 27) (.fa 2 (.t 26)),
    .e none (.st 1 (.t 27) (.t 25))] [0, 6]) <|
  .seq (.reg false [.r (some 28) (.mv (.t 0)),
    .r (some 29) (.mv (.t 0)),
    .r (some 30) (.nn (.t 29)),
    .r (some 31) (.fa 2 (.t 30)),
    .r (some 32) (.l1 (.t 31)),
    .r (some 33) (.len (.t 32)),
    .r (some 34) (.nn (.t 28)),
    .r (some 35) (.fa 3 (.t 34)),
    .e none (.st 1 (.t 35) (.t 33))] [0, 6]) <|
  .seq (.reg false [.r (some 36) (.mv (.t 0)),
    .r (some 37) (.nn (.t 36)),
    .r (some 38) (.fa 4 (.t 37)),
    .r (some 39) (.l1 (.t 38)),
    .e none (.raw ⟨none, (.call { callee := (.builtin .clear), args := #[(.tmp 39)], argTypes := #[69] }), 0, "gens.go:225", #[⟨3, .data⟩], none⟩)] [6]) <|
  .seq (.reg false [.r (some 40) (.mv (.t 6)),
    .r (some 4) (.mv (.t 40))] [4]) <|
  .ret
theorem fit55 : Fits Try.prog 55 2 [(0, [0, 1], []), (1, [0, 1], []), (2, [0, 1, 5], []), (3, [0, 5, 6], []), (4, [0, 6], []), (5, [0, 6], []), (6, [6], []), (7, [4], [])] ir55 [.t 4] 41 :=
  ⟨Try.f55, _, rfl, rfl, rfl, by decide, by kernel_rfl, by kernel_rfl⟩

/- 56 sloth/slothref21.May (1) -/
def ir56 : IR := .seq (.reg false [.e (some 1) (.bx 38 (.t 0)),
    .r (some 2) (.mv (.c (.bool false)))] [1]) <|
  .seq (.seq (.reg false [.r (some 3) (.fa 0 (.t 1)),
    .r (some 4) (.l1 (.t 3))] [1, 4]) <|
  .block 0 (.seq (.reg false [.r (some 6) (.bi .eql (.t 4) (.c (.int .i64 1))),
    .r (some 5) (.mv (.t 6))] [1, 4, 5]) <|
  .cond (.t 5) (.seq (.reg false [.r (some 7) (.fa 1 (.t 1)),
    .r (some 8) (.l1 (.t 7)),
    .r (some 9) (.bi .geq (.t 8) (.c (.int .i64 (-4611686018427387904)))),
    .r (some 10) (.mv (.t 9)),
    .gr 10 true (some 11) (.fa 1 (.t 1)),
    .gr 10 true (some 12) (.l1 (.t 11)),
    .gr 10 true (some 13) (.bi .leq (.t 12) (.c (.int .i64 4611686018427387903))),
    .r (some 14) (.pk (.t 10) (.t 13) (.c (.bool false))),
    .r (some 15) (.mv (.t 14)),
    .gr 15 true (some 16) (.fa 2 (.t 1)),
    .gr 15 true (some 17) (.l1 (.t 16)),
    .gr 15 true (some 18) (.len (.t 17)),
    .gr 15 true (some 19) (.bi .eql (.t 18) (.c (.int .i64 0))),
    .r (some 20) (.pk (.t 15) (.t 19) (.c (.bool false))),
    .r (some 2) (.mv (.t 20))] [2]) <|
  .ret) (.seq (.reg false [.r (some 22) (.bi .eql (.t 4) (.c (.int .i64 2))),
    .r (some 21) (.mv (.t 22))] [1, 4, 21]) <|
  .cond (.t 21) (.seq (.reg false [.r (some 23) (.fa 1 (.t 1)),
    .r (some 24) (.l1 (.t 23)),
    .r (some 25) (.bi .geq (.t 24) (.c (.int .i64 0))),
    .r (some 26) (.mv (.t 25)),
    .gr 26 true (some 27) (.fa 2 (.t 1)),
    .gr 26 true (some 28) (.l1 (.t 27)),
    .gr 26 true (some 29) (.len (.t 28)),
    .gr 26 true (some 30) (.bi .leq (.t 29) (.c (.int .i64 8))),
    .r (some 31) (.pk (.t 26) (.t 30) (.c (.bool false))),
    .r (some 2) (.mv (.t 31))] [2]) <|
  .ret) (.seq (.reg false [.r (some 33) (.bi .eql (.t 4) (.c (.int .i64 3))),
    .r (some 32) (.mv (.t 33))] [1, 4, 32]) <|
  .cond (.t 32) (.seq (.reg false [.r (some 34) (.fa 1 (.t 1)),
    .r (some 35) (.l1 (.t 34)),
    .r (some 36) (.bi .eql (.t 35) (.c (.int .i64 0))),
    .r (some 37) (.mv (.t 36)),
    .gr 37 true (some 38) (.fa 2 (.t 1)),
    .gr 37 true (some 39) (.l1 (.t 38)),
    .gr 37 true (some 40) (.len (.t 39)),
    .gr 37 true (some 41) (.bi .eql (.t 40) (.c (.int .i64 2))),
    .r (some 42) (.pk (.t 37) (.t 41) (.c (.bool false))),
    .r (some 2) (.mv (.t 42))] [2]) <|
  .ret) (.seq (.seq (.reg false [.r (some 44) (.bi .eql (.t 4) (.c (.int .i64 4))),
    .r (some 43) (.mv (.t 44))] [1, 4, 43]) <|
  .cond (.t 43) (.skip) (.reg false [.r (some 45) (.bi .eql (.t 4) (.c (.int .i64 8))),
    .r (some 43) (.mv (.t 45))] [1, 4, 43])) <|
  .cond (.t 43) (.seq (.reg false [.r (some 46) (.fa 1 (.t 1)),
    .r (some 47) (.l1 (.t 46)),
    .r (some 48) (.bi .geq (.t 47) (.c (.int .i64 0))),
    .r (some 49) (.mv (.t 48)),
    .gr 49 true (some 50) (.fa 2 (.t 1)),
    .gr 49 true (some 51) (.l1 (.t 50)),
    .gr 49 true (some 52) (.len (.t 51)),
    .gr 49 true (some 53) (.bi .eql (.t 52) (.c (.int .i64 0))),
    .r (some 54) (.pk (.t 49) (.t 53) (.c (.bool false))),
    .r (some 2) (.mv (.t 54))] [2]) <|
  .ret) (.seq (.reg false [.r (some 56) (.bi .eql (.t 4) (.c (.int .i64 5))),
    .r (some 55) (.mv (.t 56))] [1, 4, 55]) <|
  .cond (.t 55) (.seq (.reg false [.r (some 57) (.fa 1 (.t 1)),
    .r (some 58) (.l1 (.t 57)),
    .r (some 59) (.bi .eql (.t 58) (.c (.int .i64 0))),
    .r (some 60) (.mv (.t 59)),
    .gr 60 true (some 61) (.fa 2 (.t 1)),
    .gr 60 true (some 62) (.l1 (.t 61)),
    .gr 60 true (some 63) (.len (.t 62)),
    .gr 60 true (some 64) (.bi .eql (.t 63) (.c (.int .i64 1))),
    .r (some 65) (.pk (.t 60) (.t 64) (.c (.bool false))),
    .r (some 2) (.mv (.t 65))] [2]) <|
  .ret) (.seq (.seq (.reg false [.r (some 67) (.bi .eql (.t 4) (.c (.int .i64 6))),
    .r (some 66) (.mv (.t 67))] [1, 4, 66]) <|
  .cond (.t 66) (.skip) (.reg false [.r (some 68) (.bi .eql (.t 4) (.c (.int .i64 7))),
    .r (some 66) (.mv (.t 68))] [1, 66])) <|
  .cond (.t 66) (.seq (.reg false [.r (some 69) (.fa 1 (.t 1)),
    .r (some 70) (.l1 (.t 69)),
    .r (some 71) (.bi .eql (.t 70) (.c (.int .i64 0))),
    .r (some 72) (.mv (.t 71)),
    .gr 72 true (some 73) (.fa 2 (.t 1)),
    .gr 72 true (some 74) (.l1 (.t 73)),
    .gr 72 true (some 75) (.len (.t 74)),
    .gr 72 true (some 76) (.bi .eql (.t 75) (.c (.int .i64 0))),
    .r (some 77) (.pk (.t 72) (.t 76) (.c (.bool false))),
    .r (some 2) (.mv (.t 77))] [2]) <|
  .ret) (.skip)))))))) <|
  .seq (.reg false [.r (some 2) (.mv (.c (.bool false)))] [2]) <|
  .ret
theorem fit56 : Fits Try.prog 56 1 [(0, [1], []), (1, [1, 4], []), (2, [1, 4, 5], []), (3, [2], []), (4, [1, 4, 21], []), (5, [2], []), (6, [1, 4, 32], []), (7, [2], []), (8, [1, 4, 43], []), (9, [1, 4, 43], []), (10, [2], []), (11, [1, 4, 55], []), (12, [2], []), (13, [1, 4, 66], []), (14, [1, 66], []), (15, [2], []), (16, [2], [])] ir56 [.t 2] 78 :=
  ⟨Try.f56, _, rfl, rfl, rfl, by decide, by kernel_rfl, by kernel_rfl⟩

/- 57 (*sloth/slothref21.Arena).places (2) -/
def ir57L1 : IR := .seq (.seq (.reg false [.r (some 6) (.mv (.t 5)),
    .r (some 7) (.mv (.t 1)),
    .r (some 8) (.len (.t 7)),
    .r (some 9) (.bi .lss (.t 6) (.t 8))] [0, 1, 5, 9]) <|
  .cond (.t 9) (.skip) ((.exit 0))) <|
  .seq (.block 1 (.seq (.reg true [.r (some 12) (.mv (.t 1)),
    .r (some 13) (.mv (.t 5)),
    .r (some 14) (.ia 1 (.t 12) (.t 13)),
    .r (some 15) (.l1 (.t 14)),
    .r (some 16) (.bi .lss (.t 15) (.c (.int .i64 0))),
    .r (some 17) (.mv (.t 16)),
    .gr 17 false (some 18) (.mv (.t 1)),
    .gr 17 false (some 19) (.mv (.t 5)),
    .gr 17 false (some 20) (.ia 1 (.t 18) (.t 19)),
    .gr 17 false (some 21) (.l1 (.t 20)),
    .gr 17 false (some 22) (.mv (.t 0)),
    .gr 17 false (some 23) (.nn (.t 22)),
    .gr 17 false (some 24) (.fa 2 (.t 23)),
    .gr 17 false (some 25) (.l1 (.t 24)),
    .gr 17 false (some 26) (.len (.t 25)),
    .gr 17 false (some 27) (.bi .geq (.t 21) (.t 26)),
    .r (some 28) (.pk (.t 17) (.c (.bool true)) (.t 27))] [0, 1, 5, 28]) <|
  .cond (.t 28) (.seq (.reg false [.r (some 4) (.mv (.c (.bool false)))] [4]) <|
  .ret) (.skip))) <|
  .reg false [.r (some 10) (.mv (.t 5)),
    .r (some 11) (.bi .add (.t 10) (.c (.int .i64 1))),
    .r (some 5) (.mv (.t 11))] [0, 1, 5]
def ir57 : IR := .seq (.reg false [.r (some 4) (.mv (.c (.bool false)))] [0, 1]) <|
  .seq (.seq (.reg false [.r (some 5) (.mv (.c (.int .i64 0)))] [0, 1, 5]) <|
  .block 0 (.loop ir57L1)) <|
  .seq (.reg false [.r (some 4) (.mv (.c (.bool true)))] [4]) <|
  .ret
theorem fit57 : Fits Try.prog 57 2 [(0, [0, 1], []), (1, [0, 1, 5], []), (2, [0, 1, 5, 9], []), (3, [0, 1, 5], []), (4, [0, 1, 5, 28], [0, 0, 3, 7, 15, 31, 63, 63, 255, 511, 63, 1087, 3135, 7231, 15423, 32767, 65535]), (5, [4], []), (6, [4], [])] ir57 [.t 4] 29 :=
  ⟨Try.f57, _, rfl, rfl, rfl, by decide, by kernel_rfl, by kernel_rfl⟩

/- 58 sloth/slothref21.copied (1) -/
def ir58 : IR := .seq (.reg false [.r (some 2) (.mv (.c (.slice none 0 0)))] [0]) <|
  .seq (.reg false [.r (some 3) (.mv (.c (.slice none 0 0)))] [0, 3]) <|
  .seq (.reg false [.r (some 4) (.mv (.t 3)),
    .r (some 5) (.mv (.t 0)),
    .e (some 6) (.ap 3 1 8 #[(.int .i64 0)] (.t 4) (.t 5)),
    .r (some 2) (.mv (.t 6))] [2]) <|
  .ret
theorem fit58 : Fits Try.prog 58 1 [(0, [0], []), (1, [0, 3], []), (2, [2], [])] ir58 [.t 2] 7 :=
  ⟨Try.f58, _, rfl, rfl, rfl, by decide, by kernel_rfl, by kernel_rfl⟩

/- 59 (*sloth/slothref21.Arena).begun (2) -/
def ir59L1 : IR := .seq (.seq (.reg false [.r (some 11) (.mv (.t 6)),
    .r (some 12) (.mv (.t 0)),
    .r (some 13) (.nn (.t 12)),
    .r (some 14) (.fa 2 (.t 13)),
    .r (some 15) (.l1 (.t 14)),
    .r (some 16) (.len (.t 15)),
    .r (some 17) (.bi .lss (.t 11) (.t 16))] [0, 5, 6, 17]) <|
  .cond (.t 17) (.skip) ((.exit 0))) <|
  .seq (.block 1 (.reg false [.r (some 20) (.mv (.t 5)),
    .r (some 21) (.mv (.t 5)),
    .r (some 22) (.nn (.t 21)),
    .r (some 23) (.fa 1 (.t 22)),
    .r (some 24) (.l1 (.t 23)),
    .e (some 25) (.bs 3 1 #[(.int .i64 0)] [(0, 1, (.c (.int .i64 (-1))))]),
    .e (some 26) (.ap 3 1 8 #[(.int .i64 0)] (.t 24) (.t 25)),
    .r (some 27) (.nn (.t 20)),
    .r (some 28) (.fa 1 (.t 27)),
    .e none (.st 1 (.t 28) (.t 26))] [0, 5, 6])) <|
  .reg false [.r (some 18) (.mv (.t 6)),
    .r (some 19) (.bi .add (.t 18) (.c (.int .i64 1))),
    .r (some 6) (.mv (.t 19))] [0, 5, 6]
def ir59 : IR := .seq (.reg false [.r (some 4) (.mv (.c (.pointer none)))] [0, 1]) <|
  .seq (.reg false [.r (some 7) (.mv (.t 1)),
    .r (some 8) (.mv (.t 1)),
    .r (some 9) (.bd #[(.int .i64 0), (.slice none 0 0), (.slice none 0 0), (.int .i64 0)] [(0, 1, (.t 7)), (3, 1, (.t 8))]),
    .e (some 10) (.bx 114 (.t 9)),
    .r (some 5) (.mv (.t 10))] [0, 5]) <|
  .seq (.seq (.reg false [.r (some 6) (.mv (.c (.int .i64 0)))] [0, 5, 6]) <|
  .block 0 (.loop ir59L1)) <|
  .seq (.reg false [.r (some 29) (.mv (.t 5)),
    .r (some 4) (.mv (.t 29))] [4]) <|
  .ret
theorem fit59 : Fits Try.prog 59 2 [(0, [0, 1], []), (1, [0, 5], []), (2, [0, 5, 6], []), (3, [0, 5, 6, 17], []), (4, [0, 5, 6], []), (5, [0, 5, 6], []), (6, [4], [])] ir59 [.t 4] 30 :=
  ⟨Try.f59, _, rfl, rfl, rfl, by decide, by kernel_rfl, by kernel_rfl⟩

/- 60 (*sloth/slothref21.Arena).thing (2) -/
def ir60L1 : IR := .seq (.seq (.reg false [.r (some 8) (.mv (.t 5)),
    .r (some 9) (.mv (.t 0)),
    .r (some 10) (.nn (.t 9)),
    .r (some 11) (.fa 2 (.t 10)),
    .r (some 12) (.l1 (.t 11)),
    .r (some 13) (.len (.t 12)),
    .r (some 14) (.bi .leq (.t 8) (.t 13))] [0, 1, 5, 14]) <|
  .cond (.t 14) (.skip) ((.exit 0))) <|
  .seq (.block 1 (.seq (.seq (.reg false [.r (some 17) (.mv (.t 0)),
    .r (some 18) (.nn (.t 17)),
    .r (some 19) (.fa 2 (.t 18)),
    .r (some 20) (.l1 (.t 19)),
    .r (some 21) (.mv (.t 1)),
    .r (some 22) (.ia 3 (.t 20) (.t 21)),
    .r (some 23) (.fa 0 (.t 22)),
    .r (some 24) (.l1 (.t 23)),
    .r (some 25) (.bi .neq (.t 24) (.c (.int .i64 5)))] [0, 1, 5, 25]) <|
  .cond (.t 25) (.seq (.reg false [.r (some 26) (.mv (.t 1)),
    .r (some 4) (.mv (.t 26))] [4]) <|
  .ret) (.skip)) <|
  .reg false [.r (some 27) (.mv (.t 0)),
    .r (some 28) (.nn (.t 27)),
    .r (some 29) (.fa 2 (.t 28)),
    .r (some 30) (.l1 (.t 29)),
    .r (some 31) (.mv (.t 1)),
    .r (some 32) (.ia 3 (.t 30) (.t 31)),
    .r (some 33) (.fa 2 (.t 32)),
    .r (some 34) (.l1 (.t 33)),
    .r (some 35) (.ia 1 (.t 34) (.c (.int .i64 0))),
    .r (some 36) (.l1 (.t 35)),
    .r (some 1) (.mv (.t 36))] [0, 1, 5])) <|
  .reg false [.r (some 15) (.mv (.t 5)),
    .r (some 16) (.bi .add (.t 15) (.c (.int .i64 1))),
    .r (some 5) (.mv (.t 16))] [0, 1, 5]
def ir60L2 : IR := .seq (.seq (.reg false [.r (some 48) (.mv (.t 7)),
    .r (some 49) (.mv (.t 1)),
    .r (some 50) (.bi .neq (.t 48) (.t 49))] [0, 1, 6, 7, 50]) <|
  .cond (.t 50) (.skip) ((.exit 2))) <|
  .block 3 (.seq (.reg false [.r (some 51) (.mv (.t 6)),
    .r (some 52) (.mv (.t 7)),
    .r (some 53) (.mm false (.t 51) (.t 52)),
    .r (some 6) (.mv (.t 53))] [0, 1, 6, 7]) <|
  .reg false [.r (some 54) (.mv (.t 0)),
    .r (some 55) (.nn (.t 54)),
    .r (some 56) (.fa 2 (.t 55)),
    .r (some 57) (.l1 (.t 56)),
    .r (some 58) (.mv (.t 7)),
    .r (some 59) (.ia 3 (.t 57) (.t 58)),
    .r (some 60) (.fa 2 (.t 59)),
    .r (some 61) (.l1 (.t 60)),
    .r (some 62) (.ia 1 (.t 61) (.c (.int .i64 0))),
    .r (some 63) (.l1 (.t 62)),
    .r (some 7) (.mv (.t 63))] [0, 1, 6, 7])
def ir60 : IR := .seq (.reg false [.r (some 4) (.mv (.c (.int .i64 0)))] [0, 1]) <|
  .seq (.seq (.reg false [.r (some 5) (.mv (.c (.int .i64 0)))] [0, 1, 5]) <|
  .block 0 (.loop ir60L1)) <|
  .seq (.reg false [.r (some 37) (.mv (.t 1)),
    .r (some 6) (.mv (.t 37))] [0, 1, 6]) <|
  .seq (.reg false [.r (some 38) (.mv (.t 0)),
    .r (some 39) (.nn (.t 38)),
    .r (some 40) (.fa 2 (.t 39)),
    .r (some 41) (.l1 (.t 40)),
    .r (some 42) (.mv (.t 1)),
    .r (some 43) (.ia 3 (.t 41) (.t 42)),
    .r (some 44) (.fa 2 (.t 43)),
    .r (some 45) (.l1 (.t 44)),
    .r (some 46) (.ia 1 (.t 45) (.c (.int .i64 0))),
    .r (some 47) (.l1 (.t 46)),
    .r (some 7) (.mv (.t 47))] [0, 1, 6, 7]) <|
  .seq (.block 2 (.loop ir60L2)) <|
  .seq (.reg false [.r (some 64) (.mv (.t 6)),
    .r (some 4) (.mv (.t 64))] [4]) <|
  .ret
theorem fit60 : Fits Try.prog 60 2 [(0, [0, 1], []), (1, [0, 1, 5], []), (2, [0, 1, 5, 14], []), (3, [0, 1, 5], []), (4, [0, 1, 5, 25], []), (5, [4], []), (6, [0, 1, 5], []), (7, [0, 1, 6], []), (8, [0, 1, 6, 7], []), (9, [0, 1, 6, 7, 50], []), (10, [0, 1, 6, 7], []), (11, [0, 1, 6, 7], []), (12, [4], [])] ir60 [.t 4] 65 :=
  ⟨Try.f60, _, rfl, rfl, rfl, by decide, by kernel_rfl, by kernel_rfl⟩

/- 61 (*sloth/slothref21.met).meet (2) -/
def ir61 : IR := .seq (.reg false [.r (some 4) (.mv (.c (.int .i64 0)))] [0, 1]) <|
  .seq (.seq (.reg false [.r (some 5) (.mv (.t 1)),
    .r (some 6) (.mv (.t 0)),
    .r (some 7) (.nn (.t 6)),
    .r (some 8) (.fa 3 (.t 7)),
    .r (some 9) (.l1 (.t 8)),
    .r (some 10) (.bi .lss (.t 5) (.t 9))] [0, 1, 10]) <|
  .cond (.t 10) (.seq (.reg false [.r (some 11) (.mv (.t 1)),
    .r (some 4) (.mv (.t 11))] [4]) <|
  .ret) (.skip)) <|
  .seq (.seq (.reg false [.r (some 12) (.mv (.t 0)),
    .r (some 13) (.nn (.t 12)),
    .r (some 14) (.fa 1 (.t 13)),
    .r (some 15) (.l1 (.t 14)),
    .r (some 16) (.mv (.t 1)),
    .r (some 17) (.ia 1 (.t 15) (.t 16)),
    .r (some 18) (.l1 (.t 17)),
    .r (some 19) (.bi .lss (.t 18) (.c (.int .i64 0)))] [0, 1, 19]) <|
  .cond (.t 19) (.seq (.reg true [.r (some 20) (.mv (.t 0)),
    .r (some 21) (.nn (.t 20)),
    .r (some 22) (.fa 1 (.t 21)),
    .r (some 23) (.l1 (.t 22)),
    .r (some 24) (.mv (.t 1)),
    .r (some 25) (.mv (.t 0)),
    .r (some 26) (.nn (.t 25)),
    .r (some 27) (.fa 0 (.t 26)),
    .r (some 28) (.l1 (.t 27)),
    .r (some 29) (.mv (.t 0)),
    .r (some 30) (.nn (.t 29)),
    .r (some 31) (.fa 2 (.t 30)),
    .r (some 32) (.l1 (.t 31)),
    .r (some 33) (.len (.t 32)),
    .r (some 34) (.bi .add (.t 28) (.t 33)),
    .r (some 35) (.ia 1 (.t 23) (.t 24)),
    .e none (.st 1 (.t 35) (.t 34))] [0, 1]) <|
  .reg false [.r (some 36) (.mv (.t 0)),
    .r (some 37) (.mv (.t 0)),
    .r (some 38) (.nn (.t 37)),
    .r (some 39) (.fa 2 (.t 38)),
    .r (some 40) (.l1 (.t 39)),
    .r (some 41) (.mv (.t 1)),
    .e (some 42) (.bs 3 1 #[(.int .i64 0)] [(0, 1, (.t 41))]),
    .e (some 43) (.ap 3 1 8 #[(.int .i64 0)] (.t 40) (.t 42)),
    .r (some 44) (.nn (.t 36)),
    .r (some 45) (.fa 2 (.t 44)),
    .e none (.st 1 (.t 45) (.t 43))] [0, 1]) (.skip)) <|
  .seq (.reg false [.r (some 46) (.mv (.t 0)),
    .r (some 47) (.nn (.t 46)),
    .r (some 48) (.fa 1 (.t 47)),
    .r (some 49) (.l1 (.t 48)),
    .r (some 50) (.mv (.t 1)),
    .r (some 51) (.ia 1 (.t 49) (.t 50)),
    .r (some 52) (.l1 (.t 51)),
    .r (some 4) (.mv (.t 52))] [4]) <|
  .ret
theorem fit61 : Fits Try.prog 61 2 [(0, [0, 1], []), (1, [0, 1, 10], []), (2, [4], []), (3, [0, 1, 19], []), (4, [0, 1], [0, 1, 3, 7, 0, 0, 32, 96, 224, 0, 512, 1536, 3584, 7680, 16352, 32767, 65535]), (5, [0, 1], []), (6, [4], [])] ir61 [.t 4] 53 :=
  ⟨Try.f61, _, rfl, rfl, rfl, by decide, by kernel_rfl, by kernel_rfl⟩

/- 62 (*sloth/slothref21.Arena).gather (2) -/
def ir62L1 : IR := .seq (.seq (.reg false [.r (some 39) (.mv (.t 9)),
    .r (some 40) (.fa 2 (.t 7)),
    .r (some 41) (.l1 (.t 40)),
    .r (some 42) (.len (.t 41)),
    .r (some 43) (.bi .lss (.t 39) (.t 42))] [0, 1, 5, 6, 7, 8, 9, 43]) <|
  .cond (.t 43) (.skip) ((.exit 2))) <|
  .seq (.block 3 (.seq (.reg false [.r (some 46) (.mv (.t 0)),
    .r (some 47) (.fa 2 (.t 7)),
    .r (some 48) (.l1 (.t 47)),
    .r (some 49) (.mv (.t 9)),
    .r (some 50) (.ia 1 (.t 48) (.t 49)),
    .r (some 51) (.l1 (.t 50)),
    .e (some 52) (.call 60 [(.t 46), (.t 51)]),
    .r (some 10) (.mv (.t 52))] [0, 1, 5, 6, 7, 8, 9, 10]) <|
  .seq (.reg false [.r (some 53) (.mv (.t 1)),
    .r (some 54) (.mv (.t 10)),
    .e (some 55) (.call 61 [(.t 53), (.t 54)]),
    .r (some 11) (.mv (.t 55))] [0, 1, 5, 6, 7, 8, 9, 11]) <|
  .reg false [.r (some 56) (.fa 2 (.t 8)),
    .r (some 57) (.l1 (.t 56)),
    .r (some 58) (.mv (.t 11)),
    .e (some 59) (.bs 3 1 #[(.int .i64 0)] [(0, 1, (.t 58))]),
    .e (some 60) (.ap 3 1 8 #[(.int .i64 0)] (.t 57) (.t 59)),
    .r (some 61) (.fa 2 (.t 8)),
    .e none (.st 1 (.t 61) (.t 60))] [0, 1, 5, 6, 7, 8, 9])) <|
  .reg false [.r (some 44) (.mv (.t 9)),
    .r (some 45) (.bi .add (.t 44) (.c (.int .i64 1))),
    .r (some 9) (.mv (.t 45))] [0, 1, 5, 6, 7, 8, 9]
def ir62L2 : IR := .seq (.seq (.reg false [.r (some 12) (.mv (.t 6)),
    .r (some 13) (.mv (.t 1)),
    .r (some 14) (.nn (.t 13)),
    .r (some 15) (.fa 2 (.t 14)),
    .r (some 16) (.l1 (.t 15)),
    .r (some 17) (.len (.t 16)),
    .r (some 18) (.bi .lss (.t 12) (.t 17))] [0, 1, 5, 6, 18]) <|
  .cond (.t 18) (.skip) ((.exit 0))) <|
  .seq (.block 1 (.seq (.dr (.r 0 none (some 21) (.mv (.t 0)) <|
    .r 1 none (some 22) (.nn (.t 21)) <|
    .r 2 none (some 23) (.fa 2 (.t 22)) <|
    .r 3 none (some 24) (.l1 (.t 23)) <|
    .r 4 none (some 25) (.mv (.t 1)) <|
    .r 5 none (some 26) (.nn (.t 25)) <|
    .r 6 none (some 27) (.fa 2 (.t 26)) <|
    .r 7 none (some 28) (.l1 (.t 27)) <|
    .r 8 none (some 29) (.mv (.t 6)) <|
    .r 9 none (some 30) (.ia 1 (.t 28) (.t 29)) <|
    .r 10 none (some 31) (.l1 (.t 30)) <|
    .r 11 none (some 32) (.ia 3 (.t 24) (.t 31)) <|
    .r 12 none (some 33) (.ln 3 (.t 32)) <|
    .e 13 none (some 7) (.al 38 (.agg #[(.int .i64 0), (.int .i64 0), (.slice none 0 0)])) [3, 7, 10, 12] <|
    .e 14 none none (.st 3 (.t 7) (.t 33)) [] <|
    .nil) [0, 1, 5, 6, 7]) <|
  .seq (.reg false [.r (some 34) (.fa 0 (.t 7)),
    .r (some 35) (.l1 (.t 34)),
    .r (some 36) (.fa 1 (.t 7)),
    .r (some 37) (.l1 (.t 36)),
    .r (some 38) (.bd #[(.int .i64 0), (.int .i64 0), (.slice none 0 0)] [(0, 1, (.t 35)), (1, 1, (.t 37))]),
    .e (some 8) (.al 38 (.agg #[(.int .i64 0), (.int .i64 0), (.slice none 0 0)])),
    .e none (.st 3 (.t 8) (.t 38))] [0, 1, 5, 6, 7, 8]) <|
  .seq (.seq (.reg false [.r (some 9) (.mv (.c (.int .i64 0)))] [0, 1, 5, 6, 7, 8, 9]) <|
  .block 2 (.loop ir62L1)) <|
  .reg false [.r (some 62) (.mv (.t 5)),
    .r (some 63) (.ln 3 (.t 8)),
    .e (some 64) (.bs 38 1 #[(.int .i64 0), (.int .i64 0), (.slice none 0 0)] [(0, 3, (.t 63))]),
    .e (some 65) (.ap 38 3 40 #[(.int .i64 0), (.int .i64 0), (.slice none 0 0)] (.t 62) (.t 64)),
    .r (some 5) (.mv (.t 65))] [0, 1, 5, 6])) <|
  .reg false [.r (some 19) (.mv (.t 6)),
    .r (some 20) (.bi .add (.t 19) (.c (.int .i64 1))),
    .r (some 6) (.mv (.t 20))] [0, 1, 5, 6]
def ir62 : IR := .seq (.reg false [.r (some 4) (.mv (.c (.slice none 0 0)))] [0, 1]) <|
  .seq (.reg false [.r (some 5) (.mv (.c (.slice none 0 0)))] [0, 1, 5]) <|
  .seq (.seq (.reg false [.r (some 6) (.mv (.c (.int .i64 0)))] [0, 1, 5, 6]) <|
  .block 0 (.loop ir62L2)) <|
  .seq (.reg false [.r (some 66) (.mv (.t 5)),
    .r (some 4) (.mv (.t 66))] [4]) <|
  .ret
theorem fit62 : Fits Try.prog 62 2 [(0, [0, 1], []), (1, [0, 1, 5], []), (2, [0, 1, 5, 6], []), (3, [0, 1, 5, 6, 18], []), (4, [0, 1, 5, 6], []), (5, [0, 1, 5, 6, 7], [0, 1, 3, 7, 0, 16, 48, 112, 0, 496, 1008, 2047, 4095, 0, 16383]), (6, [0, 1, 5, 6, 7, 8], []), (7, [0, 1, 5, 6, 7, 8, 9], []), (8, [0, 1, 5, 6, 7, 8, 9, 43], []), (9, [0, 1, 5, 6, 7, 8, 9], []), (10, [0, 1, 5, 6, 7, 8, 9, 10], []), (11, [0, 1, 5, 6, 7, 8, 9, 11], []), (12, [0, 1, 5, 6, 7, 8, 9], []), (13, [0, 1, 5, 6], []), (14, [4], [])] ir62 [.t 4] 67 :=
  ⟨Try.f62, _, rfl, rfl, rfl, by decide, by kernel_rfl, by kernel_rfl⟩

/- 63 (*sloth/slothref21.Arena).small (2) -/
def ir63L1 : IR := .seq (.seq (.reg false [.r (some 31) (.mv (.t 7)),
    .r (some 32) (.mv (.t 1)),
    .r (some 33) (.len (.t 32)),
    .r (some 34) (.bi .lss (.t 31) (.t 33))] [0, 1, 5, 6, 7, 34]) <|
  .cond (.t 34) (.skip) ((.exit 0))) <|
  .seq (.block 1 (.seq (.reg false [.r (some 37) (.mv (.t 0)),
    .r (some 38) (.mv (.t 1)),
    .r (some 39) (.mv (.t 7)),
    .r (some 40) (.ia 1 (.t 38) (.t 39)),
    .r (some 41) (.l1 (.t 40)),
    .e (some 42) (.call 60 [(.t 37), (.t 41)]),
    .r (some 8) (.mv (.t 42))] [0, 1, 5, 6, 7, 8]) <|
  .seq (.reg false [.r (some 43) (.mv (.t 5)),
    .r (some 44) (.mv (.t 8)),
    .e (some 45) (.call 61 [(.t 43), (.t 44)]),
    .r (some 9) (.mv (.t 45))] [0, 1, 5, 6, 7, 9]) <|
  .reg false [.r (some 46) (.mv (.t 6)),
    .r (some 47) (.mv (.t 9)),
    .e (some 48) (.bs 3 1 #[(.int .i64 0)] [(0, 1, (.t 47))]),
    .e (some 49) (.ap 3 1 8 #[(.int .i64 0)] (.t 46) (.t 48)),
    .r (some 6) (.mv (.t 49))] [0, 1, 5, 6, 7])) <|
  .reg false [.r (some 35) (.mv (.t 7)),
    .r (some 36) (.bi .add (.t 35) (.c (.int .i64 1))),
    .r (some 7) (.mv (.t 36))] [0, 1, 5, 6, 7]
def ir63L2 : IR := .seq (.seq (.reg false [.r (some 69) (.mv (.t 13)),
    .r (some 70) (.fa 2 (.t 12)),
    .r (some 71) (.l1 (.t 70)),
    .r (some 72) (.len (.t 71)),
    .r (some 73) (.bi .lss (.t 69) (.t 72))] [0, 5, 6, 10, 11, 12, 13, 73]) <|
  .cond (.t 73) (.skip) ((.exit 4))) <|
  .seq (.block 5 (.seq (.reg true [.r (some 76) (.fa 2 (.t 12)),
    .r (some 77) (.l1 (.t 76)),
    .r (some 78) (.mv (.t 13)),
    .r (some 79) (.ia 1 (.t 77) (.t 78)),
    .r (some 80) (.l1 (.t 79)),
    .r (some 81) (.mv (.t 0)),
    .r (some 82) (.nn (.t 81)),
    .r (some 83) (.fa 3 (.t 82)),
    .r (some 84) (.l1 (.t 83)),
    .r (some 85) (.bi .geq (.t 80) (.t 84))] [0, 5, 6, 10, 11, 12, 13, 85]) <|
  .cond (.t 85) (.seq (.reg false [.r (some 86) (.mv (.t 0)),
    .r (some 87) (.fa 2 (.t 12)),
    .r (some 88) (.l1 (.t 87)),
    .r (some 89) (.mv (.t 13)),
    .r (some 90) (.ia 1 (.t 88) (.t 89)),
    .r (some 91) (.l1 (.t 90)),
    .e (some 92) (.call 60 [(.t 86), (.t 91)]),
    .r (some 14) (.mv (.t 92))] [0, 5, 6, 10, 11, 12, 13, 14]) <|
  .seq (.reg false [.r (some 93) (.mv (.t 5)),
    .r (some 94) (.mv (.t 14)),
    .e (some 95) (.call 61 [(.t 93), (.t 94)]),
    .r (some 15) (.mv (.t 95))] [0, 5, 6, 10, 11, 12, 13, 15]) <|
  .reg false [.r (some 96) (.fa 2 (.t 12)),
    .r (some 97) (.l1 (.t 96)),
    .r (some 98) (.mv (.t 13)),
    .r (some 99) (.mv (.t 15)),
    .r (some 100) (.ia 1 (.t 97) (.t 98)),
    .e none (.st 1 (.t 100) (.t 99))] [0, 5, 6, 10, 11, 12, 13]) (.skip))) <|
  .reg false [.r (some 74) (.mv (.t 13)),
    .r (some 75) (.bi .add (.t 74) (.c (.int .i64 1))),
    .r (some 13) (.mv (.t 75))] [0, 5, 6, 10, 11, 12, 13]
def ir63L3 : IR := .seq (.seq (.reg false [.r (some 50) (.mv (.t 11)),
    .r (some 51) (.mv (.t 0)),
    .r (some 52) (.nn (.t 51)),
    .r (some 53) (.fa 3 (.t 52)),
    .r (some 54) (.l1 (.t 53)),
    .r (some 55) (.bi .lss (.t 50) (.t 54))] [0, 5, 6, 10, 11, 55]) <|
  .cond (.t 55) (.skip) ((.exit 2))) <|
  .seq (.block 3 (.seq (.reg false [.r (some 58) (.mv (.t 0)),
    .r (some 59) (.nn (.t 58)),
    .r (some 60) (.fa 2 (.t 59)),
    .r (some 61) (.l1 (.t 60)),
    .r (some 62) (.mv (.t 11)),
    .r (some 63) (.ia 3 (.t 61) (.t 62)),
    .r (some 64) (.ln 3 (.t 63)),
    .e (some 12) (.al 38 (.agg #[(.int .i64 0), (.int .i64 0), (.slice none 0 0)])),
    .e none (.st 3 (.t 12) (.t 64))] [0, 5, 6, 10, 11, 12]) <|
  .seq (.reg false [.r (some 65) (.fa 2 (.t 12)),
    .r (some 66) (.l1 (.t 65)),
    .e (some 67) (.call 58 [(.t 66)]),
    .r (some 68) (.fa 2 (.t 12)),
    .e none (.st 1 (.t 68) (.t 67))] [0, 5, 6, 10, 11, 12]) <|
  .seq (.seq (.reg false [.r (some 13) (.mv (.c (.int .i64 0)))] [0, 5, 6, 10, 11, 12, 13]) <|
  .block 4 (.loop ir63L2)) <|
  .seq (.seq (.reg false [.r (some 101) (.fa 0 (.t 12)),
    .r (some 102) (.l1 (.t 101)),
    .r (some 103) (.bi .eql (.t 102) (.c (.int .i64 5)))] [0, 5, 6, 10, 11, 12, 103]) <|
  .cond (.t 103) (.seq (.reg false [.r (some 104) (.mv (.t 0)),
    .r (some 105) (.mv (.t 11)),
    .e (some 106) (.call 60 [(.t 104), (.t 105)]),
    .r (some 16) (.mv (.t 106))] [0, 5, 6, 10, 11, 12, 16]) <|
  .seq (.reg false [.r (some 107) (.mv (.t 16)),
    .r (some 108) (.mv (.t 11)),
    .r (some 109) (.bi .eql (.t 107) (.t 108))] [0, 5, 6, 10, 11, 12, 109]) <|
  .cond (.t 109) (.reg false [.r (some 110) (.fa 2 (.t 12)),
    .r (some 111) (.l1 (.t 110)),
    .r (some 112) (.mv (.t 11)),
    .r (some 113) (.ia 1 (.t 111) (.c (.int .i64 0))),
    .e none (.st 1 (.t 113) (.t 112))] [0, 5, 6, 10, 11, 12]) (.skip)) (.skip)) <|
  .reg false [.r (some 114) (.mv (.t 10)),
    .r (some 115) (.ln 3 (.t 12)),
    .e (some 116) (.bs 38 1 #[(.int .i64 0), (.int .i64 0), (.slice none 0 0)] [(0, 3, (.t 115))]),
    .e (some 117) (.ap 38 3 40 #[(.int .i64 0), (.int .i64 0), (.slice none 0 0)] (.t 114) (.t 116)),
    .r (some 10) (.mv (.t 117))] [0, 5, 6, 10, 11])) <|
  .reg false [.r (some 56) (.mv (.t 11)),
    .r (some 57) (.bi .add (.t 56) (.c (.int .i64 1))),
    .r (some 11) (.mv (.t 57))] [0, 5, 6, 10, 11]
def ir63 : IR := .seq (.reg false [.r (some 4) (.mv (.c (.slice none 0 0)))] [0, 1]) <|
  .seq (.reg false [.r (some 18) (.mv (.t 0)),
    .r (some 19) (.nn (.t 18)),
    .r (some 20) (.fa 4 (.t 19)),
    .r (some 21) (.l1 (.t 20)),
    .r (some 22) (.bi .add (.t 21) (.c (.int .i64 1))),
    .r (some 23) (.nn (.t 18)),
    .r (some 24) (.fa 4 (.t 23)),
    .e none (.st 1 (.t 24) (.t 22))] [0, 1]) <|
  .seq (.reg false [.r (some 25) (.mv (.t 0)),
    .r (some 26) (.mv (.t 0)),
    .r (some 27) (.nn (.t 26)),
    .r (some 28) (.fa 3 (.t 27)),
    .r (some 29) (.l1 (.t 28)),
    .e (some 30) (.call 59 [(.t 25), (.t 29)]),
    .r (some 5) (.mv (.t 30))] [0, 1, 5]) <|
  .seq (.reg false [.r (some 6) (.mv (.c (.slice none 0 0)))] [0, 1, 5, 6]) <|
  .seq (.seq (.reg false [.r (some 7) (.mv (.c (.int .i64 0)))] [0, 1, 5, 6, 7]) <|
  .block 0 (.loop ir63L1)) <|
  .seq (.reg false [.r (some 10) (.mv (.c (.slice none 0 0)))] [0, 5, 6, 10]) <|
  .seq (.seq (.reg false [.r (some 11) (.mv (.c (.int .i64 0)))] [0, 5, 6, 10, 11]) <|
  .block 2 (.loop ir63L3)) <|
  .seq (.reg false [.r (some 118) (.mv (.t 0)),
    .r (some 119) (.mv (.t 5)),
    .e (some 120) (.call 62 [(.t 118), (.t 119)]),
    .r (some 17) (.mv (.t 120))] [0, 6, 10, 17]) <|
  .seq (.reg false [.r (some 121) (.mv (.t 0)),
    .r (some 122) (.mv (.t 10)),
    .r (some 123) (.mv (.t 17)),
    .e (some 124) (.ap 38 3 40 #[(.int .i64 0), (.int .i64 0), (.slice none 0 0)] (.t 122) (.t 123)),
    .r (some 125) (.nn (.t 121)),
    .r (some 126) (.fa 2 (.t 125)),
    .e none (.st 1 (.t 126) (.t 124))] [0, 6]) <|
  .seq (.reg false [.r (some 127) (.mv (.t 0)),
    .r (some 128) (.mv (.t 0)),
    .r (some 129) (.nn (.t 128)),
    .r (some 130) (.fa 2 (.t 129)),
    .r (some 131) (.l1 (.t 130)),
    .r (some 132) (.len (.t 131)),
    .r (some 133) (.nn (.t 127)),
    .r (some 134) (.fa 3 (.t 133)),
    .e none (.st 1 (.t 134) (.t 132))] [6]) <|
  .seq (.reg false [.r (some 135) (.mv (.t 6)),
    .r (some 4) (.mv (.t 135))] [4]) <|
  .ret
theorem fit63 : Fits Try.prog 63 2 [(0, [0, 1], []), (1, [0, 1], []), (2, [0, 1, 5], []), (3, [0, 1, 5, 6], []), (4, [0, 1, 5, 6, 7], []), (5, [0, 1, 5, 6, 7, 34], []), (6, [0, 1, 5, 6, 7], []), (7, [0, 1, 5, 6, 7, 8], []), (8, [0, 1, 5, 6, 7, 9], []), (9, [0, 1, 5, 6, 7], []), (10, [0, 5, 6, 10], []), (11, [0, 5, 6, 10, 11], []), (12, [0, 5, 6, 10, 11, 55], []), (13, [0, 5, 6, 10, 11], []), (14, [0, 5, 6, 10, 11, 12], []), (15, [0, 5, 6, 10, 11, 12], []), (16, [0, 5, 6, 10, 11, 12, 13], []), (17, [0, 5, 6, 10, 11, 12, 13, 73], []), (18, [0, 5, 6, 10, 11, 12, 13], []), (19, [0, 5, 6, 10, 11, 12, 13, 85], [0, 1, 0, 7, 15, 0, 32, 96, 224, 511]), (20, [0, 5, 6, 10, 11, 12, 13, 14], []), (21, [0, 5, 6, 10, 11, 12, 13, 15], []), (22, [0, 5, 6, 10, 11, 12, 13], []), (23, [0, 5, 6, 10, 11, 12, 103], []), (24, [0, 5, 6, 10, 11, 12, 16], []), (25, [0, 5, 6, 10, 11, 12, 109], []), (26, [0, 5, 6, 10, 11, 12], []), (27, [0, 5, 6, 10, 11], []), (28, [0, 6, 10, 17], []), (29, [0, 6], []), (30, [6], []), (31, [4], [])] ir63 [.t 4] 136 :=
  ⟨Try.f63, _, rfl, rfl, rfl, by decide, by kernel_rfl, by kernel_rfl⟩

/- 64 (*sloth/gens.Arena).places$1 (1) -/
def ir64 : IR := .seq (.reg false [.r (some 3) (.mv (.c (.bool false)))] [0, 1]) <|
  .seq (.reg false [.r (some 4) (.mv (.t 0)),
    .r (some 5) (.bi .lss (.t 4) (.c (.int .i64 0))),
    .r (some 6) (.mv (.t 5)),
    .gr 6 false (some 7) (.mv (.t 0)),
    .gr 6 false (some 8) (.l1 (.t 1)),
    .gr 6 false (some 9) (.nn (.t 8)),
    .gr 6 false (some 10) (.fa 2 (.t 9)),
    .gr 6 false (some 11) (.l1 (.t 10)),
    .gr 6 false (some 12) (.len (.t 11)),
    .gr 6 false (some 13) (.bi .geq (.t 7) (.t 12)),
    .r (some 14) (.pk (.t 6) (.c (.bool true)) (.t 13)),
    .r (some 3) (.mv (.t 14))] [3]) <|
  .ret
theorem fit64 : Fits Try.prog 64 2 [(0, [0, 1], []), (1, [3], [])] ir64 [.t 3] 15 :=
  ⟨Try.f64, _, rfl, rfl, rfl, by decide, by kernel_rfl, by kernel_rfl⟩

/- 65 sloth/heap.copied (1) -/
def ir65 : IR := .seq (.reg false [.r (some 2) (.mv (.c (.slice none 0 0)))] [0]) <|
  .seq (.reg false [.r (some 4) (.mv (.t 0)),
    .r (some 5) (.len (.t 4)),
    .e (some 6) (.ms 3 1 8 #[(.int .i64 0)] (.t 5) (.t 5)),
    .r (some 3) (.mv (.t 6))] [0, 3]) <|
  .seq (.reg false [.r (some 7) (.mv (.t 3)),
    .r (some 8) (.mv (.t 0)),
    .e (some 9) (.cp 1 (.t 7) (.t 8))] [3]) <|
  .seq (.reg false [.r (some 10) (.mv (.t 3)),
    .r (some 2) (.mv (.t 10))] [2]) <|
  .ret
theorem fit65 : Fits Try.prog 65 1 [(0, [0], []), (1, [0, 3], []), (2, [3], []), (3, [2], [])] ir65 [.t 2] 11 :=
  ⟨Try.f65, _, rfl, rfl, rfl, by decide, by kernel_rfl, by kernel_rfl⟩

/- 66 slices.IndexFunc[[]int,int] (2) -/
def ir66L1 : IR := .seq (.reg false [.r (some 9) (.bi .lss (.t 8) (.t 7))] [0, 1, 7, 8, 9]) <|
  .seq (.cond (.t 9) (.skip) ((.exit 0))) <|
  .seq (.block 1 (.seq (.reg false [.r (some 10) (.mv (.t 8)),
    .r (some 5) (.mv (.t 10))] [0, 1, 5, 7, 8]) <|
  .seq (.reg false [.r (some 11) (.mv (.t 1)),
    .r (some 12) (.mv (.t 0)),
    .r (some 13) (.mv (.t 5)),
    .r (some 14) (.ia 1 (.t 12) (.t 13)),
    .r (some 15) (.l1 (.t 14)),
    .e (some 16) (.raw ⟨(some 16), (.call { callee := (.value (.tmp 11)), args := #[(.tmp 15)], argTypes := #[3] }), 4, "slices.go:109", #[⟨0, .data⟩, ⟨4, .data⟩], none⟩)] [0, 1, 5, 7, 8, 16]) <|
  .cond (.t 16) (.seq (.reg false [.r (some 17) (.mv (.t 5)),
    .r (some 4) (.mv (.t 17))] [4]) <|
  .ret) (.skip))) <|
  .reg false [.r (some 18) (.bi .add (.t 8) (.c (.int .i64 1))),
    .r (some 8) (.mv (.t 18))] [0, 1, 7, 8]
def ir66 : IR := .seq (.reg false [.r (some 4) (.mv (.c (.int .i64 0)))] [0, 1]) <|
  .seq (.seq (.reg false [.r (some 6) (.mv (.t 0)),
    .r (some 7) (.len (.t 6)),
    .r (some 8) (.mv (.c (.int .i64 0)))] [0, 1, 7, 8]) <|
  .block 0 (.loop ir66L1)) <|
  .seq (.reg false [.r (some 4) (.mv (.c (.int .i64 (-1))))] [4]) <|
  .ret
theorem fit66 : Fits Try.prog 66 2 [(0, [0, 1], []), (1, [0, 1, 7, 8], []), (2, [0, 1, 7, 8, 9], []), (3, [0, 1, 5, 7, 8], []), (4, [0, 1, 5, 7, 8, 16], []), (5, [4], []), (6, [0, 1, 7, 8], []), (7, [4], [])] ir66 [.t 4] 19 :=
  ⟨Try.f66, _, rfl, rfl, rfl, by decide, by kernel_rfl, by kernel_rfl⟩

/- 67 (*sloth/heap.mover).move (2) -/
def ir67 : IR := .seq (.reg false [.r (some 4) (.mv (.c (.int .i64 0)))] [0, 1]) <|
  .seq (.reg false [.r (some 5) (.mv (.t 0)),
    .r (some 6) (.mv (.t 1)),
    .e (some 7) (.call 74 [(.t 5), (.t 6)]),
    .r (some 1) (.mv (.t 7))] [0, 1]) <|
  .seq (.seq (.reg false [.r (some 8) (.mv (.t 0)),
    .r (some 9) (.nn (.t 8)),
    .r (some 10) (.fa 3 (.t 9)),
    .r (some 11) (.l1 (.t 10)),
    .r (some 12) (.mv (.t 1)),
    .r (some 13) (.ia 1 (.t 11) (.t 12)),
    .r (some 14) (.l1 (.t 13)),
    .r (some 15) (.bi .eql (.t 14) (.c (.int .i64 0)))] [0, 1, 15]) <|
  .cond (.t 15) (.seq (.dr (.r 0 none (some 16) (.mv (.t 0)) <|
    .r 1 none (some 17) (.mv (.t 0)) <|
    .r 2 none (some 18) (.nn (.t 17)) <|
    .r 3 none (some 19) (.fa 1 (.t 18)) <|
    .r 4 none (some 20) (.l1 (.t 19)) <|
    .r 5 none (some 21) (.mv (.t 0)) <|
    .r 6 none (some 22) (.nn (.t 21)) <|
    .r 7 none (some 23) (.fa 0 (.t 22)) <|
    .r 8 none (some 24) (.l1 (.t 23)) <|
    .r 9 none (some 25) (.mv (.t 1)) <|
    .r 10 none (some 26) (.ia 3 (.t 24) (.t 25)) <|
    .r 11 none (some 27) (.fa 0 (.t 26)) <|
    .r 12 none (some 28) (.ln 2 (.t 27)) <|
    .r 13 none (some 29) (.mv (.t 0)) <|
    .r 14 none (some 30) (.nn (.t 29)) <|
    .r 15 none (some 31) (.fa 0 (.t 30)) <|
    .r 16 none (some 32) (.l1 (.t 31)) <|
    .r 17 none (some 33) (.mv (.t 1)) <|
    .r 18 none (some 34) (.ia 3 (.t 32) (.t 33)) <|
    .r 19 none (some 35) (.fa 2 (.t 34)) <|
    .r 20 none (some 36) (.l1 (.t 35)) <|
    .e 21 none (some 37) (.call 65 [(.t 36)]) [4, 8, 12] <|
    .r 22 none (some 38) (.bd #[(.int .i64 0), (.int .i64 0), (.slice none 0 0)] [(0, 2, (.t 28)), (2, 1, (.t 37))]) <|
    .e 23 none (some 39) (.bs 87 1 #[(.int .i64 0), (.int .i64 0), (.slice none 0 0)] [(0, 3, (.t 38))]) [4] <|
    .e 24 none (some 40) (.ap 87 3 40 #[(.int .i64 0), (.int .i64 0), (.slice none 0 0)] (.t 20) (.t 39)) [] <|
    .r 25 none (some 41) (.nn (.t 16)) <|
    .r 26 none (some 42) (.fa 1 (.t 41)) <|
    .e 27 none none (.st 1 (.t 42) (.t 40)) [] <|
    .nil) [0, 1]) <|
  .reg true [.r (some 43) (.mv (.t 0)),
    .r (some 44) (.nn (.t 43)),
    .r (some 45) (.fa 3 (.t 44)),
    .r (some 46) (.l1 (.t 45)),
    .r (some 47) (.mv (.t 1)),
    .r (some 48) (.mv (.t 0)),
    .r (some 49) (.nn (.t 48)),
    .r (some 50) (.fa 1 (.t 49)),
    .r (some 51) (.l1 (.t 50)),
    .r (some 52) (.len (.t 51)),
    .r (some 53) (.ia 1 (.t 46) (.t 47)),
    .e none (.st 1 (.t 53) (.t 52))] [0, 1]) (.skip)) <|
  .seq (.reg false [.r (some 54) (.mv (.t 0)),
    .r (some 55) (.nn (.t 54)),
    .r (some 56) (.fa 3 (.t 55)),
    .r (some 57) (.l1 (.t 56)),
    .r (some 58) (.mv (.t 1)),
    .r (some 59) (.ia 1 (.t 57) (.t 58)),
    .r (some 60) (.l1 (.t 59)),
    .r (some 61) (.bi .sub (.t 60) (.c (.int .i64 1))),
    .r (some 4) (.mv (.t 61))] [4]) <|
  .ret
theorem fit67 : Fits Try.prog 67 2 [(0, [0, 1], []), (1, [0, 1], []), (2, [0, 1, 15], []), (3, [0, 1], [0, 0, 2, 6, 14, 0, 32, 96, 224, 0, 992, 2016, 4064, 0, 8192, 24576, 57344, 0, 253952, 516096, 1040384, 2088960, 4194272, 8388576, 16777214, 33554431, 67108863, 134217727]), (4, [0, 1], [0, 1, 3, 7, 0, 0, 32, 96, 224, 480, 1023, 2047]), (5, [4], [])] ir67 [.t 4] 62 :=
  ⟨Try.f67, _, rfl, rfl, rfl, by decide, by kernel_rfl, by kernel_rfl⟩

/- 68 (*sloth/gens.Arena).passed (1) -/
def ir68L1 : IR := .seq (.reg false [.r (some 18) (.bi .lss (.t 17) (.t 16))] [0, 2, 3, 16, 17, 18]) <|
  .seq (.cond (.t 18) (.skip) ((.exit 0))) <|
  .seq (.block 1 (.seq (.reg false [.r (some 19) (.mv (.t 17)),
    .r (some 4) (.mv (.t 19))] [0, 2, 3, 4, 16, 17]) <|
  .reg false [.r (some 20) (.fa 0 (.t 3)),
    .r (some 21) (.l1 (.t 20)),
    .r (some 22) (.mv (.t 4)),
    .r (some 23) (.ia 1 (.t 21) (.t 22)),
    .e none (.st 1 (.t 23) (.c (.int .i64 (-1))))] [0, 2, 3, 16, 17])) <|
  .reg false [.r (some 24) (.bi .add (.t 17) (.c (.int .i64 1))),
    .r (some 17) (.mv (.t 24))] [0, 2, 3, 16, 17]
def ir68L2 : IR := .seq (.reg false [.r (some 31) (.bi .lss (.t 30) (.t 29))] [0, 2, 3, 29, 30, 31]) <|
  .seq (.cond (.t 31) (.skip) ((.exit 2))) <|
  .seq (.block 3 (.seq (.reg false [.r (some 32) (.mv (.t 30)),
    .r (some 5) (.mv (.t 32))] [0, 2, 3, 5, 29, 30]) <|
  .reg false [.r (some 33) (.mv (.t 0)),
    .r (some 34) (.mv (.t 5)),
    .r (some 35) (.ln 2 (.t 3)),
    .e (some 36) (.call 75 [(.t 33), (.t 34), (.t 35)])] [0, 2, 3, 29, 30])) <|
  .reg false [.r (some 37) (.bi .add (.t 30) (.c (.int .i64 1))),
    .r (some 30) (.mv (.t 37))] [0, 2, 3, 29, 30]
def ir68 : IR := .seq (.reg false [.e (some 2) (.al 103 (.agg #[(.slice none 0 0), (.map none)]))] [0, 2]) <|
  .seq (.reg false [.r (some 6) (.mv (.t 0)),
    .r (some 7) (.nn (.t 6)),
    .r (some 8) (.fa 2 (.t 7)),
    .r (some 9) (.l1 (.t 8)),
    .r (some 10) (.len (.t 9)),
    .e (some 11) (.ms 3 1 8 #[(.int .i64 0)] (.t 10) (.t 10)),
    .e (some 12) (.raw ⟨(some 12), (.makeMap 69 none), 69, "gens.go:110", #[], none⟩),
    .r (some 13) (.bd #[(.slice none 0 0), (.map none)] [(0, 1, (.t 11)), (1, 1, (.t 12))]),
    .e (some 3) (.al 103 (.agg #[(.slice none 0 0), (.map none)])),
    .e none (.st 2 (.t 3) (.t 13))] [0, 2, 3]) <|
  .seq (.seq (.reg false [.r (some 14) (.fa 0 (.t 3)),
    .r (some 15) (.l1 (.t 14)),
    .r (some 16) (.len (.t 15)),
    .r (some 17) (.mv (.c (.int .i64 0)))] [0, 2, 3, 16, 17]) <|
  .block 0 (.loop ir68L1)) <|
  .seq (.seq (.reg false [.r (some 25) (.mv (.t 0)),
    .r (some 26) (.nn (.t 25)),
    .r (some 27) (.fa 2 (.t 26)),
    .r (some 28) (.l1 (.t 27)),
    .r (some 29) (.len (.t 28)),
    .r (some 30) (.mv (.c (.int .i64 0)))] [0, 2, 3, 29, 30]) <|
  .block 2 (.loop ir68L2)) <|
  .seq (.reg false [.r (some 38) (.ln 2 (.t 3)),
    .e none (.st 2 (.t 2) (.t 38))] [2]) <|
  .ret
theorem fit68 : Fits Try.prog 68 1 [(0, [0, 2], []), (1, [0, 2, 3], []), (2, [0, 2, 3, 16, 17], []), (3, [0, 2, 3, 16, 17, 18], []), (4, [0, 2, 3, 4, 16, 17], []), (5, [0, 2, 3, 16, 17], []), (6, [0, 2, 3, 16, 17], []), (7, [0, 2, 3, 29, 30], []), (8, [0, 2, 3, 29, 30, 31], []), (9, [0, 2, 3, 5, 29, 30], []), (10, [0, 2, 3, 29, 30], []), (11, [0, 2, 3, 29, 30], []), (12, [2], [])] ir68 [.n 2 2] 39 :=
  ⟨Try.f68, _, rfl, rfl, rfl, by decide, by kernel_rfl, by kernel_rfl⟩

/- 69 (*sloth/gens.mover).places (2) -/
def ir69L1 : IR := .seq (.reg false [.r (some 11) (.bi .lss (.t 10) (.t 9))] [0, 5, 8, 9, 10, 11]) <|
  .seq (.cond (.t 11) (.skip) ((.exit 0))) <|
  .seq (.block 1 (.seq (.reg false [.r (some 12) (.ia 1 (.t 8) (.t 10)),
    .r (some 13) (.l1 (.t 12)),
    .r (some 7) (.mv (.t 13))] [0, 5, 7, 8, 9, 10]) <|
  .reg false [.r (some 14) (.mv (.t 5)),
    .r (some 15) (.mv (.t 0)),
    .r (some 16) (.mv (.t 7)),
    .e (some 17) (.call 72 [(.t 15), (.t 16)]),
    .e (some 18) (.bs 3 1 #[(.int .i64 0)] [(0, 1, (.t 17))]),
    .e (some 19) (.ap 3 1 8 #[(.int .i64 0)] (.t 14) (.t 18)),
    .r (some 5) (.mv (.t 19))] [0, 5, 8, 9, 10])) <|
  .reg false [.r (some 20) (.bi .add (.t 10) (.c (.int .i64 1))),
    .r (some 10) (.mv (.t 20))] [0, 5, 8, 9, 10]
def ir69 : IR := .seq (.reg false [.r (some 4) (.mv (.c (.slice none 0 0)))] [0, 1]) <|
  .seq (.reg false [.r (some 5) (.mv (.c (.slice none 0 0)))] [0, 1, 5]) <|
  .seq (.seq (.reg false [.r (some 8) (.mv (.t 1)),
    .r (some 9) (.len (.t 8)),
    .r (some 10) (.mv (.c (.int .i64 0)))] [0, 5, 8, 9, 10]) <|
  .block 0 (.loop ir69L1)) <|
  .seq (.reg false [.r (some 21) (.mv (.t 5)),
    .r (some 4) (.mv (.t 21))] [4]) <|
  .ret
theorem fit69 : Fits Try.prog 69 2 [(0, [0, 1], []), (1, [0, 1, 5], []), (2, [0, 5, 8, 9, 10], []), (3, [0, 5, 8, 9, 10, 11], []), (4, [0, 5, 7, 8, 9, 10], []), (5, [0, 5, 8, 9, 10], []), (6, [0, 5, 8, 9, 10], []), (7, [4], [])] ir69 [.t 4] 22 :=
  ⟨Try.f69, _, rfl, rfl, rfl, by decide, by kernel_rfl, by kernel_rfl⟩

/- 70 slices.Sorted[int] (1) -/
def ir70 : IR := .seq (.reg false [.r (some 2) (.mv (.c (.slice none 0 0)))] [0]) <|
  .seq (.reg false [.r (some 4) (.mv (.t 0)),
    .e (some 5) (.call 76 [(.t 4)]),
    .r (some 3) (.mv (.t 5))] [3]) <|
  .seq (.reg false [.r (some 6) (.mv (.t 3)),
    .e (some 7) (.call 77 [(.t 6)])] [3]) <|
  .seq (.reg false [.r (some 8) (.mv (.t 3)),
    .r (some 2) (.mv (.t 8))] [2]) <|
  .ret
theorem fit70 : Fits Try.prog 70 1 [(0, [0], []), (1, [3], []), (2, [3], []), (3, [2], [])] ir70 [.t 2] 9 :=
  ⟨Try.f70, _, rfl, rfl, rfl, by decide, by kernel_rfl, by kernel_rfl⟩

/- 71 maps.Keys[map[int]int,int,int] (1) -/
def ir71 : IR := .seq (.reg false [.e (some 1) (.bx 69 (.t 0)),
    .r (some 2) (.mv (.c .nilFunc))] [1]) <|
  .seq (.reg false [.r (some 3) (.mf (.func 78) [] [(.t 1)]),
    .r (some 2) (.mv (.t 3))] [2]) <|
  .ret
theorem fit71 : Fits Try.prog 71 1 [(0, [1], []), (1, [2], [])] ir71 [.t 2] 4 :=
  ⟨Try.f71, _, rfl, rfl, rfl, by decide, by kernel_rfl, by kernel_rfl⟩

/- 72 (*sloth/gens.mover).place (2) -/
def ir72 : IR := .seq (.reg false [.r (some 4) (.mv (.c (.int .i64 0)))] [0, 1]) <|
  .seq (.reg false [.r (some 8) (.mv (.t 0)),
    .r (some 9) (.nn (.t 8)),
    .r (some 10) (.fa 1 (.t 9)),
    .r (some 11) (.fa 0 (.t 10)),
    .r (some 12) (.l1 (.t 11)),
    .r (some 13) (.mv (.t 1)),
    .r (some 14) (.ia 1 (.t 12) (.t 13)),
    .r (some 15) (.l1 (.t 14)),
    .r (some 5) (.mv (.t 15))] [0, 5]) <|
  .seq (.seq (.reg false [.r (some 16) (.mv (.t 5)),
    .r (some 17) (.mv (.t 0)),
    .r (some 18) (.nn (.t 17)),
    .r (some 19) (.fa 3 (.t 18)),
    .r (some 20) (.l1 (.t 19)),
    .r (some 21) (.bi .lss (.t 16) (.t 20))] [0, 5, 21]) <|
  .cond (.t 21) (.seq (.reg false [.r (some 22) (.mv (.t 5)),
    .r (some 4) (.mv (.t 22))] [4]) <|
  .ret) (.skip)) <|
  .seq (.reg false [.r (some 24) (.mv (.t 0)),
    .r (some 25) (.nn (.t 24)),
    .r (some 26) (.fa 4 (.t 25)),
    .r (some 27) (.l1 (.t 26)),
    .r (some 28) (.mv (.t 5)),
    .e (some 29) (.raw ⟨(some 29), (.lookup 69 (.tmp 27) (.tmp 28) true), 56, "gens.go:164", #[⟨3, .data⟩, ⟨4, .data⟩], none⟩),
    .r (some 23) (.mv (.t 29)),
    .r (some 30) (.ex 0 (.t 23)),
    .r (some 31) (.ex 1 (.t 23)),
    .r (some 6) (.mv (.t 30)),
    .r (some 7) (.mv (.t 31))] [0, 5, 6, 7]) <|
  .seq (.seq (.reg false [.r (some 32) (.mv (.t 7)),
    .r (some 33) (.no (.t 32))] [0, 5, 6, 33]) <|
  .cond (.t 33) (.seq (.reg true [.r (some 34) (.mv (.t 0)),
    .r (some 35) (.nn (.t 34)),
    .r (some 36) (.fa 3 (.t 35)),
    .r (some 37) (.l1 (.t 36)),
    .r (some 38) (.mv (.t 0)),
    .r (some 39) (.nn (.t 38)),
    .r (some 40) (.fa 5 (.t 39)),
    .r (some 41) (.l1 (.t 40)),
    .r (some 42) (.len (.t 41)),
    .r (some 43) (.bi .add (.t 37) (.t 42)),
    .r (some 6) (.mv (.t 43))] [0, 5, 6]) <|
  .seq (.reg false [.r (some 44) (.mv (.t 0)),
    .r (some 45) (.nn (.t 44)),
    .r (some 46) (.fa 4 (.t 45)),
    .r (some 47) (.l1 (.t 46)),
    .r (some 48) (.mv (.t 5)),
    .r (some 49) (.mv (.t 6)),
    .e none (.raw ⟨none, (.mapUpdate 69 (.tmp 47) (.tmp 48) (.tmp 49)), 0, "gens.go:167", #[⟨3, .data⟩, ⟨4, .data⟩, ⟨5, .data⟩, ⟨0, .phase⟩, ⟨1, .phase⟩, ⟨2, .phase⟩, ⟨3, .phase⟩, ⟨4, .phase⟩, ⟨5, .phase⟩], none⟩)] [0, 5, 6]) <|
  .reg false [.r (some 50) (.mv (.t 0)),
    .r (some 51) (.mv (.t 0)),
    .r (some 52) (.nn (.t 51)),
    .r (some 53) (.fa 5 (.t 52)),
    .r (some 54) (.l1 (.t 53)),
    .r (some 55) (.mv (.t 5)),
    .e (some 56) (.bs 3 1 #[(.int .i64 0)] [(0, 1, (.t 55))]),
    .e (some 57) (.ap 3 1 8 #[(.int .i64 0)] (.t 54) (.t 56)),
    .r (some 58) (.nn (.t 50)),
    .r (some 59) (.fa 5 (.t 58)),
    .e none (.st 1 (.t 59) (.t 57))] [6]) (.skip)) <|
  .seq (.reg false [.r (some 60) (.mv (.t 6)),
    .r (some 4) (.mv (.t 60))] [4]) <|
  .ret
theorem fit72 : Fits Try.prog 72 2 [(0, [0, 1], []), (1, [0, 5], []), (2, [0, 5, 21], []), (3, [4], []), (4, [0, 5, 6, 7], []), (5, [0, 5, 6, 33], []), (6, [0, 5, 6], [0, 1, 3, 7, 0, 16, 48, 112, 240, 511, 1023]), (7, [0, 5, 6], []), (8, [6], []), (9, [4], [])] ir72 [.t 4] 61 :=
  ⟨Try.f72, _, rfl, rfl, rfl, by decide, by kernel_rfl, by kernel_rfl⟩

/- 73 (*sloth/gens.mover).moved (1) -/
def ir73L1 : IR := .seq (.seq (.reg false [.r (some 6) (.mv (.t 4)),
    .r (some 7) (.mv (.t 0)),
    .r (some 8) (.nn (.t 7)),
    .r (some 9) (.fa 5 (.t 8)),
    .r (some 10) (.l1 (.t 9)),
    .r (some 11) (.len (.t 10)),
    .r (some 12) (.bi .lss (.t 6) (.t 11))] [0, 3, 4, 12]) <|
  .cond (.t 12) (.skip) ((.exit 0))) <|
  .seq (.block 1 (.seq (.dr (.r 0 none (some 15) (.mv (.t 0)) <|
    .r 1 none (some 16) (.nn (.t 15)) <|
    .r 2 none (some 17) (.fa 0 (.t 16)) <|
    .r 3 none (some 18) (.l1 (.t 17)) <|
    .r 4 none (some 19) (.nn (.t 18)) <|
    .r 5 none (some 20) (.fa 2 (.t 19)) <|
    .r 6 none (some 21) (.l1 (.t 20)) <|
    .r 7 none (some 22) (.mv (.t 0)) <|
    .r 8 none (some 23) (.nn (.t 22)) <|
    .r 9 none (some 24) (.fa 5 (.t 23)) <|
    .r 10 none (some 25) (.l1 (.t 24)) <|
    .r 11 none (some 26) (.mv (.t 4)) <|
    .r 12 none (some 27) (.ia 1 (.t 25) (.t 26)) <|
    .r 13 none (some 28) (.l1 (.t 27)) <|
    .r 14 none (some 29) (.ia 3 (.t 21) (.t 28)) <|
    .r 15 none (some 30) (.ln 3 (.t 29)) <|
    .e 16 none (some 5) (.al 38 (.agg #[(.int .i64 0), (.int .i64 0), (.slice none 0 0)])) [3, 6, 10, 13, 15] <|
    .e 17 none none (.st 3 (.t 5) (.t 30)) [] <|
    .nil) [0, 3, 4, 5]) <|
  .seq (.reg false [.r (some 31) (.mv (.t 0)),
    .r (some 32) (.fa 2 (.t 5)),
    .r (some 33) (.l1 (.t 32)),
    .e (some 34) (.call 69 [(.t 31), (.t 33)]),
    .r (some 35) (.fa 2 (.t 5)),
    .e none (.st 1 (.t 35) (.t 34))] [0, 3, 4, 5]) <|
  .reg false [.r (some 36) (.mv (.t 3)),
    .r (some 37) (.ln 3 (.t 5)),
    .e (some 38) (.bs 38 1 #[(.int .i64 0), (.int .i64 0), (.slice none 0 0)] [(0, 3, (.t 37))]),
    .e (some 39) (.ap 38 3 40 #[(.int .i64 0), (.int .i64 0), (.slice none 0 0)] (.t 36) (.t 38)),
    .r (some 3) (.mv (.t 39))] [0, 3, 4])) <|
  .reg false [.r (some 13) (.mv (.t 4)),
    .r (some 14) (.bi .add (.t 13) (.c (.int .i64 1))),
    .r (some 4) (.mv (.t 14))] [0, 3, 4]
def ir73 : IR := .seq (.reg false [.r (some 2) (.mv (.c (.slice none 0 0)))] [0]) <|
  .seq (.reg false [.r (some 3) (.mv (.c (.slice none 0 0)))] [0, 3]) <|
  .seq (.seq (.reg false [.r (some 4) (.mv (.c (.int .i64 0)))] [0, 3, 4]) <|
  .block 0 (.loop ir73L1)) <|
  .seq (.reg false [.r (some 40) (.mv (.t 3)),
    .r (some 2) (.mv (.t 40))] [2]) <|
  .ret
theorem fit73 : Fits Try.prog 73 1 [(0, [0], []), (1, [0, 3], []), (2, [0, 3, 4], []), (3, [0, 3, 4, 12], []), (4, [0, 3, 4], []), (5, [0, 3, 4, 5], [0, 1, 3, 7, 15, 31, 63, 0, 128, 384, 896, 0, 3968, 8064, 16383, 32767, 0, 131071]), (6, [0, 3, 4, 5], []), (7, [0, 3, 4], []), (8, [2], [])] ir73 [.t 2] 41 :=
  ⟨Try.f73, _, rfl, rfl, rfl, by decide, by kernel_rfl, by kernel_rfl⟩

/- 74 (*sloth/heap.mover).pass (2) -/
def ir74L1 : IR := .seq (.seq (.reg false [.r (some 16) (.mv (.t 0)),
    .r (some 17) (.nn (.t 16)),
    .r (some 18) (.fa 2 (.t 17)),
    .r (some 19) (.l1 (.t 18)),
    .r (some 20) (.mv (.t 1)),
    .r (some 21) (.ia 1 (.t 19) (.t 20)),
    .r (some 22) (.l1 (.t 21)),
    .r (some 23) (.bi .eql (.t 22) (.c (.int .i64 0))),
    .r (some 24) (.mv (.t 23)),
    .gr 24 true (some 25) (.mv (.t 0)),
    .gr 24 true (some 26) (.nn (.t 25)),
    .gr 24 true (some 27) (.fa 0 (.t 26)),
    .gr 24 true (some 28) (.l1 (.t 27)),
    .gr 24 true (some 29) (.mv (.t 1)),
    .gr 24 true (some 30) (.ia 3 (.t 28) (.t 29)),
    .gr 24 true (some 31) (.fa 0 (.t 30)),
    .gr 24 true (some 32) (.fa 0 (.t 31)),
    .gr 24 true (some 33) (.l1 (.t 32)),
    .gr 24 true (some 34) (.bi .eql (.t 33) (.c (.int .i64 5))),
    .r (some 35) (.pk (.t 24) (.t 34) (.c (.bool false)))] [0, 1, 35]) <|
  .cond (.t 35) (.skip) ((.exit 0))) <|
  .block 1 (.seq (.reg false [.r (some 36) (.mv (.t 0)),
    .r (some 37) (.nn (.t 36)),
    .r (some 38) (.fa 2 (.t 37)),
    .r (some 39) (.l1 (.t 38)),
    .r (some 40) (.mv (.t 1)),
    .r (some 41) (.ia 1 (.t 39) (.t 40)),
    .e none (.st 1 (.t 41) (.c (.int .i64 (-1))))] [0, 1]) <|
  .seq (.reg false [.r (some 42) (.mv (.t 0)),
    .r (some 43) (.mv (.t 0)),
    .r (some 44) (.nn (.t 43)),
    .r (some 45) (.fa 4 (.t 44)),
    .r (some 46) (.l1 (.t 45)),
    .r (some 47) (.mv (.t 1)),
    .e (some 48) (.bs 3 1 #[(.int .i64 0)] [(0, 1, (.t 47))]),
    .e (some 49) (.ap 3 1 8 #[(.int .i64 0)] (.t 46) (.t 48)),
    .r (some 50) (.nn (.t 42)),
    .r (some 51) (.fa 4 (.t 50)),
    .e none (.st 1 (.t 51) (.t 49))] [0, 1]) <|
  .reg false [.r (some 52) (.mv (.t 0)),
    .r (some 53) (.nn (.t 52)),
    .r (some 54) (.fa 0 (.t 53)),
    .r (some 55) (.l1 (.t 54)),
    .r (some 56) (.mv (.t 1)),
    .r (some 57) (.ia 3 (.t 55) (.t 56)),
    .r (some 58) (.fa 2 (.t 57)),
    .r (some 59) (.l1 (.t 58)),
    .r (some 60) (.ia 1 (.t 59) (.c (.int .i64 0))),
    .r (some 61) (.l1 (.t 60)),
    .r (some 1) (.mv (.t 61))] [0, 1])
def ir74L2 : IR := .seq (.reg false [.r (some 93) (.bi .lss (.t 92) (.t 91))] [0, 5, 90, 91, 92, 93]) <|
  .seq (.cond (.t 93) (.skip) ((.exit 2))) <|
  .seq (.block 3 (.seq (.reg false [.r (some 94) (.ia 1 (.t 90) (.t 92)),
    .r (some 95) (.l1 (.t 94)),
    .r (some 7) (.mv (.t 95))] [0, 5, 7, 90, 91, 92]) <|
  .reg false [.r (some 96) (.mv (.t 0)),
    .r (some 97) (.nn (.t 96)),
    .r (some 98) (.fa 2 (.t 97)),
    .r (some 99) (.l1 (.t 98)),
    .r (some 100) (.mv (.t 7)),
    .r (some 101) (.mv (.t 5)),
    .r (some 102) (.bi .add (.t 101) (.c (.int .i64 1))),
    .r (some 103) (.ia 1 (.t 99) (.t 100)),
    .e none (.st 1 (.t 103) (.t 102))] [0, 5, 90, 91, 92])) <|
  .reg false [.r (some 104) (.bi .add (.t 92) (.c (.int .i64 1))),
    .r (some 92) (.mv (.t 104))] [0, 5, 90, 91, 92]
def ir74 : IR := .seq (.reg false [.r (some 4) (.mv (.c (.int .i64 0)))] [0, 1]) <|
  .seq (.reg false [.r (some 8) (.mv (.t 0)),
    .r (some 9) (.mv (.t 0)),
    .r (some 10) (.nn (.t 9)),
    .r (some 11) (.fa 4 (.t 10)),
    .r (some 12) (.l1 (.t 11)),
    .r (some 13) (.sl 1 (.t 12) none (some (.c (.int .i64 0))) none),
    .r (some 14) (.nn (.t 8)),
    .r (some 15) (.fa 4 (.t 14)),
    .e none (.st 1 (.t 15) (.t 13))] [0, 1]) <|
  .seq (.block 0 (.loop ir74L1)) <|
  .seq (.reg false [.r (some 62) (.mv (.t 1)),
    .r (some 5) (.mv (.t 62))] [0, 1, 5]) <|
  .seq (.seq (.reg false [.r (some 63) (.mv (.t 0)),
    .r (some 64) (.nn (.t 63)),
    .r (some 65) (.fa 2 (.t 64)),
    .r (some 66) (.l1 (.t 65)),
    .r (some 67) (.mv (.t 1)),
    .r (some 68) (.ia 1 (.t 66) (.t 67)),
    .r (some 69) (.l1 (.t 68)),
    .r (some 70) (.bi .gtr (.t 69) (.c (.int .i64 0)))] [0, 1, 5, 70]) <|
  .cond (.t 70) (.reg false [.r (some 71) (.mv (.t 0)),
    .r (some 72) (.nn (.t 71)),
    .r (some 73) (.fa 2 (.t 72)),
    .r (some 74) (.l1 (.t 73)),
    .r (some 75) (.mv (.t 1)),
    .r (some 76) (.ia 1 (.t 74) (.t 75)),
    .r (some 77) (.l1 (.t 76)),
    .r (some 78) (.bi .sub (.t 77) (.c (.int .i64 1))),
    .r (some 5) (.mv (.t 78))] [0, 1, 5]) (.skip)) <|
  .seq (.reg false [.r (some 79) (.mv (.t 0)),
    .r (some 80) (.nn (.t 79)),
    .r (some 81) (.fa 2 (.t 80)),
    .r (some 82) (.l1 (.t 81)),
    .r (some 83) (.mv (.t 1)),
    .r (some 84) (.mv (.t 5)),
    .r (some 85) (.bi .add (.t 84) (.c (.int .i64 1))),
    .r (some 86) (.ia 1 (.t 82) (.t 83)),
    .e none (.st 1 (.t 86) (.t 85))] [0, 5]) <|
  .seq (.seq (.reg false [.r (some 87) (.mv (.t 0)),
    .r (some 88) (.nn (.t 87)),
    .r (some 89) (.fa 4 (.t 88)),
    .r (some 90) (.l1 (.t 89)),
    .r (some 91) (.len (.t 90)),
    .r (some 92) (.mv (.c (.int .i64 0)))] [0, 5, 90, 91, 92]) <|
  .block 2 (.loop ir74L2)) <|
  .seq (.reg false [.r (some 105) (.mv (.t 5)),
    .r (some 4) (.mv (.t 105))] [4]) <|
  .ret
theorem fit74 : Fits Try.prog 74 2 [(0, [0, 1], []), (1, [0, 1], []), (2, [0, 1, 35], []), (3, [0, 1], []), (4, [0, 1], []), (5, [0, 1], []), (6, [0, 1, 5], []), (7, [0, 1, 5, 70], []), (8, [0, 1, 5], []), (9, [0, 5], []), (10, [0, 5, 90, 91, 92], []), (11, [0, 5, 90, 91, 92, 93], []), (12, [0, 5, 7, 90, 91, 92], []), (13, [0, 5, 90, 91, 92], []), (14, [0, 5, 90, 91, 92], []), (15, [4], [])] ir74 [.t 4] 106 :=
  ⟨Try.f74, _, rfl, rfl, rfl, by decide, by kernel_rfl, by kernel_rfl⟩

/- 75 (*sloth/gens.Arena).pass (3) -/
def ir75L1 : IR := .seq (.seq (.reg false [.r (some 13) (.fa 0 (.t 5)),
    .r (some 14) (.l1 (.t 13)),
    .r (some 15) (.mv (.t 1)),
    .r (some 16) (.ia 1 (.t 14) (.t 15)),
    .r (some 17) (.l1 (.t 16)),
    .r (some 18) (.bi .lss (.t 17) (.c (.int .i64 0)))] [0, 1, 5, 6, 7, 18]) <|
  .cond (.t 18) (.skip) ((.exit 0))) <|
  .block 1 (.seq (.seq (.reg false [.r (some 19) (.mv (.t 0)),
    .r (some 20) (.nn (.t 19)),
    .r (some 21) (.fa 2 (.t 20)),
    .r (some 22) (.l1 (.t 21)),
    .r (some 23) (.mv (.t 1)),
    .r (some 24) (.ia 3 (.t 22) (.t 23)),
    .r (some 25) (.fa 0 (.t 24)),
    .r (some 26) (.l1 (.t 25)),
    .r (some 27) (.bi .neq (.t 26) (.c (.int .i64 5)))] [0, 1, 5, 6, 7, 27]) <|
  .cond (.t 27) (.seq (.reg false [.r (some 28) (.fa 0 (.t 5)),
    .r (some 29) (.l1 (.t 28)),
    .r (some 30) (.mv (.t 1)),
    .r (some 31) (.mv (.t 1)),
    .r (some 32) (.ia 1 (.t 29) (.t 30)),
    .e none (.st 1 (.t 32) (.t 31))] [1, 5, 7]) <|
  (.exit 0)) (.skip)) <|
  .seq (.seq (.reg false [.r (some 34) (.mv (.t 6)),
    .r (some 35) (.mv (.t 1)),
    .e (some 36) (.raw ⟨(some 36), (.lookup 69 (.tmp 34) (.tmp 35) true), 56, "gens.go:129", #[⟨0, .data⟩, ⟨1, .data⟩], none⟩),
    .r (some 33) (.mv (.t 36)),
    .r (some 37) (.ex 0 (.t 33)),
    .r (some 38) (.ex 1 (.t 33)),
    .r (some 8) (.mv (.t 37)),
    .r (some 9) (.mv (.t 38))] [0, 1, 5, 6, 7, 8, 9]) <|
  .seq (.reg false [.r (some 39) (.mv (.t 9))] [0, 1, 5, 6, 7, 8, 39]) <|
  .cond (.t 39) (.seq (.reg false [.r (some 40) (.mv (.t 0)),
    .r (some 41) (.mv (.t 7)),
    .r (some 42) (.mv (.t 8)),
    .r (some 43) (.sl 1 (.t 41) (some (.t 42)) none none),
    .e (some 44) (.call 79 [(.t 40), (.t 43)]),
    .r (some 1) (.mv (.t 44))] [1, 5, 7]) <|
  .seq (.reg false [.r (some 45) (.fa 1 (.t 5)),
    .r (some 46) (.l1 (.t 45)),
    .r (some 47) (.mv (.t 1)),
    .e none (.raw ⟨none, (.mapUpdate 69 (.tmp 46) (.tmp 47) (.const (.int .i64 1))), 0, "gens.go:131", #[⟨1, .data⟩, ⟨2, .data⟩, ⟨0, .phase⟩, ⟨1, .phase⟩, ⟨2, .phase⟩], none⟩)] [1, 5, 7]) <|
  .seq (.reg false [.r (some 48) (.fa 0 (.t 5)),
    .r (some 49) (.l1 (.t 48)),
    .r (some 50) (.mv (.t 1)),
    .r (some 51) (.mv (.t 1)),
    .r (some 52) (.ia 1 (.t 49) (.t 50)),
    .e none (.st 1 (.t 52) (.t 51))] [1, 5, 7]) <|
  (.exit 0)) (.skip)) <|
  .seq (.reg false [.r (some 53) (.mv (.t 6)),
    .r (some 54) (.mv (.t 1)),
    .r (some 55) (.mv (.t 7)),
    .r (some 56) (.len (.t 55)),
    .e none (.raw ⟨none, (.mapUpdate 69 (.tmp 53) (.tmp 54) (.tmp 56)), 0, "gens.go:135", #[⟨0, .data⟩, ⟨1, .data⟩, ⟨3, .data⟩, ⟨0, .phase⟩, ⟨1, .phase⟩, ⟨2, .phase⟩, ⟨3, .phase⟩], none⟩)] [0, 1, 5, 6, 7]) <|
  .seq (.reg false [.r (some 57) (.mv (.t 7)),
    .r (some 58) (.mv (.t 1)),
    .e (some 59) (.bs 3 1 #[(.int .i64 0)] [(0, 1, (.t 58))]),
    .e (some 60) (.ap 3 1 8 #[(.int .i64 0)] (.t 57) (.t 59)),
    .r (some 7) (.mv (.t 60))] [0, 1, 5, 6, 7]) <|
  .reg false [.r (some 61) (.mv (.t 0)),
    .r (some 62) (.nn (.t 61)),
    .r (some 63) (.fa 2 (.t 62)),
    .r (some 64) (.l1 (.t 63)),
    .r (some 65) (.mv (.t 1)),
    .r (some 66) (.ia 3 (.t 64) (.t 65)),
    .r (some 67) (.fa 2 (.t 66)),
    .r (some 68) (.l1 (.t 67)),
    .r (some 69) (.ia 1 (.t 68) (.c (.int .i64 0))),
    .r (some 70) (.l1 (.t 69)),
    .r (some 1) (.mv (.t 70))] [0, 1, 5, 6, 7])
def ir75L2 : IR := .seq (.reg false [.r (some 74) (.bi .lss (.t 73) (.t 72))] [1, 5, 71, 72, 73, 74]) <|
  .seq (.cond (.t 74) (.skip) ((.exit 2))) <|
  .seq (.block 3 (.seq (.reg false [.r (some 75) (.ia 1 (.t 71) (.t 73)),
    .r (some 76) (.l1 (.t 75)),
    .r (some 11) (.mv (.t 76))] [1, 5, 11, 71, 72, 73]) <|
  .reg true [.r (some 77) (.fa 0 (.t 5)),
    .r (some 78) (.l1 (.t 77)),
    .r (some 79) (.mv (.t 11)),
    .r (some 80) (.fa 0 (.t 5)),
    .r (some 81) (.l1 (.t 80)),
    .r (some 82) (.mv (.t 1)),
    .r (some 83) (.ia 1 (.t 81) (.t 82)),
    .r (some 84) (.l1 (.t 83)),
    .r (some 85) (.ia 1 (.t 78) (.t 79)),
    .e none (.st 1 (.t 85) (.t 84))] [1, 5, 71, 72, 73])) <|
  .reg false [.r (some 86) (.bi .add (.t 73) (.c (.int .i64 1))),
    .r (some 73) (.mv (.t 86))] [1, 5, 71, 72, 73]
def ir75 : IR := .seq (.reg false [.e (some 5) (.bx 103 (.t 2))] [0, 1, 5]) <|
  .seq (.reg false [.e (some 12) (.raw ⟨(some 12), (.makeMap 69 none), 69, "gens.go:122", #[], none⟩),
    .r (some 6) (.mv (.t 12))] [0, 1, 5, 6]) <|
  .seq (.reg false [.r (some 7) (.mv (.c (.slice none 0 0)))] [0, 1, 5, 6, 7]) <|
  .seq (.block 0 (.loop ir75L1)) <|
  .seq (.reg false [.r (some 71) (.mv (.t 7)),
    .r (some 72) (.len (.t 71)),
    .r (some 73) (.mv (.c (.int .i64 0)))] [1, 5, 71, 72, 73]) <|
  .block 2 (.loop ir75L2)
theorem fit75 : Fits Try.prog 75 3 [(0, [0, 1, 5], []), (1, [0, 1, 5, 6], []), (2, [0, 1, 5, 6, 7], []), (3, [0, 1, 5, 6, 7, 18], []), (4, [0, 1, 5, 6, 7, 27], []), (5, [1, 5, 7], []), (6, [0, 1, 5, 6, 7, 8, 9], []), (7, [0, 1, 5, 6, 7, 8, 39], []), (8, [1, 5, 7], []), (9, [1, 5, 7], []), (10, [1, 5, 7], []), (11, [0, 1, 5, 6, 7], []), (12, [0, 1, 5, 6, 7], []), (13, [0, 1, 5, 6, 7], []), (14, [1, 5, 71, 72, 73], []), (15, [1, 5, 71, 72, 73, 74], []), (16, [1, 5, 11, 71, 72, 73], []), (17, [1, 5, 71, 72, 73], [0, 1, 0, 0, 8, 0, 56, 120, 255, 511]), (18, [1, 5, 71, 72, 73], [])] ir75 [] 87 :=
  ⟨Try.f75, _, rfl, rfl, rfl, by decide, by kernel_rfl, by kernel_rfl⟩

/- 76 slices.Collect[int] (1) -/
def ir76 : IR := .seq (.reg false [.r (some 2) (.mv (.c (.slice none 0 0)))] [0]) <|
  .seq (.reg false [.r (some 3) (.mv (.t 0)),
    .e (some 4) (.call 80 [(.c (.slice none 0 0)), (.t 3)]),
    .r (some 2) (.mv (.t 4))] [2]) <|
  .ret
theorem fit76 : Fits Try.prog 76 1 [(0, [0], []), (1, [2], [])] ir76 [.t 2] 5 :=
  ⟨Try.f76, _, rfl, rfl, rfl, by decide, by kernel_rfl, by kernel_rfl⟩

/- 77 slices.Sort[[]int,int] (1) -/
def ir77 : IR := .seq (.reg false [.r (some 3) (.mv (.t 0)),
    .r (some 4) (.len (.t 3)),
    .r (some 2) (.mv (.t 4))] [0, 2]) <|
  .reg false [.r (some 5) (.mv (.t 0)),
    .r (some 6) (.mv (.t 2)),
    .r (some 7) (.mv (.t 2)),
    .r (some 8) (.cv .u64 (.t 7)),
    .e (some 9) (.call 82 [(.t 8)]),
    .e (some 10) (.call 81 [(.t 5), (.c (.int .i64 0)), (.t 6), (.t 9)])] []
theorem fit77 : Fits Try.prog 77 1 [(0, [0, 2], []), (1, [], [])] ir77 [] 11 :=
  ⟨Try.f77, _, rfl, rfl, rfl, by decide, by kernel_rfl, by kernel_rfl⟩

/- 78 maps.Keys[map[int]int,int,int]$1 (1) -/
def ir78L1 : IR := .seq (.reg false [.e (some 6) (.raw ⟨(some 6), (.next (.tmp 5) false), 0, "iter.go:27", #[], none⟩),
    .r (some 7) (.ex 0 (.t 6))] [0, 5, 7]) <|
  .seq (.cond (.t 7) (.skip) ((.exit 0))) <|
  .block 1 (.seq (.reg false [.e (some 8) (.raw ⟨(some 8), (.entry (.tmp 5)), 0, "iter.go:27", #[], none⟩),
    .r (some 9) (.ex 0 (.t 8)),
    .r (some 3) (.mv (.t 9))] [0, 3, 5]) <|
  .seq (.reg false [.r (some 10) (.mv (.t 0)),
    .r (some 11) (.mv (.t 3)),
    .e (some 12) (.raw ⟨(some 12), (.call { callee := (.value (.tmp 10)), args := #[(.tmp 11)], argTypes := #[3] }), 4, "iter.go:28", #[⟨0, .data⟩, ⟨1, .data⟩], none⟩),
    .r (some 13) (.no (.t 12))] [0, 5, 13]) <|
  .cond (.t 13) (.ret) (.skip))
def ir78 : IR := .seq (.reg false [.r (some 4) (.l1 (.t 1)),
    .e (some 5) (.raw ⟨(some 5), (.range 69 (.tmp 4)), 0, "iter.go:27", #[⟨0, .data⟩], none⟩)] [0, 5]) <|
  .block 0 (.loop ir78L1)
theorem fit78 : Fits Try.prog 78 2 [(0, [0, 5], []), (1, [0, 5, 7], []), (2, [0, 3, 5], []), (3, [0, 5, 13], [])] ir78 [] 14 :=
  ⟨Try.f78, _, rfl, rfl, rfl, by decide, by kernel_rfl, by kernel_rfl⟩

/- 79 (*sloth/gens.Arena).one (2) -/
def ir79 : IR := .seq (.reg false [.r (some 4) (.mv (.c (.int .i64 0)))] [1]) <|
  .seq (.reg false [.r (some 5) (.mv (.t 1)),
    .e (some 6) (.call 83 [(.t 5)]),
    .r (some 4) (.mv (.t 6))] [4]) <|
  .ret
theorem fit79 : Fits Try.prog 79 2 [(0, [1], []), (1, [4], [])] ir79 [.t 4] 7 :=
  ⟨Try.f79, _, rfl, rfl, rfl, by decide, by kernel_rfl, by kernel_rfl⟩

/- 83 slices.Min[[]int,int] (1) -/
def ir83L1 : IR := .seq (.seq (.reg false [.r (some 12) (.mv (.t 4)),
    .r (some 13) (.mv (.t 0)),
    .r (some 14) (.len (.t 13)),
    .r (some 15) (.bi .lss (.t 12) (.t 14))] [0, 3, 4, 15]) <|
  .cond (.t 15) (.skip) ((.exit 0))) <|
  .seq (.block 1 (.reg false [.r (some 18) (.mv (.t 3)),
    .r (some 19) (.mv (.t 0)),
    .r (some 20) (.mv (.t 4)),
    .r (some 21) (.ia 1 (.t 19) (.t 20)),
    .r (some 22) (.l1 (.t 21)),
    .r (some 23) (.mm false (.t 18) (.t 22)),
    .r (some 3) (.mv (.t 23))] [0, 3, 4])) <|
  .reg false [.r (some 16) (.mv (.t 4)),
    .r (some 17) (.bi .add (.t 16) (.c (.int .i64 1))),
    .r (some 4) (.mv (.t 17))] [0, 3, 4]
def ir83 : IR := .seq (.reg false [.r (some 2) (.mv (.c (.int .i64 0)))] [0]) <|
  .seq (.seq (.reg false [.r (some 5) (.mv (.t 0)),
    .r (some 6) (.len (.t 5)),
    .r (some 7) (.bi .lss (.t 6) (.c (.int .i64 1)))] [0, 7]) <|
  .cond (.t 7) (.reg false [.r (some 8) (.mi 9 (.c (.string ⟨#[115, 108, 105, 99, 101, 115, 46, 77, 105, 110, 58, 32, 101, 109, 112, 116, 121, 32, 108, 105, 115, 116]⟩))),
    .e none (.raw ⟨none, (.panic (.tmp 8)), 0, "sort.go:67", #[⟨0, .data⟩], none⟩)] [0]) (.skip)) <|
  .seq (.reg false [.r (some 9) (.mv (.t 0)),
    .r (some 10) (.ia 1 (.t 9) (.c (.int .i64 0))),
    .r (some 11) (.l1 (.t 10)),
    .r (some 3) (.mv (.t 11))] [0, 3]) <|
  .seq (.seq (.reg false [.r (some 4) (.mv (.c (.int .i64 1)))] [0, 3, 4]) <|
  .block 0 (.loop ir83L1)) <|
  .seq (.reg false [.r (some 24) (.mv (.t 3)),
    .r (some 2) (.mv (.t 24))] [2]) <|
  .ret
theorem fit83 : Fits Try.prog 83 1 [(0, [0], []), (1, [0, 7], []), (2, [0], []), (3, [0, 3], []), (4, [0, 3, 4], []), (5, [0, 3, 4, 15], []), (6, [0, 3, 4], []), (7, [0, 3, 4], []), (8, [2], [])] ir83 [.t 2] 25 :=
  ⟨Try.f83, _, rfl, rfl, rfl, by decide, by kernel_rfl, by kernel_rfl⟩

end Go.Proofs.Ytnimaifmcejkcaa
