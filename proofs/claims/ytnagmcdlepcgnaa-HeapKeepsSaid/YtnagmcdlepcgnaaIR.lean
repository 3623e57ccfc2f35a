/- The resolved form of this seat's functions, printed by our bench program. -/
import Derived.Test.YtnagmcdlepcgnaaW9
import Derived.KernelRfl
namespace Go.Proofs.Ytnagmcdlepcgnaa
open Go Go.W
/- 3 sloth/slothlaw20.HeapKeeps (4) -/
def ir3L1 : IR := .seq (.seq (.reg false [.r (some 73) (.mv (.t 16)),
    .r (some 74) (.mv (.t 14)),
    .r (some 75) (.nn (.t 74)),
    .r (some 76) (.fa 0 (.t 75)),
    .r (some 77) (.l1 (.t 76)),
    .r (some 78) (.len (.t 77)),
    .r (some 79) (.bi .lss (.t 73) (.t 78))] [0, 2, 3, 10, 11, 12, 14, 16, 79]) <|
  .cond (.t 79) (.skip) ((.exit 0))) <|
  .seq (.block 1 (.seq (.reg false [.r (some 83) (.mv (.t 10)),
    .r (some 84) (.mv (.t 14)),
    .r (some 85) (.nn (.t 84)),
    .r (some 86) (.fa 0 (.t 85)),
    .r (some 87) (.l1 (.t 86)),
    .r (some 88) (.mv (.t 16)),
    .r (some 89) (.ia 1 (.t 87) (.t 88)),
    .r (some 90) (.l1 (.t 89)),
    .e (some 91) (.call 9 [(.t 83), (.t 90)]),
    .r (some 82) (.mv (.t 91)),
    .r (some 92) (.ex 0 (.t 82)),
    .r (some 93) (.ex 1 (.t 82)),
    .e (some 17) (.al 35 (.agg #[(.int .i64 0), (.int .i64 0), (.slice none 0 0)])),
    .e none (.st 3 (.t 17) (.t 92)),
    .r (some 18) (.mv (.t 93))] [0, 2, 3, 10, 11, 12, 14, 16, 17]) <|
  .seq (.reg false [.r (some 95) (.mv (.t 11)),
    .r (some 96) (.mv (.t 14)),
    .r (some 97) (.nn (.t 96)),
    .r (some 98) (.fa 1 (.t 97)),
    .r (some 99) (.l1 (.t 98)),
    .r (some 100) (.mv (.t 16)),
    .r (some 101) (.ia 1 (.t 99) (.t 100)),
    .r (some 102) (.l1 (.t 101)),
    .e (some 103) (.call 9 [(.t 95), (.t 102)]),
    .r (some 94) (.mv (.t 103)),
    .r (some 104) (.ex 0 (.t 94)),
    .r (some 105) (.ex 1 (.t 94)),
    .e (some 19) (.al 35 (.agg #[(.int .i64 0), (.int .i64 0), (.slice none 0 0)])),
    .e none (.st 3 (.t 19) (.t 104)),
    .r (some 20) (.mv (.t 105))] [0, 2, 3, 10, 11, 12, 14, 16, 17, 19]) <|
  .seq (.reg false [.r (some 106) (.mv (.t 14)),
    .r (some 107) (.mv (.t 10)),
    .r (some 108) (.mv (.t 11)),
    .r (some 109) (.fa 2 (.t 17)),
    .r (some 110) (.l1 (.t 109)),
    .r (some 111) (.fa 2 (.t 19)),
    .r (some 112) (.l1 (.t 111)),
    .e (some 113) (.call 8 [(.t 106), (.t 107), (.t 108), (.t 110), (.t 112)]),
    .r (some 15) (.mv (.t 113))] [0, 2, 3, 10, 11, 12, 14, 15, 16, 17, 19]) <|
  .seq (.reg false [.r (some 114) (.mv (.t 15)),
    .r (some 115) (.no (.t 114)),
    .r (some 116) (.mv (.t 115)),
    .gr 116 false (some 117) (.fa 0 (.t 17)),
    .gr 116 false (some 118) (.l1 (.t 117)),
    .gr 116 false (some 119) (.fa 0 (.t 19)),
    .gr 116 false (some 120) (.l1 (.t 119)),
    .gr 116 false (some 121) (.bi .neq (.t 118) (.t 120)),
    .r (some 122) (.pk (.t 116) (.c (.bool true)) (.t 121)),
    .r (some 123) (.mv (.t 122)),
    .gr 123 false (some 124) (.fa 1 (.t 17)),
    .gr 123 false (some 125) (.l1 (.t 124)),
    .gr 123 false (some 126) (.fa 1 (.t 19)),
    .gr 123 false (some 127) (.l1 (.t 126)),
    .gr 123 false (some 128) (.bi .neq (.t 125) (.t 127)),
    .r (some 129) (.pk (.t 123) (.c (.bool true)) (.t 128))] [0, 2, 3, 10, 11, 12, 14, 16, 129]) <|
  .cond (.t 129) (.seq (.reg false [.r (some 8) (.mv (.c (.bool false)))] [8]) <|
  .ret) (.skip))) <|
  .reg false [.r (some 80) (.mv (.t 16)),
    .r (some 81) (.bi .add (.t 80) (.c (.int .i64 1))),
    .r (some 16) (.mv (.t 81))] [0, 2, 3, 10, 11, 12, 14, 16]
def ir3 : IR := .seq (.reg false [.r (some 8) (.mv (.c (.bool false)))] [0, 1, 2, 3]) <|
  .seq (.reg false [.e (some 27) (.call 5 []),
    .r (some 9) (.mv (.t 27))] [0, 1, 2, 3, 9]) <|
  .seq (.reg false [.r (some 28) (.mv (.t 0)),
    .r (some 29) (.mv (.t 1)),
    .e (some 30) (.call 6 [(.t 28), (.t 29)]),
    .r (some 10) (.mv (.t 30))] [0, 1, 2, 3, 9, 10]) <|
  .seq (.reg false [.r (some 31) (.mv (.t 0)),
    .r (some 32) (.mv (.t 1)),
    .e (some 33) (.call 6 [(.t 31), (.t 32)]),
    .r (some 11) (.mv (.t 33))] [0, 2, 3, 9, 10, 11]) <|
  .seq (.seq (.reg false [.r (some 34) (.mv (.t 9)),
    .r (some 35) (.no (.t 34)),
    .r (some 36) (.mv (.t 35)),
    .gr 36 false (some 37) (.mv (.t 10)),
    .gr 36 false (some 38) (.eq .ptr false (.t 37) (.c (.pointer none))),
    .r (some 39) (.pk (.t 36) (.c (.bool true)) (.t 38)),
    .r (some 40) (.mv (.t 39)),
    .gr 40 false (some 41) (.mv (.t 11)),
    .gr 40 false (some 42) (.eq .ptr false (.t 41) (.c (.pointer none))),
    .r (some 43) (.pk (.t 40) (.c (.bool true)) (.t 42))] [0, 2, 3, 9, 10, 11, 43]) <|
  .cond (.t 43) (.seq (.reg false [.r (some 44) (.mv (.t 9)),
    .r (some 45) (.mv (.t 44)),
    .gr 45 true (some 46) (.mv (.t 0)),
    .gr 45 true (some 47) (.bi .lss (.t 46) (.c (.int .i64 1))),
    .gr 45 true (some 48) (.mv (.t 47)),
    .gr 48 false (some 49) (.mv (.t 0)),
    .gr 48 false (some 50) (.bi .gtr (.t 49) (.c (.int .i64 1048576))),
    .gr 45 true (some 51) (.pk (.t 48) (.c (.bool true)) (.t 50)),
    .r (some 52) (.pk (.t 45) (.t 51) (.c (.bool false))),
    .r (some 8) (.mv (.t 52))] [8]) <|
  .ret) (.skip)) <|
  .seq (.reg false [.r (some 54) (.mv (.t 11)),
    .r (some 55) (.mv (.t 2)),
    .e (some 56) (.call 7 [(.t 54), (.t 55)]),
    .r (some 53) (.mv (.t 56)),
    .r (some 57) (.ex 0 (.t 53)),
    .r (some 58) (.ex 1 (.t 53)),
    .r (some 12) (.mv (.t 57)),
    .r (some 13) (.mv (.t 58))] [0, 2, 3, 10, 11, 12, 13]) <|
  .seq (.seq (.reg false [.r (some 59) (.mv (.t 13)),
    .r (some 60) (.bi .neq (.t 59) (.c (.int .i64 0)))] [0, 2, 3, 10, 11, 12, 13, 60]) <|
  .cond (.t 60) (.seq (.reg false [.r (some 61) (.mv (.t 13)),
    .r (some 62) (.bi .eql (.t 61) (.c (.int .i64 202))),
    .r (some 8) (.mv (.t 62))] [8]) <|
  .ret) (.skip)) <|
  .seq (.reg false [.r (some 63) (.bd #[(.slice none 0 0), (.slice none 0 0)] []),
    .e (some 64) (.bx 32 (.t 63)),
    .r (some 14) (.mv (.t 64))] [0, 2, 3, 10, 11, 12, 14]) <|
  .seq (.reg false [.r (some 65) (.mv (.t 14)),
    .r (some 66) (.mv (.t 10)),
    .r (some 67) (.mv (.t 11)),
    .r (some 68) (.mv (.t 2)),
    .r (some 69) (.mv (.t 12)),
    .e (some 70) (.call 8 [(.t 65), (.t 66), (.t 67), (.t 68), (.t 69)]),
    .r (some 15) (.mv (.t 70))] [0, 2, 3, 10, 11, 12, 14, 15]) <|
  .seq (.seq (.reg false [.r (some 71) (.mv (.t 15)),
    .r (some 72) (.no (.t 71))] [0, 2, 3, 10, 11, 12, 14, 72]) <|
  .cond (.t 72) (.seq (.reg false [.r (some 8) (.mv (.c (.bool false)))] [8]) <|
  .ret) (.skip)) <|
  .seq (.seq (.reg false [.r (some 16) (.mv (.c (.int .i64 0)))] [0, 2, 3, 10, 11, 12, 14, 16]) <|
  .block 0 (.loop ir3L1)) <|
  .seq (.reg false [.r (some 130) (.mv (.t 11)),
    .e (some 131) (.call 10 [(.t 130)]),
    .r (some 21) (.mv (.t 131))] [0, 2, 3, 10, 11, 12, 14, 21]) <|
  .seq (.reg false [.r (some 133) (.mv (.t 11)),
    .r (some 134) (.mv (.t 12)),
    .e (some 135) (.call 7 [(.t 133), (.t 134)]),
    .r (some 132) (.mv (.t 135)),
    .r (some 136) (.ex 0 (.t 132)),
    .r (some 137) (.ex 1 (.t 132)),
    .r (some 22) (.mv (.t 136)),
    .r (some 23) (.mv (.t 137))] [0, 2, 3, 10, 12, 14, 21, 22, 23]) <|
  .seq (.reg false [.r (some 138) (.mv (.t 22)),
    .r (some 139) (.mv (.t 12)),
    .e (some 140) (.call 11 [(.t 138), (.t 139)]),
    .r (some 24) (.mv (.t 140))] [0, 2, 3, 10, 14, 21, 23, 24]) <|
  .seq (.seq (.reg false [.r (some 141) (.mv (.t 21)),
    .r (some 142) (.mv (.t 14)),
    .r (some 143) (.nn (.t 142)),
    .r (some 144) (.fa 0 (.t 143)),
    .r (some 145) (.l1 (.t 144)),
    .r (some 146) (.len (.t 145)),
    .r (some 147) (.bi .neq (.t 141) (.t 146)),
    .r (some 148) (.mv (.t 147)),
    .gr 148 false (some 149) (.mv (.t 23)),
    .gr 148 false (some 150) (.bi .neq (.t 149) (.c (.int .i64 0))),
    .r (some 151) (.pk (.t 148) (.c (.bool true)) (.t 150)),
    .r (some 152) (.mv (.t 151)),
    .gr 152 false (some 153) (.mv (.t 24)),
    .gr 152 false (some 154) (.no (.t 153)),
    .r (some 155) (.pk (.t 152) (.c (.bool true)) (.t 154))] [0, 2, 3, 10, 21, 155]) <|
  .cond (.t 155) (.seq (.reg false [.r (some 8) (.mv (.c (.bool false)))] [8]) <|
  .ret) (.skip)) <|
  .seq (.reg false [.r (some 157) (.mv (.t 10)),
    .r (some 158) (.mv (.t 3)),
    .r (some 159) (.mm true (.c (.int .i64 0)) (.t 158)),
    .r (some 160) (.mv (.t 2)),
    .e (some 161) (.call 12 [(.t 157), (.t 159), (.t 160)]),
    .r (some 156) (.mv (.t 161)),
    .r (some 162) (.ex 0 (.t 156)),
    .r (some 163) (.ex 1 (.t 156)),
    .r (some 25) (.mv (.t 162)),
    .r (some 26) (.mv (.t 163))] [0, 2, 3, 21, 25, 26]) <|
  .seq (.seq (.reg false [.r (some 164) (.mv (.t 3)),
    .r (some 165) (.bi .leq (.t 164) (.c (.int .i64 0))),
    .r (some 166) (.mv (.t 165)),
    .gr 166 false (some 167) (.mv (.t 3)),
    .gr 166 false (some 168) (.mv (.t 0)),
    .gr 166 false (some 169) (.mv (.t 21)),
    .gr 166 false (some 170) (.bi .sub (.t 168) (.t 169)),
    .gr 166 false (some 171) (.bi .leq (.t 167) (.t 170)),
    .r (some 172) (.pk (.t 166) (.c (.bool true)) (.t 171))] [2, 25, 26, 172]) <|
  .cond (.t 172) (.seq (.reg false [.r (some 173) (.mv (.t 26)),
    .r (some 174) (.bi .eql (.t 173) (.c (.int .i64 0))),
    .r (some 175) (.mv (.t 174)),
    .gr 175 true (some 176) (.mv (.t 25)),
    .gr 175 true (some 177) (.len (.t 176)),
    .gr 175 true (some 178) (.mv (.t 2)),
    .gr 175 true (some 179) (.len (.t 178)),
    .gr 175 true (some 180) (.bi .eql (.t 177) (.t 179)),
    .r (some 181) (.pk (.t 175) (.t 180) (.c (.bool false))),
    .r (some 8) (.mv (.t 181))] [8]) <|
  .ret) (.skip)) <|
  .seq (.reg false [.r (some 182) (.mv (.t 26)),
    .r (some 183) (.bi .eql (.t 182) (.c (.int .i64 201))),
    .r (some 184) (.mv (.t 183)),
    .gr 184 true (some 185) (.mv (.t 25)),
    .gr 184 true (some 186) (.len (.t 185)),
    .gr 184 true (some 187) (.bi .eql (.t 186) (.c (.int .i64 0))),
    .r (some 188) (.pk (.t 184) (.t 187) (.c (.bool false))),
    .r (some 8) (.mv (.t 188))] [8]) <|
  .ret
theorem fit3 : Fits Try.prog 3 4 [(0, [0, 1, 2, 3], []), (1, [0, 1, 2, 3, 9], []), (2, [0, 1, 2, 3, 9, 10], []), (3, [0, 2, 3, 9, 10, 11], []), (4, [0, 2, 3, 9, 10, 11, 43], []), (5, [8], []), (6, [0, 2, 3, 10, 11, 12, 13], []), (7, [0, 2, 3, 10, 11, 12, 13, 60], []), (8, [8], []), (9, [0, 2, 3, 10, 11, 12, 14], []), (10, [0, 2, 3, 10, 11, 12, 14, 15], []), (11, [0, 2, 3, 10, 11, 12, 14, 72], []), (12, [8], []), (13, [0, 2, 3, 10, 11, 12, 14, 16], []), (14, [0, 2, 3, 10, 11, 12, 14, 16, 79], []), (15, [0, 2, 3, 10, 11, 12, 14, 16], []), (16, [0, 2, 3, 10, 11, 12, 14, 16, 17], []), (17, [0, 2, 3, 10, 11, 12, 14, 16, 17, 19], []), (18, [0, 2, 3, 10, 11, 12, 14, 15, 16, 17, 19], []), (19, [0, 2, 3, 10, 11, 12, 14, 16, 129], []), (20, [8], []), (21, [0, 2, 3, 10, 11, 12, 14, 21], []), (22, [0, 2, 3, 10, 12, 14, 21, 22, 23], []), (23, [0, 2, 3, 10, 14, 21, 23, 24], []), (24, [0, 2, 3, 10, 21, 155], []), (25, [8], []), (26, [0, 2, 3, 21, 25, 26], []), (27, [2, 25, 26, 172], []), (28, [8], []), (29, [8], [])] ir3 [.t 8] 189 :=
  ⟨Try.f3, _, rfl, rfl, rfl, by decide, by kernel_rfl, by kernel_rfl⟩

/- 4 sloth/slothlaw20.HeapPlays (3) -/
def ir4L1 : IR := .seq (.seq (.reg false [.r (some 68) (.mv (.t 17)),
    .r (some 69) (.mv (.t 2)),
    .r (some 70) (.len (.t 69)),
    .r (some 71) (.bi .lss (.t 68) (.t 70))] [2, 8, 10, 12, 14, 16, 17, 71]) <|
  .cond (.t 71) (.skip) ((.exit 0))) <|
  .seq (.block 1 (.seq (.reg false [.r (some 18) (.mv (.c (.bool true)))] [2, 8, 10, 12, 14, 16, 17, 18]) <|
  .seq (.seq (.reg false [.r (some 74) (.mv (.t 2)),
    .r (some 75) (.mv (.t 17)),
    .r (some 76) (.ia 7 (.t 74) (.t 75)),
    .r (some 77) (.fa 0 (.t 76)),
    .r (some 78) (.l1 (.t 77)),
    .r (some 79) (.bi .eql (.t 78) (.c (.int .i64 0))),
    .r (some 80) (.mv (.t 79)),
    .gr 80 true (some 81) (.mv (.t 12)),
    .gr 80 true (some 82) (.eq .ptr true (.t 81) (.c (.pointer none))),
    .r (some 83) (.pk (.t 80) (.t 82) (.c (.bool false)))] [2, 8, 10, 12, 14, 16, 17, 18, 83]) <|
  .cond (.t 83) (.reg false [.r (some 84) (.mv (.t 16)),
    .r (some 85) (.mv (.t 8)),
    .r (some 86) (.mv (.t 12)),
    .r (some 87) (.mv (.t 2)),
    .r (some 88) (.mv (.t 17)),
    .r (some 89) (.ia 7 (.t 87) (.t 88)),
    .r (some 90) (.ln 7 (.t 89)),
    .e (some 91) (.call 15 [(.t 84), (.t 85), (.t 86), (.t 90)]),
    .r (some 18) (.mv (.t 91))] [2, 8, 10, 12, 14, 16, 17, 18]) (.skip)) <|
  .seq (.seq (.reg false [.r (some 92) (.mv (.t 2)),
    .r (some 93) (.mv (.t 17)),
    .r (some 94) (.ia 7 (.t 92) (.t 93)),
    .r (some 95) (.fa 0 (.t 94)),
    .r (some 96) (.l1 (.t 95)),
    .r (some 97) (.bi .neq (.t 96) (.c (.int .i64 0))),
    .r (some 98) (.mv (.t 97)),
    .gr 98 true (some 99) (.mv (.t 14)),
    .gr 98 true (some 100) (.eq .ptr true (.t 99) (.c (.pointer none))),
    .r (some 101) (.pk (.t 98) (.t 100) (.c (.bool false)))] [2, 8, 10, 12, 14, 16, 17, 18, 101]) <|
  .cond (.t 101) (.reg false [.r (some 102) (.mv (.t 16)),
    .r (some 103) (.mv (.t 10)),
    .r (some 104) (.mv (.t 14)),
    .r (some 105) (.mv (.t 2)),
    .r (some 106) (.mv (.t 17)),
    .r (some 107) (.ia 7 (.t 105) (.t 106)),
    .r (some 108) (.ln 7 (.t 107)),
    .e (some 109) (.call 15 [(.t 102), (.t 103), (.t 104), (.t 108)]),
    .r (some 18) (.mv (.t 109))] [2, 8, 10, 12, 14, 16, 17, 18]) (.skip)) <|
  .seq (.reg false [.r (some 110) (.mv (.t 18)),
    .r (some 111) (.no (.t 110))] [2, 8, 10, 12, 14, 16, 17, 111]) <|
  .cond (.t 111) (.seq (.reg false [.r (some 6) (.mv (.c (.bool false)))] [6]) <|
  .ret) (.skip))) <|
  .reg false [.r (some 72) (.mv (.t 17)),
    .r (some 73) (.bi .add (.t 72) (.c (.int .i64 1))),
    .r (some 17) (.mv (.t 73))] [2, 8, 10, 12, 14, 16, 17]
def ir4 : IR := .seq (.reg false [.r (some 6) (.mv (.c (.bool false)))] [0, 1, 2]) <|
  .seq (.reg false [.e (some 19) (.call 5 []),
    .r (some 7) (.mv (.t 19))] [0, 1, 2, 7]) <|
  .seq (.reg false [.r (some 21) (.mv (.t 0)),
    .e (some 22) (.call 13 [(.t 21)]),
    .r (some 20) (.mv (.t 22)),
    .r (some 23) (.ex 0 (.t 20)),
    .r (some 24) (.ex 1 (.t 20)),
    .r (some 8) (.mv (.t 23)),
    .r (some 9) (.mv (.t 24))] [0, 1, 2, 7, 8, 9]) <|
  .seq (.reg false [.r (some 26) (.mv (.t 1)),
    .e (some 27) (.call 13 [(.t 26)]),
    .r (some 25) (.mv (.t 27)),
    .r (some 28) (.ex 0 (.t 25)),
    .r (some 29) (.ex 1 (.t 25)),
    .r (some 10) (.mv (.t 28)),
    .r (some 11) (.mv (.t 29))] [0, 1, 2, 7, 8, 9, 10, 11]) <|
  .seq (.reg false [.r (some 31) (.mv (.t 0)),
    .e (some 32) (.call 14 [(.t 31)]),
    .r (some 30) (.mv (.t 32)),
    .r (some 33) (.ex 0 (.t 30)),
    .r (some 34) (.ex 1 (.t 30)),
    .r (some 12) (.mv (.t 33)),
    .r (some 13) (.mv (.t 34))] [1, 2, 7, 8, 9, 10, 11, 12, 13]) <|
  .seq (.reg false [.r (some 36) (.mv (.t 1)),
    .e (some 37) (.call 14 [(.t 36)]),
    .r (some 35) (.mv (.t 37)),
    .r (some 38) (.ex 0 (.t 35)),
    .r (some 39) (.ex 1 (.t 35)),
    .r (some 14) (.mv (.t 38)),
    .r (some 15) (.mv (.t 39))] [2, 7, 8, 9, 10, 11, 12, 13, 14, 15]) <|
  .seq (.seq (.reg false [.r (some 40) (.mv (.t 7)),
    .r (some 41) (.no (.t 40)),
    .r (some 42) (.mv (.t 41)),
    .gr 42 false (some 43) (.mv (.t 9)),
    .gr 42 false (some 44) (.mv (.t 13)),
    .gr 42 false (some 45) (.bi .neq (.t 43) (.t 44)),
    .r (some 46) (.pk (.t 42) (.c (.bool true)) (.t 45)),
    .r (some 47) (.mv (.t 46)),
    .gr 47 false (some 48) (.mv (.t 11)),
    .gr 47 false (some 49) (.mv (.t 15)),
    .gr 47 false (some 50) (.bi .neq (.t 48) (.t 49)),
    .r (some 51) (.pk (.t 47) (.c (.bool true)) (.t 50)),
    .r (some 52) (.mv (.t 51)),
    .gr 52 false (some 53) (.mv (.t 8)),
    .gr 52 false (some 54) (.eq .ptr false (.t 53) (.c (.pointer none))),
    .gr 52 false (some 55) (.mv (.t 12)),
    .gr 52 false (some 56) (.eq .ptr false (.t 55) (.c (.pointer none))),
    .gr 52 false (some 57) (.eq .bool true (.t 54) (.t 56)),
    .r (some 58) (.pk (.t 52) (.c (.bool true)) (.t 57)),
    .r (some 59) (.mv (.t 58)),
    .gr 59 false (some 60) (.mv (.t 10)),
    .gr 59 false (some 61) (.eq .ptr false (.t 60) (.c (.pointer none))),
    .gr 59 false (some 62) (.mv (.t 14)),
    .gr 59 false (some 63) (.eq .ptr false (.t 62) (.c (.pointer none))),
    .gr 59 false (some 64) (.eq .bool true (.t 61) (.t 63)),
    .r (some 65) (.pk (.t 59) (.c (.bool true)) (.t 64))] [2, 8, 10, 12, 14, 65]) <|
  .cond (.t 65) (.seq (.reg false [.r (some 6) (.mv (.c (.bool false)))] [6]) <|
  .ret) (.skip)) <|
  .seq (.reg false [.r (some 66) (.bd #[(.slice none 0 0), (.slice none 0 0)] []),
    .e (some 67) (.bx 50 (.t 66)),
    .r (some 16) (.mv (.t 67))] [2, 8, 10, 12, 14, 16]) <|
  .seq (.seq (.reg false [.r (some 17) (.mv (.c (.int .i64 0)))] [2, 8, 10, 12, 14, 16, 17]) <|
  .block 0 (.loop ir4L1)) <|
  .seq (.reg false [.r (some 112) (.mv (.t 16)),
    .e (some 113) (.call 16 [(.t 112)]),
    .r (some 6) (.mv (.t 113))] [6]) <|
  .ret
theorem fit4 : Fits Try.prog 4 3 [(0, [0, 1, 2], []), (1, [0, 1, 2, 7], []), (2, [0, 1, 2, 7, 8, 9], []), (3, [0, 1, 2, 7, 8, 9, 10, 11], []), (4, [1, 2, 7, 8, 9, 10, 11, 12, 13], []), (5, [2, 7, 8, 9, 10, 11, 12, 13, 14, 15], []), (6, [2, 8, 10, 12, 14, 65], []), (7, [6], []), (8, [2, 8, 10, 12, 14, 16], []), (9, [2, 8, 10, 12, 14, 16, 17], []), (10, [2, 8, 10, 12, 14, 16, 17, 71], []), (11, [2, 8, 10, 12, 14, 16, 17], []), (12, [2, 8, 10, 12, 14, 16, 17, 18], []), (13, [2, 8, 10, 12, 14, 16, 17, 18, 83], []), (14, [2, 8, 10, 12, 14, 16, 17, 18], []), (15, [2, 8, 10, 12, 14, 16, 17, 18, 101], []), (16, [2, 8, 10, 12, 14, 16, 17, 18], []), (17, [2, 8, 10, 12, 14, 16, 17, 111], []), (18, [6], []), (19, [6], [])] ir4 [.t 6] 114 :=
  ⟨Try.f4, _, rfl, rfl, rfl, by decide, by kernel_rfl, by kernel_rfl⟩

/- 5 sloth/slothlaw20.awake (0) -/
def ir5 : IR := .seq (.reg false [.r (some 0) (.mv (.c (.bool false)))] []) <|
  .seq (.reg false [.e (some 12) (.call 13 [(.c (.int .i64 4))]),
    .r (some 11) (.mv (.t 12)),
    .r (some 13) (.ex 0 (.t 11)),
    .r (some 14) (.ex 1 (.t 11)),
    .r (some 1) (.mv (.t 13)),
    .r (some 2) (.mv (.t 14))] [1, 2]) <|
  .seq (.seq (.reg false [.r (some 15) (.mv (.t 1)),
    .r (some 16) (.eq .ptr false (.t 15) (.c (.pointer none))),
    .r (some 17) (.mv (.t 16)),
    .gr 17 false (some 18) (.mv (.t 2)),
    .gr 17 false (some 19) (.bi .neq (.t 18) (.c (.int .i64 0))),
    .r (some 20) (.pk (.t 17) (.c (.bool true)) (.t 19))] [1, 20]) <|
  .cond (.t 20) (.seq (.reg false [.r (some 0) (.mv (.c (.bool false)))] [0]) <|
  .ret) (.skip)) <|
  .seq (.reg false [.r (some 21) (.mv (.t 1)),
    .r (some 22) (.bd #[(.int .i64 0), (.int .i64 0), (.slice none 0 0)] [(0, 1, (.c (.int .i64 1))), (1, 1, (.c (.int .i64 7)))]),
    .e (some 23) (.call 17 [(.t 21), (.t 22)])] [1]) <|
  .seq (.reg false [.r (some 24) (.mv (.t 1)),
    .e (some 25) (.bs 3 1 #[(.int .i64 0)] [(0, 1, (.c (.int .i64 0)))]),
    .r (some 26) (.bd #[(.int .i64 0), (.int .i64 0), (.slice none 0 0)] [(0, 1, (.c (.int .i64 5))), (2, 1, (.t 25))]),
    .e (some 27) (.call 17 [(.t 24), (.t 26)])] [1]) <|
  .seq (.reg false [.r (some 28) (.mv (.t 1)),
    .e (some 29) (.bs 3 2 #[(.int .i64 0), (.int .i64 0)] [(0, 1, (.c (.int .i64 1))), (1, 1, (.c (.int .i64 1)))]),
    .r (some 30) (.bd #[(.int .i64 0), (.int .i64 0), (.slice none 0 0)] [(0, 1, (.c (.int .i64 2))), (1, 1, (.c (.int .i64 4))), (2, 1, (.t 29))]),
    .e (some 31) (.call 17 [(.t 28), (.t 30)])] [1]) <|
  .seq (.reg false [.r (some 33) (.mv (.t 1)),
    .e (some 34) (.bs 3 1 #[(.int .i64 0)] [(0, 1, (.c (.int .i64 1)))]),
    .r (some 35) (.bd #[(.int .i64 0), (.int .i64 0), (.slice none 0 0)] [(0, 1, (.c (.int .i64 5))), (2, 1, (.t 34))]),
    .e (some 36) (.call 17 [(.t 33), (.t 35)]),
    .r (some 32) (.mv (.t 36)),
    .r (some 37) (.ex 0 (.t 32)),
    .r (some 38) (.ex 1 (.t 32)),
    .r (some 3) (.mv (.t 37)),
    .r (some 4) (.mv (.t 38))] [1, 3, 4]) <|
  .seq (.reg false [.r (some 40) (.mv (.t 1)),
    .e (some 41) (.bs 3 2 #[(.int .i64 0), (.int .i64 0)] [(0, 1, (.c (.int .i64 3))), (1, 1, (.c (.int .i64 2)))]),
    .e (some 42) (.call 12 [(.t 40), (.c (.int .i64 2)), (.t 41)]),
    .r (some 39) (.mv (.t 42)),
    .r (some 43) (.ex 0 (.t 39)),
    .r (some 44) (.ex 1 (.t 39)),
    .r (some 5) (.mv (.t 43)),
    .r (some 6) (.mv (.t 44))] [1, 3, 4, 5, 6]) <|
  .seq (.reg false [.r (some 46) (.mv (.t 1)),
    .e (some 47) (.call 9 [(.t 46), (.c (.int .i64 1))]),
    .r (some 45) (.mv (.t 47)),
    .r (some 48) (.ex 0 (.t 45)),
    .r (some 49) (.ex 1 (.t 45)),
    .e (some 7) (.al 35 (.agg #[(.int .i64 0), (.int .i64 0), (.slice none 0 0)])),
    .e none (.st 3 (.t 7) (.t 48)),
    .r (some 8) (.mv (.t 49))] [3, 4, 5, 6, 7, 8]) <|
  .seq (.reg false [.r (some 50) (.mv (.t 5)),
    .e (some 51) (.bs 3 2 #[(.int .i64 0), (.int .i64 0)] [(0, 1, (.c (.int .i64 0))), (1, 1, (.c (.int .i64 1)))]),
    .e (some 52) (.call 11 [(.t 50), (.t 51)]),
    .r (some 9) (.mv (.t 52))] [3, 4, 6, 7, 8, 9]) <|
  .seq (.reg false [.r (some 53) (.ln 3 (.t 7)),
    .e (some 54) (.bs 3 2 #[(.int .i64 0), (.int .i64 0)] [(0, 1, (.c (.int .i64 0))), (1, 1, (.c (.int .i64 0)))]),
    .r (some 55) (.bd #[(.int .i64 0), (.int .i64 0), (.slice none 0 0)] [(0, 1, (.c (.int .i64 2))), (1, 1, (.c (.int .i64 4))), (2, 1, (.t 54))]),
    .e (some 56) (.call 18 [(.t 53), (.t 55)]),
    .r (some 10) (.mv (.t 56))] [3, 4, 6, 8, 9, 10]) <|
  .seq (.reg false [.r (some 57) (.mv (.t 3)),
    .r (some 58) (.bi .eql (.t 57) (.c (.int .i64 3))),
    .r (some 59) (.mv (.t 58)),
    .gr 59 true (some 60) (.mv (.t 4)),
    .gr 59 true (some 61) (.bi .eql (.t 60) (.c (.int .i64 0))),
    .r (some 62) (.pk (.t 59) (.t 61) (.c (.bool false))),
    .r (some 63) (.mv (.t 62)),
    .gr 63 true (some 64) (.mv (.t 6)),
    .gr 63 true (some 65) (.bi .eql (.t 64) (.c (.int .i64 0))),
    .r (some 66) (.pk (.t 63) (.t 65) (.c (.bool false))),
    .r (some 67) (.mv (.t 66)),
    .gr 67 true (some 68) (.mv (.t 9)),
    .r (some 69) (.pk (.t 67) (.t 68) (.c (.bool false))),
    .r (some 70) (.mv (.t 69)),
    .gr 70 true (some 71) (.mv (.t 8)),
    .gr 70 true (some 72) (.bi .eql (.t 71) (.c (.int .i64 0))),
    .r (some 73) (.pk (.t 70) (.t 72) (.c (.bool false))),
    .r (some 74) (.mv (.t 73)),
    .gr 74 true (some 75) (.mv (.t 10)),
    .r (some 76) (.pk (.t 74) (.t 75) (.c (.bool false))),
    .r (some 0) (.mv (.t 76))] [0]) <|
  .ret
theorem fit5 : Fits Try.prog 5 0 [(0, [], []), (1, [1, 2], []), (2, [1, 20], []), (3, [0], []), (4, [1], []), (5, [1], []), (6, [1], []), (7, [1, 3, 4], []), (8, [1, 3, 4, 5, 6], []), (9, [3, 4, 5, 6, 7, 8], []), (10, [3, 4, 6, 7, 8, 9], []), (11, [3, 4, 6, 8, 9, 10], []), (12, [0], [])] ir5 [.t 0] 77 :=
  ⟨Try.f5, _, rfl, rfl, rfl, by decide, by kernel_rfl, by kernel_rfl⟩

/- 6 sloth/slothlaw20.made (2) -/
def ir6L1 : IR := .seq (.seq (.reg false [.r (some 19) (.mv (.t 7)),
    .r (some 20) (.mv (.t 1)),
    .r (some 21) (.len (.t 20)),
    .r (some 22) (.bi .lss (.t 19) (.t 21))] [1, 5, 7, 22]) <|
  .cond (.t 22) (.skip) ((.exit 0))) <|
  .seq (.block 1 (.seq (.seq (.reg false [.r (some 25) (.mv (.t 1)),
    .r (some 26) (.mv (.t 7)),
    .r (some 27) (.ia 7 (.t 25) (.t 26)),
    .r (some 28) (.fa 1 (.t 27)),
    .r (some 29) (.l1 (.t 28)),
    .r (some 30) (.bi .eql (.t 29) (.c (.int .i64 1)))] [1, 5, 7, 30]) <|
  .cond (.t 30) (.reg false [.r (some 31) (.mv (.t 5)),
    .r (some 32) (.mv (.t 1)),
    .r (some 33) (.mv (.t 7)),
    .r (some 34) (.ia 7 (.t 32) (.t 33)),
    .r (some 35) (.fa 3 (.t 34)),
    .r (some 36) (.ln 3 (.t 35)),
    .e (some 37) (.call 17 [(.t 31), (.t 36)])] [1, 5, 7]) (.skip)) <|
  .seq (.reg false [.r (some 38) (.mv (.t 1)),
    .r (some 39) (.mv (.t 7)),
    .r (some 40) (.ia 7 (.t 38) (.t 39)),
    .r (some 41) (.fa 1 (.t 40)),
    .r (some 42) (.l1 (.t 41)),
    .r (some 43) (.bi .eql (.t 42) (.c (.int .i64 3)))] [1, 5, 7, 43]) <|
  .cond (.t 43) (.reg true [.r (some 44) (.mv (.t 5)),
    .r (some 45) (.mv (.t 1)),
    .r (some 46) (.mv (.t 7)),
    .r (some 47) (.ia 7 (.t 45) (.t 46)),
    .r (some 48) (.fa 2 (.t 47)),
    .r (some 49) (.l1 (.t 48)),
    .r (some 50) (.mv (.t 1)),
    .r (some 51) (.mv (.t 7)),
    .r (some 52) (.ia 7 (.t 50) (.t 51)),
    .r (some 53) (.fa 3 (.t 52)),
    .r (some 54) (.ln 3 (.t 53)),
    .e (some 55) (.call 19 [(.t 44), (.t 49), (.t 54)])] [1, 5, 7]) (.skip))) <|
  .reg false [.r (some 23) (.mv (.t 7)),
    .r (some 24) (.bi .add (.t 23) (.c (.int .i64 1))),
    .r (some 7) (.mv (.t 24))] [1, 5, 7]
def ir6 : IR := .seq (.reg false [.r (some 4) (.mv (.c (.pointer none)))] [0, 1]) <|
  .seq (.reg false [.r (some 9) (.mv (.t 0)),
    .e (some 10) (.call 13 [(.t 9)]),
    .r (some 8) (.mv (.t 10)),
    .r (some 11) (.ex 0 (.t 8)),
    .r (some 12) (.ex 1 (.t 8)),
    .r (some 5) (.mv (.t 11)),
    .r (some 6) (.mv (.t 12))] [1, 5, 6]) <|
  .seq (.seq (.reg false [.r (some 13) (.mv (.t 5)),
    .r (some 14) (.eq .ptr false (.t 13) (.c (.pointer none))),
    .r (some 15) (.mv (.t 14)),
    .gr 15 false (some 16) (.mv (.t 6)),
    .gr 15 false (some 17) (.bi .neq (.t 16) (.c (.int .i64 0))),
    .r (some 18) (.pk (.t 15) (.c (.bool true)) (.t 17))] [1, 5, 18]) <|
  .cond (.t 18) (.seq (.reg false [.r (some 4) (.mv (.c (.pointer none)))] [4]) <|
  .ret) (.skip)) <|
  .seq (.seq (.reg false [.r (some 7) (.mv (.c (.int .i64 0)))] [1, 5, 7]) <|
  .block 0 (.loop ir6L1)) <|
  .seq (.reg false [.r (some 56) (.mv (.t 5)),
    .r (some 4) (.mv (.t 56))] [4]) <|
  .ret
theorem fit6 : Fits Try.prog 6 2 [(0, [0, 1], []), (1, [1, 5, 6], []), (2, [1, 5, 18], []), (3, [4], []), (4, [1, 5, 7], []), (5, [1, 5, 7, 22], []), (6, [1, 5, 7], []), (7, [1, 5, 7, 30], []), (8, [1, 5, 7], []), (9, [1, 5, 7, 43], []), (10, [1, 5, 7], [0, 0, 0, 6, 14, 30, 0, 0, 192, 448, 960, 2047]), (11, [4], [])] ir6 [.t 4] 57 :=
  ⟨Try.f6, _, rfl, rfl, rfl, by decide, by kernel_rfl, by kernel_rfl⟩

/- 7 (*sloth/heap.Arena).Collect (2) -/
def ir7L1 : IR := .seq (.reg false [.r (some 42) (.bi .lss (.t 41) (.t 40))] [0, 6, 7, 39, 40, 41, 42]) <|
  .seq (.cond (.t 42) (.skip) ((.exit 0))) <|
  .seq (.block 1 (.seq (.reg false [.r (some 43) (.mv (.t 41)),
    .r (some 44) (.ia 1 (.t 39) (.t 41)),
    .r (some 45) (.l1 (.t 44)),
    .r (some 8) (.mv (.t 43)),
    .r (some 9) (.mv (.t 45))] [0, 6, 7, 8, 9, 39, 40, 41]) <|
  .reg false [.r (some 46) (.mv (.t 7)),
    .r (some 47) (.mv (.t 8)),
    .r (some 48) (.mv (.t 6)),
    .r (some 49) (.mv (.t 9)),
    .e (some 50) (.call 21 [(.t 48), (.t 49)]),
    .r (some 51) (.ia 1 (.t 46) (.t 47)),
    .e none (.st 1 (.t 51) (.t 50))] [0, 6, 7, 39, 40, 41])) <|
  .reg false [.r (some 52) (.bi .add (.t 41) (.c (.int .i64 1))),
    .r (some 41) (.mv (.t 52))] [0, 6, 7, 39, 40, 41]
def ir7L2 : IR := .seq (.reg false [.r (some 72) (.bi .lss (.t 71) (.t 70))] [0, 6, 7, 10, 69, 70, 71, 72]) <|
  .seq (.cond (.t 72) (.skip) ((.exit 4))) <|
  .seq (.block 5 (.seq (.reg false [.r (some 73) (.mv (.t 71)),
    .r (some 74) (.ia 1 (.t 69) (.t 71)),
    .r (some 75) (.l1 (.t 74)),
    .r (some 11) (.mv (.t 73)),
    .r (some 12) (.mv (.t 75))] [0, 6, 7, 10, 11, 12, 69, 70, 71]) <|
  .seq (.reg false [.r (some 76) (.mv (.t 6)),
    .r (some 77) (.mv (.t 12)),
    .e (some 78) (.call 21 [(.t 76), (.t 77)]),
    .r (some 13) (.mv (.t 78))] [0, 6, 7, 10, 11, 13, 69, 70, 71]) <|
  .reg false [.r (some 79) (.mv (.t 6)),
    .r (some 80) (.nn (.t 79)),
    .r (some 81) (.fa 1 (.t 80)),
    .r (some 82) (.l1 (.t 81)),
    .r (some 83) (.mv (.t 10)),
    .r (some 84) (.ia 3 (.t 82) (.t 83)),
    .r (some 85) (.fa 2 (.t 84)),
    .r (some 86) (.l1 (.t 85)),
    .r (some 87) (.mv (.t 11)),
    .r (some 88) (.mv (.t 13)),
    .r (some 89) (.ia 1 (.t 86) (.t 87)),
    .e none (.st 1 (.t 89) (.t 88))] [0, 6, 7, 10, 69, 70, 71])) <|
  .reg false [.r (some 90) (.bi .add (.t 71) (.c (.int .i64 1))),
    .r (some 71) (.mv (.t 90))] [0, 6, 7, 10, 69, 70, 71]
def ir7L3 : IR := .seq (.seq (.reg false [.r (some 53) (.mv (.t 10)),
    .r (some 54) (.mv (.t 6)),
    .r (some 55) (.nn (.t 54)),
    .r (some 56) (.fa 1 (.t 55)),
    .r (some 57) (.l1 (.t 56)),
    .r (some 58) (.len (.t 57)),
    .r (some 59) (.bi .lss (.t 53) (.t 58))] [0, 6, 7, 10, 59]) <|
  .cond (.t 59) (.skip) ((.exit 2))) <|
  .seq (.block 3 (.seq (.reg false [.r (some 62) (.mv (.t 6)),
    .r (some 63) (.nn (.t 62)),
    .r (some 64) (.fa 1 (.t 63)),
    .r (some 65) (.l1 (.t 64)),
    .r (some 66) (.mv (.t 10)),
    .r (some 67) (.ia 3 (.t 65) (.t 66)),
    .r (some 68) (.fa 2 (.t 67)),
    .r (some 69) (.l1 (.t 68)),
    .r (some 70) (.len (.t 69)),
    .r (some 71) (.mv (.c (.int .i64 0)))] [0, 6, 7, 10, 69, 70, 71]) <|
  .block 4 (.loop ir7L2))) <|
  .reg false [.r (some 60) (.mv (.t 10)),
    .r (some 61) (.bi .add (.t 60) (.c (.int .i64 1))),
    .r (some 10) (.mv (.t 61))] [0, 6, 7, 10]
def ir7 : IR := .seq (.reg false [.r (some 4) (.mv (.c (.slice none 0 0))),
    .r (some 5) (.mv (.c (.int .i64 0)))] [0, 1]) <|
  .seq (.seq (.reg false [.r (some 14) (.mv (.t 0)),
    .r (some 15) (.mv (.t 1)),
    .e (some 16) (.call 20 [(.t 14), (.t 15)]),
    .r (some 17) (.no (.t 16))] [0, 1, 17]) <|
  .cond (.t 17) (.seq (.reg false [.r (some 4) (.mv (.c (.slice none 0 0))),
    .r (some 5) (.mv (.c (.int .i64 202)))] [4, 5]) <|
  .ret) (.skip)) <|
  .seq (.dr (.r 0 none (some 18) (.mv (.t 0)) <|
    .r 1 none (some 19) (.nn (.t 18)) <|
    .r 2 none (some 20) (.fa 1 (.t 19)) <|
    .r 3 none (some 21) (.l1 (.t 20)) <|
    .r 4 none (some 22) (.mv (.t 0)) <|
    .r 5 none (some 23) (.nn (.t 22)) <|
    .r 6 none (some 24) (.fa 1 (.t 23)) <|
    .r 7 none (some 25) (.l1 (.t 24)) <|
    .r 8 none (some 26) (.len (.t 25)) <|
    .r 10 none (some 28) (.mv (.t 0)) <|
    .r 11 none (some 29) (.nn (.t 28)) <|
    .r 12 none (some 30) (.fa 1 (.t 29)) <|
    .r 13 none (some 31) (.l1 (.t 30)) <|
    .r 14 none (some 32) (.len (.t 31)) <|
    .e2 9 (some 27) (.ms 3 1 8 #[(.int .i64 0)] (.t 26) (.t 26)) [3, 13] (.e 15 none (some 33) (.ms 3 1 8 #[(.int .i64 0)] (.t 32) (.t 32)) [3, 7] <|
    .r 16 none (some 34) (.bd #[(.slice none 0 0), (.slice none 0 0), (.slice none 0 0), (.slice none 0 0), (.slice none 0 0)] [(0, 1, (.t 21)), (2, 1, (.t 27)), (3, 1, (.t 33))]) <|
    .e 17 none (some 35) (.bx 65 (.t 34)) [] <|
    .r 18 none (some 6) (.mv (.t 35)) <|
    .nil) 15 (some 33) (.ms 3 1 8 #[(.int .i64 0)] (.t 32) (.t 32)) [3, 7]
    (.e 9 none (some 27) (.ms 3 1 8 #[(.int .i64 0)] (.t 26) (.t 26)) [3, 13] <|
    .r 16 none (some 34) (.bd #[(.slice none 0 0), (.slice none 0 0), (.slice none 0 0), (.slice none 0 0), (.slice none 0 0)] [(0, 1, (.t 21)), (2, 1, (.t 27)), (3, 1, (.t 33))]) <|
    .e 17 none (some 35) (.bx 65 (.t 34)) [] <|
    .r 18 none (some 6) (.mv (.t 35)) <|
    .nil)) [0, 1, 6]) <|
  .seq (.reg false [.r (some 36) (.mv (.t 1)),
    .r (some 37) (.len (.t 36)),
    .e (some 38) (.ms 3 1 8 #[(.int .i64 0)] (.t 37) (.t 37)),
    .r (some 7) (.mv (.t 38))] [0, 1, 6, 7]) <|
  .seq (.seq (.reg false [.r (some 39) (.mv (.t 1)),
    .r (some 40) (.len (.t 39)),
    .r (some 41) (.mv (.c (.int .i64 0)))] [0, 6, 7, 39, 40, 41]) <|
  .block 0 (.loop ir7L1)) <|
  .seq (.seq (.reg false [.r (some 10) (.mv (.c (.int .i64 0)))] [0, 6, 7, 10]) <|
  .block 2 (.loop ir7L3)) <|
  .seq (.reg false [.r (some 91) (.mv (.t 0)),
    .r (some 92) (.mv (.t 6)),
    .r (some 93) (.nn (.t 92)),
    .r (some 94) (.fa 1 (.t 93)),
    .r (some 95) (.l1 (.t 94)),
    .r (some 96) (.nn (.t 91)),
    .r (some 97) (.fa 1 (.t 96)),
    .e none (.st 1 (.t 97) (.t 95))] [0, 7]) <|
  .seq (.reg false [.r (some 98) (.mv (.t 0)),
    .r (some 99) (.nn (.t 98)),
    .r (some 100) (.fa 2 (.t 99)),
    .r (some 101) (.l1 (.t 100)),
    .r (some 102) (.bi .add (.t 101) (.c (.int .i64 1))),
    .r (some 103) (.nn (.t 98)),
    .r (some 104) (.fa 2 (.t 103)),
    .e none (.st 1 (.t 104) (.t 102))] [7]) <|
  .seq (.reg false [.r (some 105) (.mv (.t 7)),
    .r (some 4) (.mv (.t 105)),
    .r (some 5) (.mv (.c (.int .i64 0)))] [4, 5]) <|
  .ret
theorem fit7 : Fits Try.prog 7 2 [(0, [0, 1], []), (1, [0, 1, 17], []), (2, [4, 5], []), (3, [0, 1, 6], [0, 1, 3, 7, 0, 16, 48, 112, 240, 496, 0, 1024, 3072, 7168, 15360, 31744, 65535, 131071, 262143]), (4, [0, 1, 6, 7], []), (5, [0, 6, 7, 39, 40, 41], []), (6, [0, 6, 7, 39, 40, 41, 42], []), (7, [0, 6, 7, 8, 9, 39, 40, 41], []), (8, [0, 6, 7, 39, 40, 41], []), (9, [0, 6, 7, 39, 40, 41], []), (10, [0, 6, 7, 10], []), (11, [0, 6, 7, 10, 59], []), (12, [0, 6, 7, 10], []), (13, [0, 6, 7, 10, 69, 70, 71], []), (14, [0, 6, 7, 10, 69, 70, 71, 72], []), (15, [0, 6, 7, 10, 11, 12, 69, 70, 71], []), (16, [0, 6, 7, 10, 11, 13, 69, 70, 71], []), (17, [0, 6, 7, 10, 69, 70, 71], []), (18, [0, 6, 7, 10, 69, 70, 71], []), (19, [0, 7], []), (20, [7], []), (21, [4, 5], [])] ir7 [.t 4, .t 5] 106 :=
  ⟨Try.f7, _, rfl, rfl, rfl, by decide, by kernel_rfl, by kernel_rfl⟩

/- 8 (*sloth/slothlaw20.Graph).pairs (5) -/
def ir8L1 : IR := .seq (.seq (.reg false [.r (some 21) (.mv (.t 11)),
    .r (some 22) (.mv (.t 3)),
    .r (some 23) (.len (.t 22)),
    .r (some 24) (.bi .lss (.t 21) (.t 23))] [0, 1, 2, 3, 4, 11, 24]) <|
  .cond (.t 24) (.skip) ((.exit 0))) <|
  .seq (.block 1 (.seq (.reg false [.r (some 27) (.mv (.t 1)),
    .r (some 28) (.mv (.t 3)),
    .r (some 29) (.mv (.t 11)),
    .r (some 30) (.ia 1 (.t 28) (.t 29)),
    .r (some 31) (.l1 (.t 30)),
    .e (some 32) (.call 22 [(.t 27), (.t 31)]),
    .r (some 12) (.mv (.t 32))] [0, 1, 2, 3, 4, 11, 12]) <|
  .seq (.reg false [.r (some 33) (.mv (.t 2)),
    .r (some 34) (.mv (.t 4)),
    .r (some 35) (.mv (.t 11)),
    .r (some 36) (.ia 1 (.t 34) (.t 35)),
    .r (some 37) (.l1 (.t 36)),
    .e (some 38) (.call 22 [(.t 33), (.t 37)]),
    .r (some 13) (.mv (.t 38))] [0, 1, 2, 3, 4, 11, 12, 13]) <|
  .seq (.reg false [.r (some 40) (.mv (.t 0)),
    .r (some 41) (.mv (.t 12)),
    .r (some 42) (.mv (.t 13)),
    .e (some 43) (.call 23 [(.t 40), (.t 41), (.t 42)]),
    .r (some 39) (.mv (.t 43)),
    .r (some 44) (.ex 0 (.t 39)),
    .r (some 45) (.ex 1 (.t 39)),
    .r (some 14) (.mv (.t 44)),
    .r (some 15) (.mv (.t 45))] [0, 1, 2, 3, 4, 11, 14]) <|
  .seq (.reg false [.r (some 46) (.mv (.t 14)),
    .r (some 47) (.no (.t 46))] [0, 1, 2, 3, 4, 11, 47]) <|
  .cond (.t 47) (.seq (.reg false [.r (some 10) (.mv (.c (.bool false)))] [10]) <|
  .ret) (.skip))) <|
  .reg false [.r (some 25) (.mv (.t 11)),
    .r (some 26) (.bi .add (.t 25) (.c (.int .i64 1))),
    .r (some 11) (.mv (.t 26))] [0, 1, 2, 3, 4, 11]
def ir8 : IR := .seq (.reg false [.r (some 10) (.mv (.c (.bool false)))] [0, 1, 2, 3, 4]) <|
  .seq (.seq (.reg false [.r (some 16) (.mv (.t 3)),
    .r (some 17) (.len (.t 16)),
    .r (some 18) (.mv (.t 4)),
    .r (some 19) (.len (.t 18)),
    .r (some 20) (.bi .neq (.t 17) (.t 19))] [0, 1, 2, 3, 4, 20]) <|
  .cond (.t 20) (.seq (.reg false [.r (some 10) (.mv (.c (.bool false)))] [10]) <|
  .ret) (.skip)) <|
  .seq (.seq (.reg false [.r (some 11) (.mv (.c (.int .i64 0)))] [0, 1, 2, 3, 4, 11]) <|
  .block 0 (.loop ir8L1)) <|
  .seq (.reg false [.r (some 10) (.mv (.c (.bool true)))] [10]) <|
  .ret
theorem fit8 : Fits Try.prog 8 5 [(0, [0, 1, 2, 3, 4], []), (1, [0, 1, 2, 3, 4, 20], []), (2, [10], []), (3, [0, 1, 2, 3, 4, 11], []), (4, [0, 1, 2, 3, 4, 11, 24], []), (5, [0, 1, 2, 3, 4, 11], []), (6, [0, 1, 2, 3, 4, 11, 12], []), (7, [0, 1, 2, 3, 4, 11, 12, 13], []), (8, [0, 1, 2, 3, 4, 11, 14], []), (9, [0, 1, 2, 3, 4, 11, 47], []), (10, [10], []), (11, [10], [])] ir8 [.t 10] 48 :=
  ⟨Try.f8, _, rfl, rfl, rfl, by decide, by kernel_rfl, by kernel_rfl⟩

/- 9 (*sloth/heap.Arena).Get (2) -/
def ir9 : IR := .seq (.reg false [.e (some 4) (.al 35 (.agg #[(.int .i64 0), (.int .i64 0), (.slice none 0 0)])),
    .r (some 5) (.mv (.c (.int .i64 0)))] [0, 1, 4]) <|
  .seq (.seq (.reg false [.r (some 7) (.mv (.t 0)),
    .r (some 8) (.mv (.t 1)),
    .e (some 9) (.bs 3 1 #[(.int .i64 0)] [(0, 1, (.t 8))]),
    .e (some 10) (.call 20 [(.t 7), (.t 9)]),
    .r (some 11) (.no (.t 10))] [0, 1, 4, 11]) <|
  .cond (.t 11) (.seq (.reg false [.r (some 12) (.bd #[(.int .i64 0), (.int .i64 0), (.slice none 0 0)] []),
    .e none (.st 3 (.t 4) (.t 12)),
    .r (some 5) (.mv (.c (.int .i64 202)))] [4, 5]) <|
  .ret) (.skip)) <|
  .seq (.reg false [.r (some 13) (.mv (.t 0)),
    .r (some 14) (.nn (.t 13)),
    .r (some 15) (.fa 1 (.t 14)),
    .r (some 16) (.l1 (.t 15)),
    .r (some 17) (.mv (.t 1)),
    .r (some 18) (.ia 3 (.t 16) (.t 17)),
    .r (some 19) (.ln 3 (.t 18)),
    .e (some 6) (.al 70 (.agg #[(.int .i64 0), (.int .i64 0), (.slice none 0 0)])),
    .e none (.st 3 (.t 6) (.t 19))] [4, 6]) <|
  .seq (.dr (.r 0 none (some 20) (.fa 0 (.t 6)) <|
    .r 1 none (some 21) (.fa 0 (.t 20)) <|
    .r 2 none (some 22) (.l1 (.t 21)) <|
    .r 3 none (some 23) (.fa 0 (.t 6)) <|
    .r 4 none (some 24) (.fa 1 (.t 23)) <|
    .r 5 none (some 25) (.l1 (.t 24)) <|
    .r 6 none (some 26) (.fa 2 (.t 6)) <|
    .r 7 none (some 27) (.l1 (.t 26)) <|
    .e 8 none (some 28) (.call 24 [(.t 27)]) [2, 5] <|
    .r 9 none (some 29) (.bd #[(.int .i64 0), (.int .i64 0), (.slice none 0 0)] [(0, 1, (.t 22)), (1, 1, (.t 25)), (2, 1, (.t 28))]) <|
    .e 10 none none (.st 3 (.t 4) (.t 29)) [] <|
    .r 11 none (some 5) (.mv (.c (.int .i64 0))) <|
    .nil) [4, 5]) <|
  .ret
theorem fit9 : Fits Try.prog 9 2 [(0, [0, 1, 4], []), (1, [0, 1, 4, 11], []), (2, [4, 5], []), (3, [4, 6], []), (4, [4, 5], [0, 1, 3, 0, 8, 24, 0, 64, 192, 511, 1023, 2047])] ir9 [.n 4 3, .t 5] 30 :=
  ⟨Try.f9, _, rfl, rfl, rfl, by decide, by kernel_rfl, by kernel_rfl⟩

/- 10 (*sloth/heap.Arena).Used (1) -/
def ir10 : IR := .seq (.reg false [.r (some 2) (.mv (.c (.int .i64 0)))] [0]) <|
  .seq (.reg false [.r (some 3) (.mv (.t 0)),
    .r (some 4) (.nn (.t 3)),
    .r (some 5) (.fa 1 (.t 4)),
    .r (some 6) (.l1 (.t 5)),
    .r (some 7) (.len (.t 6)),
    .r (some 2) (.mv (.t 7))] [2]) <|
  .ret
theorem fit10 : Fits Try.prog 10 1 [(0, [0], []), (1, [2], [])] ir10 [.t 2] 8 :=
  ⟨Try.f10, _, rfl, rfl, rfl, by decide, by kernel_rfl, by kernel_rfl⟩

/- 11 sloth/slothlaw20.sameInts (2) -/
def ir11L1 : IR := .seq (.seq (.reg false [.r (some 11) (.mv (.t 5)),
    .r (some 12) (.mv (.t 0)),
    .r (some 13) (.len (.t 12)),
    .r (some 14) (.bi .lss (.t 11) (.t 13))] [0, 1, 5, 14]) <|
  .cond (.t 14) (.skip) ((.exit 0))) <|
  .seq (.block 1 (.seq (.reg true [.r (some 17) (.mv (.t 0)),
    .r (some 18) (.mv (.t 5)),
    .r (some 19) (.ia 1 (.t 17) (.t 18)),
    .r (some 20) (.l1 (.t 19)),
    .r (some 21) (.mv (.t 1)),
    .r (some 22) (.mv (.t 5)),
    .r (some 23) (.ia 1 (.t 21) (.t 22)),
    .r (some 24) (.l1 (.t 23)),
    .r (some 25) (.bi .neq (.t 20) (.t 24))] [0, 1, 5, 25]) <|
  .cond (.t 25) (.seq (.reg false [.r (some 4) (.mv (.c (.bool false)))] [4]) <|
  .ret) (.skip))) <|
  .reg false [.r (some 15) (.mv (.t 5)),
    .r (some 16) (.bi .add (.t 15) (.c (.int .i64 1))),
    .r (some 5) (.mv (.t 16))] [0, 1, 5]
def ir11 : IR := .seq (.reg false [.r (some 4) (.mv (.c (.bool false)))] [0, 1]) <|
  .seq (.seq (.reg false [.r (some 6) (.mv (.t 0)),
    .r (some 7) (.len (.t 6)),
    .r (some 8) (.mv (.t 1)),
    .r (some 9) (.len (.t 8)),
    .r (some 10) (.bi .neq (.t 7) (.t 9))] [0, 1, 10]) <|
  .cond (.t 10) (.seq (.reg false [.r (some 4) (.mv (.c (.bool false)))] [4]) <|
  .ret) (.skip)) <|
  .seq (.seq (.reg false [.r (some 5) (.mv (.c (.int .i64 0)))] [0, 1, 5]) <|
  .block 0 (.loop ir11L1)) <|
  .seq (.reg false [.r (some 4) (.mv (.c (.bool true)))] [4]) <|
  .ret
theorem fit11 : Fits Try.prog 11 2 [(0, [0, 1], []), (1, [0, 1, 10], []), (2, [4], []), (3, [0, 1, 5], []), (4, [0, 1, 5, 14], []), (5, [0, 1, 5], []), (6, [0, 1, 5, 25], [0, 0, 3, 7, 0, 0, 48, 112, 255]), (7, [4], []), (8, [4], [])] ir11 [.t 4] 26 :=
  ⟨Try.f11, _, rfl, rfl, rfl, by decide, by kernel_rfl, by kernel_rfl⟩

/- 12 (*sloth/heap.Arena).Room (3) -/
def ir12 : IR := .seq (.reg false [.r (some 6) (.mv (.c (.slice none 0 0))),
    .r (some 7) (.mv (.c (.int .i64 0)))] [0, 1, 2]) <|
  .seq (.block 0 (.seq (.reg false [.r (some 9) (.mv (.t 1)),
    .r (some 10) (.bi .lss (.t 9) (.c (.int .i64 0))),
    .r (some 8) (.mv (.t 10))] [0, 1, 2, 8]) <|
  .cond (.t 8) (.seq (.reg false [.r (some 6) (.mv (.c (.slice none 0 0))),
    .r (some 7) (.mv (.c (.int .i64 1)))] [6, 7]) <|
  .ret) (.seq (.reg false [.r (some 12) (.mv (.t 0)),
    .r (some 13) (.mv (.t 2)),
    .e (some 14) (.call 20 [(.t 12), (.t 13)]),
    .r (some 15) (.no (.t 14)),
    .r (some 11) (.mv (.t 15))] [0, 1, 2, 11]) <|
  .cond (.t 11) (.seq (.reg false [.r (some 6) (.mv (.c (.slice none 0 0))),
    .r (some 7) (.mv (.c (.int .i64 202)))] [6, 7]) <|
  .ret) (.seq (.reg true [.r (some 17) (.mv (.t 1)),
    .r (some 18) (.mv (.t 0)),
    .r (some 19) (.nn (.t 18)),
    .r (some 20) (.fa 0 (.t 19)),
    .r (some 21) (.l1 (.t 20)),
    .r (some 22) (.mv (.t 0)),
    .r (some 23) (.nn (.t 22)),
    .r (some 24) (.fa 1 (.t 23)),
    .r (some 25) (.l1 (.t 24)),
    .r (some 26) (.len (.t 25)),
    .r (some 27) (.bi .sub (.t 21) (.t 26)),
    .r (some 28) (.bi .leq (.t 17) (.t 27)),
    .r (some 16) (.mv (.t 28))] [0, 1, 2, 16]) <|
  .cond (.t 16) (.seq (.reg false [.r (some 29) (.mv (.t 2)),
    .e (some 30) (.call 24 [(.t 29)]),
    .r (some 6) (.mv (.t 30)),
    .r (some 7) (.mv (.c (.int .i64 0)))] [6, 7]) <|
  .ret) (.skip))))) <|
  .seq (.reg false [.r (some 32) (.mv (.t 0)),
    .r (some 33) (.mv (.t 2)),
    .e (some 34) (.call 7 [(.t 32), (.t 33)]),
    .r (some 31) (.mv (.t 34)),
    .r (some 35) (.ex 0 (.t 31)),
    .r (some 36) (.ex 1 (.t 31)),
    .r (some 2) (.mv (.t 35))] [0, 1, 2]) <|
  .seq (.seq (.reg true [.r (some 37) (.mv (.t 1)),
    .r (some 38) (.mv (.t 0)),
    .r (some 39) (.nn (.t 38)),
    .r (some 40) (.fa 0 (.t 39)),
    .r (some 41) (.l1 (.t 40)),
    .r (some 42) (.mv (.t 0)),
    .r (some 43) (.nn (.t 42)),
    .r (some 44) (.fa 1 (.t 43)),
    .r (some 45) (.l1 (.t 44)),
    .r (some 46) (.len (.t 45)),
    .r (some 47) (.bi .sub (.t 41) (.t 46)),
    .r (some 48) (.bi .gtr (.t 37) (.t 47))] [2, 48]) <|
  .cond (.t 48) (.seq (.reg false [.r (some 6) (.mv (.c (.slice none 0 0))),
    .r (some 7) (.mv (.c (.int .i64 201)))] [6, 7]) <|
  .ret) (.skip)) <|
  .seq (.reg false [.r (some 49) (.mv (.t 2)),
    .r (some 6) (.mv (.t 49)),
    .r (some 7) (.mv (.c (.int .i64 0)))] [6, 7]) <|
  .ret
theorem fit12 : Fits Try.prog 12 3 [(0, [0, 1, 2], []), (1, [0, 1, 2, 8], []), (2, [6, 7], []), (3, [0, 1, 2, 11], []), (4, [6, 7], []), (5, [0, 1, 2, 16], [0, 0, 2, 6, 14, 0, 32, 96, 224, 480, 1022, 2047, 4095]), (6, [6, 7], []), (7, [0, 1, 2], []), (8, [2, 48], [0, 0, 2, 6, 14, 0, 32, 96, 224, 480, 1022, 2047]), (9, [6, 7], []), (10, [6, 7], [])] ir12 [.t 6, .t 7] 50 :=
  ⟨Try.f12, _, rfl, rfl, rfl, by decide, by kernel_rfl, by kernel_rfl⟩

/- 13 sloth/heap.New (1) -/
def ir13 : IR := .seq (.reg false [.r (some 2) (.mv (.c (.pointer none))),
    .r (some 3) (.mv (.c (.int .i64 0)))] [0]) <|
  .seq (.seq (.reg false [.r (some 4) (.mv (.t 0)),
    .r (some 5) (.bi .lss (.t 4) (.c (.int .i64 1))),
    .r (some 6) (.mv (.t 5)),
    .gr 6 false (some 7) (.mv (.t 0)),
    .gr 6 false (some 8) (.bi .gtr (.t 7) (.c (.int .i64 1048576))),
    .r (some 9) (.pk (.t 6) (.c (.bool true)) (.t 8))] [0, 9]) <|
  .cond (.t 9) (.seq (.reg false [.r (some 2) (.mv (.c (.pointer none))),
    .r (some 3) (.mv (.c (.int .i64 200)))] [2, 3]) <|
  .ret) (.skip)) <|
  .seq (.reg false [.r (some 10) (.mv (.t 0)),
    .r (some 11) (.bd #[(.int .i64 0), (.slice none 0 0), (.int .i64 0)] [(0, 1, (.t 10))]),
    .e (some 12) (.bx 63 (.t 11)),
    .r (some 2) (.mv (.t 12)),
    .r (some 3) (.mv (.c (.int .i64 0)))] [2, 3]) <|
  .ret
theorem fit13 : Fits Try.prog 13 1 [(0, [0], []), (1, [0, 9], []), (2, [2, 3], []), (3, [2, 3], [])] ir13 [.t 2, .t 3] 13 :=
  ⟨Try.f13, _, rfl, rfl, rfl, by decide, by kernel_rfl, by kernel_rfl⟩

/- 14 sloth/slothref20.New (1) -/
def ir14 : IR := .seq (.reg false [.r (some 2) (.mv (.c (.pointer none))),
    .r (some 3) (.mv (.c (.int .i64 0)))] [0]) <|
  .seq (.seq (.reg false [.r (some 4) (.mv (.t 0)),
    .r (some 5) (.bi .lss (.t 4) (.c (.int .i64 1))),
    .r (some 6) (.mv (.t 5)),
    .gr 6 false (some 7) (.mv (.t 0)),
    .gr 6 false (some 8) (.bi .gtr (.t 7) (.c (.int .i64 1048576))),
    .r (some 9) (.pk (.t 6) (.c (.bool true)) (.t 8))] [0, 9]) <|
  .cond (.t 9) (.seq (.reg false [.r (some 2) (.mv (.c (.pointer none))),
    .r (some 3) (.mv (.c (.int .i64 200)))] [2, 3]) <|
  .ret) (.skip)) <|
  .seq (.reg false [.r (some 10) (.mv (.t 0)),
    .r (some 11) (.bd #[(.int .i64 0), (.slice none 0 0), (.int .i64 0)] [(0, 1, (.t 10))]),
    .e (some 12) (.bx 77 (.t 11)),
    .r (some 2) (.mv (.t 12)),
    .r (some 3) (.mv (.c (.int .i64 0)))] [2, 3]) <|
  .ret
theorem fit14 : Fits Try.prog 14 1 [(0, [0], []), (1, [0, 9], []), (2, [2, 3], []), (3, [2, 3], [])] ir14 [.t 2, .t 3] 13 :=
  ⟨Try.f14, _, rfl, rfl, rfl, by decide, by kernel_rfl, by kernel_rfl⟩

/- 15 (*sloth/slothlaw20.Book).one (4) -/
def ir15L1 : IR := .seq (.seq (.reg false [.r (some 163) (.mv (.t 30)),
    .r (some 164) (.mv (.t 9)),
    .r (some 165) (.len (.t 164)),
    .r (some 166) (.bi .lss (.t 163) (.t 165))] [9, 11, 13, 28, 29, 30, 166]) <|
  .cond (.t 166) (.skip) ((.exit 1))) <|
  .seq (.block 2 (.reg false [.r (some 169) (.mv (.t 9)),
    .r (some 170) (.mv (.t 30)),
    .r (some 171) (.ia 1 (.t 169) (.t 170)),
    .e none (.st 1 (.t 171) (.c (.int .i64 (-55))))] [9, 11, 13, 28, 29, 30])) <|
  .reg false [.r (some 167) (.mv (.t 30)),
    .r (some 168) (.bi .add (.t 167) (.c (.int .i64 1))),
    .r (some 30) (.mv (.t 168))] [9, 11, 13, 28, 29, 30]
def ir15L2 : IR := .seq (.seq (.reg false [.r (some 172) (.mv (.t 31)),
    .r (some 173) (.mv (.t 11)),
    .r (some 174) (.len (.t 173)),
    .r (some 175) (.bi .lss (.t 172) (.t 174))] [11, 13, 28, 29, 31, 175]) <|
  .cond (.t 175) (.skip) ((.exit 3))) <|
  .seq (.block 4 (.reg false [.r (some 178) (.mv (.t 11)),
    .r (some 179) (.mv (.t 31)),
    .r (some 180) (.ia 1 (.t 178) (.t 179)),
    .e none (.st 1 (.t 180) (.c (.int .i64 (-55))))] [11, 13, 28, 29, 31])) <|
  .reg false [.r (some 176) (.mv (.t 31)),
    .r (some 177) (.bi .add (.t 176) (.c (.int .i64 1))),
    .r (some 31) (.mv (.t 177))] [11, 13, 28, 29, 31]
def ir15 : IR := .seq (.reg false [.e (some 7) (.bx 52 (.t 3)),
    .r (some 8) (.mv (.c (.bool false)))] [0, 1, 2, 7]) <|
  .seq (.reg false [.r (some 32) (.fa 3 (.t 7)),
    .r (some 33) (.fa 2 (.t 32)),
    .r (some 34) (.l1 (.t 33)),
    .e (some 35) (.call 25 [(.t 34)]),
    .r (some 9) (.mv (.t 35))] [0, 1, 2, 7, 9]) <|
  .seq (.dr (.r 0 none (some 36) (.fa 3 (.t 7)) <|
    .r 1 none (some 37) (.fa 0 (.t 36)) <|
    .r 2 none (some 38) (.l1 (.t 37)) <|
    .r 3 none (some 39) (.fa 3 (.t 7)) <|
    .r 4 none (some 40) (.fa 1 (.t 39)) <|
    .r 5 none (some 41) (.l1 (.t 40)) <|
    .r 6 none (some 42) (.mv (.t 9)) <|
    .r 7 none (some 43) (.fa 3 (.t 7)) <|
    .r 8 none (some 44) (.fa 2 (.t 43)) <|
    .r 9 none (some 45) (.l1 (.t 44)) <|
    .r 10 none (some 46) (.len (.t 45)) <|
    .r 11 none (some 47) (.sl 1 (.t 42) none (some (.t 46)) none) <|
    .r 12 none (some 48) (.bd #[(.int .i64 0), (.int .i64 0), (.slice none 0 0)] [(0, 1, (.t 38)), (1, 1, (.t 41)), (2, 1, (.t 47))]) <|
    .e 13 none (some 10) (.al 35 (.agg #[(.int .i64 0), (.int .i64 0), (.slice none 0 0)])) [2, 5, 9] <|
    .e 14 none none (.st 3 (.t 10) (.t 48)) [] <|
    .nil) [0, 1, 2, 7, 9, 10]) <|
  .seq (.reg false [.r (some 49) (.fa 6 (.t 7)),
    .r (some 50) (.l1 (.t 49)),
    .e (some 51) (.call 25 [(.t 50)]),
    .r (some 11) (.mv (.t 51))] [0, 1, 2, 7, 9, 10, 11]) <|
  .seq (.reg false [.r (some 52) (.mv (.t 11)),
    .r (some 53) (.fa 6 (.t 7)),
    .r (some 54) (.l1 (.t 53)),
    .r (some 55) (.len (.t 54)),
    .r (some 56) (.sl 1 (.t 52) none (some (.t 55)) none),
    .r (some 12) (.mv (.t 56))] [0, 1, 2, 7, 9, 10, 11, 12]) <|
  .seq (.reg false [.r (some 13) (.mv (.c (.bool true)))] [0, 1, 2, 7, 9, 10, 11, 12]) <|
  .seq (.seq (.reg false [.r (some 57) (.fa 1 (.t 7)),
    .r (some 58) (.l1 (.t 57))] [0, 1, 2, 7, 9, 10, 11, 12, 58]) <|
  .block 0 (.seq (.reg false [.r (some 67) (.bi .eql (.t 58) (.c (.int .i64 1))),
    .r (some 66) (.mv (.t 67))] [0, 1, 2, 7, 9, 10, 11, 12, 58, 66]) <|
  .cond (.t 66) (.seq (.reg false [.r (some 69) (.mv (.t 1)),
    .r (some 70) (.ln 3 (.t 10)),
    .e (some 71) (.call 17 [(.t 69), (.t 70)]),
    .r (some 68) (.mv (.t 71)),
    .r (some 72) (.ex 0 (.t 68)),
    .r (some 73) (.ex 1 (.t 68)),
    .r (some 14) (.mv (.t 72)),
    .r (some 15) (.mv (.t 73))] [2, 7, 9, 11, 14, 15]) <|
  .seq (.reg false [.r (some 75) (.mv (.t 2)),
    .r (some 76) (.fa 3 (.t 7)),
    .r (some 77) (.ln 3 (.t 76)),
    .e (some 78) (.call 26 [(.t 75), (.t 77)]),
    .r (some 74) (.mv (.t 78)),
    .r (some 79) (.ex 0 (.t 74)),
    .r (some 80) (.ex 1 (.t 74)),
    .r (some 16) (.mv (.t 79)),
    .r (some 17) (.mv (.t 80))] [7, 9, 11, 14, 15, 16, 17]) <|
  .reg false [.r (some 81) (.mv (.t 14)),
    .r (some 82) (.mv (.t 16)),
    .r (some 83) (.bi .eql (.t 81) (.t 82)),
    .r (some 84) (.mv (.t 83)),
    .gr 84 true (some 85) (.mv (.t 15)),
    .gr 84 true (some 86) (.mv (.t 17)),
    .gr 84 true (some 87) (.bi .eql (.t 85) (.t 86)),
    .r (some 88) (.pk (.t 84) (.t 87) (.c (.bool false))),
    .r (some 13) (.mv (.t 88))] [7, 9, 11, 13]) (.seq (.reg false [.r (some 90) (.bi .eql (.t 58) (.c (.int .i64 2))),
    .r (some 89) (.mv (.t 90))] [0, 1, 2, 7, 9, 10, 11, 12, 58, 89]) <|
  .cond (.t 89) (.seq (.reg false [.r (some 92) (.mv (.t 1)),
    .r (some 93) (.fa 2 (.t 7)),
    .r (some 94) (.l1 (.t 93)),
    .e (some 95) (.call 9 [(.t 92), (.t 94)]),
    .r (some 91) (.mv (.t 95)),
    .r (some 96) (.ex 0 (.t 91)),
    .r (some 97) (.ex 1 (.t 91)),
    .e (some 18) (.al 35 (.agg #[(.int .i64 0), (.int .i64 0), (.slice none 0 0)])),
    .e none (.st 3 (.t 18) (.t 96)),
    .r (some 19) (.mv (.t 97))] [0, 2, 7, 9, 11, 18, 19]) <|
  .seq (.reg false [.r (some 99) (.mv (.t 2)),
    .r (some 100) (.fa 2 (.t 7)),
    .r (some 101) (.l1 (.t 100)),
    .e (some 102) (.call 27 [(.t 99), (.t 101)]),
    .r (some 98) (.mv (.t 102)),
    .r (some 103) (.ex 0 (.t 98)),
    .r (some 104) (.ex 1 (.t 98)),
    .e (some 20) (.al 35 (.agg #[(.int .i64 0), (.int .i64 0), (.slice none 0 0)])),
    .e none (.st 3 (.t 20) (.t 103)),
    .r (some 21) (.mv (.t 104))] [0, 7, 9, 11, 18, 19, 20, 21]) <|
  .seq (.reg false [.r (some 105) (.ln 3 (.t 18)),
    .r (some 106) (.ln 3 (.t 20)),
    .e (some 107) (.call 18 [(.t 105), (.t 106)]),
    .r (some 13) (.mv (.t 107))] [0, 7, 9, 11, 13, 18, 19, 21]) <|
  .seq (.reg false [.r (some 108) (.mv (.t 13)),
    .r (some 109) (.mv (.t 108)),
    .gr 109 true (some 110) (.mv (.t 19)),
    .gr 109 true (some 111) (.mv (.t 21)),
    .gr 109 true (some 112) (.bi .eql (.t 110) (.t 111)),
    .r (some 113) (.pk (.t 109) (.t 112) (.c (.bool false))),
    .r (some 13) (.mv (.t 113))] [0, 7, 9, 11, 13, 18]) <|
  .reg false [.r (some 114) (.mv (.t 0)),
    .r (some 115) (.fa 2 (.t 18)),
    .r (some 116) (.l1 (.t 115)),
    .e (some 117) (.call 28 [(.t 114), (.t 116)])] [7, 9, 11, 13]) (.seq (.reg false [.r (some 119) (.bi .eql (.t 58) (.c (.int .i64 3))),
    .r (some 118) (.mv (.t 119))] [0, 1, 2, 7, 9, 10, 11, 12, 58, 118]) <|
  .cond (.t 118) (.seq (.reg false [.r (some 120) (.mv (.t 1)),
    .r (some 121) (.fa 2 (.t 7)),
    .r (some 122) (.l1 (.t 121)),
    .r (some 123) (.ln 3 (.t 10)),
    .e (some 124) (.call 19 [(.t 120), (.t 122), (.t 123)]),
    .r (some 22) (.mv (.t 124))] [2, 7, 9, 11, 22]) <|
  .seq (.reg false [.r (some 125) (.mv (.t 2)),
    .r (some 126) (.fa 2 (.t 7)),
    .r (some 127) (.l1 (.t 126)),
    .r (some 128) (.fa 3 (.t 7)),
    .r (some 129) (.ln 3 (.t 128)),
    .e (some 130) (.call 29 [(.t 125), (.t 127), (.t 129)]),
    .r (some 23) (.mv (.t 130))] [7, 9, 11, 22, 23]) <|
  .reg false [.r (some 131) (.mv (.t 22)),
    .r (some 132) (.mv (.t 23)),
    .r (some 133) (.bi .eql (.t 131) (.t 132)),
    .r (some 13) (.mv (.t 133))] [7, 9, 11, 13]) (.seq (.seq (.reg false [.r (some 135) (.bi .eql (.t 58) (.c (.int .i64 4))),
    .r (some 134) (.mv (.t 135))] [0, 1, 2, 7, 9, 11, 12, 58, 134]) <|
  .cond (.t 134) (.skip) (.reg false [.r (some 136) (.bi .eql (.t 58) (.c (.int .i64 5))),
    .r (some 134) (.mv (.t 136))] [0, 1, 2, 7, 9, 11, 12, 58, 134])) <|
  .cond (.t 134) (.reg false [.r (some 137) (.mv (.t 0)),
    .r (some 138) (.mv (.t 1)),
    .r (some 139) (.mv (.t 2)),
    .r (some 140) (.ln 7 (.t 7)),
    .r (some 141) (.mv (.t 12)),
    .e (some 142) (.call 30 [(.t 137), (.t 138), (.t 139), (.t 140), (.t 141)]),
    .r (some 13) (.mv (.t 142))] [7, 9, 11, 13]) (.seq (.reg false [.r (some 144) (.bi .eql (.t 58) (.c (.int .i64 6))),
    .r (some 143) (.mv (.t 144))] [1, 2, 7, 9, 11, 143]) <|
  .cond (.t 143) (.seq (.reg false [.r (some 145) (.mv (.t 1)),
    .e (some 146) (.call 10 [(.t 145)]),
    .r (some 24) (.mv (.t 146))] [2, 7, 9, 11, 24]) <|
  .seq (.reg false [.r (some 147) (.mv (.t 2)),
    .e (some 148) (.call 31 [(.t 147)]),
    .r (some 25) (.mv (.t 148))] [7, 9, 11, 24, 25]) <|
  .reg false [.r (some 149) (.mv (.t 24)),
    .r (some 150) (.mv (.t 25)),
    .r (some 151) (.bi .eql (.t 149) (.t 150)),
    .r (some 13) (.mv (.t 151))] [7, 9, 11, 13]) (.seq (.reg false [.r (some 59) (.mv (.t 1)),
    .e (some 60) (.call 32 [(.t 59)]),
    .r (some 26) (.mv (.t 60))] [2, 7, 9, 11, 26]) <|
  .seq (.reg false [.r (some 61) (.mv (.t 2)),
    .e (some 62) (.call 33 [(.t 61)]),
    .r (some 27) (.mv (.t 62))] [7, 9, 11, 26, 27]) <|
  .reg false [.r (some 63) (.mv (.t 26)),
    .r (some 64) (.mv (.t 27)),
    .r (some 65) (.bi .eql (.t 63) (.t 64)),
    .r (some 13) (.mv (.t 65))] [7, 9, 11, 13]))))))) <|
  .seq (.reg false [.r (some 152) (.mv (.t 9)),
    .r (some 153) (.fa 3 (.t 7)),
    .r (some 154) (.fa 2 (.t 153)),
    .r (some 155) (.l1 (.t 154)),
    .e (some 156) (.call 25 [(.t 155)]),
    .e (some 157) (.call 11 [(.t 152), (.t 156)]),
    .r (some 28) (.mv (.t 157))] [7, 9, 11, 13, 28]) <|
  .seq (.reg false [.r (some 158) (.mv (.t 11)),
    .r (some 159) (.fa 6 (.t 7)),
    .r (some 160) (.l1 (.t 159)),
    .e (some 161) (.call 25 [(.t 160)]),
    .e (some 162) (.call 11 [(.t 158), (.t 161)]),
    .r (some 29) (.mv (.t 162))] [9, 11, 13, 28, 29]) <|
  .seq (.seq (.reg false [.r (some 30) (.mv (.c (.int .i64 0)))] [9, 11, 13, 28, 29, 30]) <|
  .block 1 (.loop ir15L1)) <|
  .seq (.seq (.reg false [.r (some 31) (.mv (.c (.int .i64 0)))] [11, 13, 28, 29, 31]) <|
  .block 3 (.loop ir15L2)) <|
  .seq (.reg false [.r (some 181) (.mv (.t 13)),
    .r (some 182) (.mv (.t 181)),
    .gr 182 true (some 183) (.mv (.t 28)),
    .r (some 184) (.pk (.t 182) (.t 183) (.c (.bool false))),
    .r (some 185) (.mv (.t 184)),
    .gr 185 true (some 186) (.mv (.t 29)),
    .r (some 187) (.pk (.t 185) (.t 186) (.c (.bool false))),
    .r (some 8) (.mv (.t 187))] [8]) <|
  .ret
theorem fit15 : Fits Try.prog 15 4 [(0, [0, 1, 2, 7], []), (1, [0, 1, 2, 7, 9], []), (2, [0, 1, 2, 7, 9, 10], [0, 1, 3, 0, 8, 24, 0, 0, 128, 384, 896, 1984, 4095, 0, 16383]), (3, [0, 1, 2, 7, 9, 10, 11], []), (4, [0, 1, 2, 7, 9, 10, 11, 12], []), (5, [0, 1, 2, 7, 9, 10, 11, 12], []), (6, [0, 1, 2, 7, 9, 10, 11, 12, 58], []), (7, [2, 7, 9, 11, 26], []), (8, [7, 9, 11, 26, 27], []), (9, [7, 9, 11, 13], []), (10, [0, 1, 2, 7, 9, 10, 11, 12, 58, 66], []), (11, [2, 7, 9, 11, 14, 15], []), (12, [7, 9, 11, 14, 15, 16, 17], []), (13, [7, 9, 11, 13], []), (14, [0, 1, 2, 7, 9, 10, 11, 12, 58, 89], []), (15, [0, 2, 7, 9, 11, 18, 19], []), (16, [0, 7, 9, 11, 18, 19, 20, 21], []), (17, [0, 7, 9, 11, 13, 18, 19, 21], []), (18, [0, 7, 9, 11, 13, 18], []), (19, [7, 9, 11, 13], []), (20, [0, 1, 2, 7, 9, 10, 11, 12, 58, 118], []), (21, [2, 7, 9, 11, 22], []), (22, [7, 9, 11, 22, 23], []), (23, [7, 9, 11, 13], []), (24, [0, 1, 2, 7, 9, 11, 12, 58, 134], []), (25, [0, 1, 2, 7, 9, 11, 12, 58, 134], []), (26, [7, 9, 11, 13], []), (27, [1, 2, 7, 9, 11, 143], []), (28, [2, 7, 9, 11, 24], []), (29, [7, 9, 11, 24, 25], []), (30, [7, 9, 11, 13], []), (31, [7, 9, 11, 13, 28], []), (32, [9, 11, 13, 28, 29], []), (33, [9, 11, 13, 28, 29, 30], []), (34, [9, 11, 13, 28, 29, 30, 166], []), (35, [9, 11, 13, 28, 29, 30], []), (36, [9, 11, 13, 28, 29, 30], []), (37, [11, 13, 28, 29, 31], []), (38, [11, 13, 28, 29, 31, 175], []), (39, [11, 13, 28, 29, 31], []), (40, [11, 13, 28, 29, 31], []), (41, [8], [])] ir15 [.t 8] 188 :=
  ⟨Try.f15, _, rfl, rfl, rfl, by decide, by kernel_rfl, by kernel_rfl⟩

/- 16 (*sloth/slothlaw20.Book).still (1) -/
def ir16L1 : IR := .seq (.seq (.reg false [.r (some 14) (.mv (.t 4)),
    .r (some 15) (.mv (.t 0)),
    .r (some 16) (.nn (.t 15)),
    .r (some 17) (.fa 0 (.t 16)),
    .r (some 18) (.l1 (.t 17)),
    .r (some 19) (.mv (.t 3)),
    .r (some 20) (.ia 1 (.t 18) (.t 19)),
    .r (some 21) (.l1 (.t 20)),
    .r (some 22) (.len (.t 21)),
    .r (some 23) (.bi .lss (.t 14) (.t 22))] [0, 3, 4, 23]) <|
  .cond (.t 23) (.skip) ((.exit 2))) <|
  .seq (.block 3 (.seq (.reg true [.r (some 26) (.mv (.t 0)),
    .r (some 27) (.nn (.t 26)),
    .r (some 28) (.fa 0 (.t 27)),
    .r (some 29) (.l1 (.t 28)),
    .r (some 30) (.mv (.t 3)),
    .r (some 31) (.ia 1 (.t 29) (.t 30)),
    .r (some 32) (.l1 (.t 31)),
    .r (some 33) (.mv (.t 4)),
    .r (some 34) (.ia 1 (.t 32) (.t 33)),
    .r (some 35) (.l1 (.t 34)),
    .r (some 36) (.mv (.t 0)),
    .r (some 37) (.nn (.t 36)),
    .r (some 38) (.fa 1 (.t 37)),
    .r (some 39) (.l1 (.t 38)),
    .r (some 40) (.mv (.t 3)),
    .r (some 41) (.ia 1 (.t 39) (.t 40)),
    .r (some 42) (.l1 (.t 41)),
    .r (some 43) (.bi .neq (.t 35) (.t 42))] [0, 3, 4, 43]) <|
  .cond (.t 43) (.seq (.reg false [.r (some 2) (.mv (.c (.bool false)))] [2]) <|
  .ret) (.skip))) <|
  .reg false [.r (some 24) (.mv (.t 4)),
    .r (some 25) (.bi .add (.t 24) (.c (.int .i64 1))),
    .r (some 4) (.mv (.t 25))] [0, 3, 4]
def ir16L2 : IR := .seq (.seq (.reg false [.r (some 5) (.mv (.t 3)),
    .r (some 6) (.mv (.t 0)),
    .r (some 7) (.nn (.t 6)),
    .r (some 8) (.fa 0 (.t 7)),
    .r (some 9) (.l1 (.t 8)),
    .r (some 10) (.len (.t 9)),
    .r (some 11) (.bi .lss (.t 5) (.t 10))] [0, 3, 11]) <|
  .cond (.t 11) (.skip) ((.exit 0))) <|
  .seq (.block 1 (.seq (.reg false [.r (some 4) (.mv (.c (.int .i64 0)))] [0, 3, 4]) <|
  .block 2 (.loop ir16L1))) <|
  .reg false [.r (some 12) (.mv (.t 3)),
    .r (some 13) (.bi .add (.t 12) (.c (.int .i64 1))),
    .r (some 3) (.mv (.t 13))] [0, 3]
def ir16 : IR := .seq (.reg false [.r (some 2) (.mv (.c (.bool false)))] [0]) <|
  .seq (.seq (.reg false [.r (some 3) (.mv (.c (.int .i64 0)))] [0, 3]) <|
  .block 0 (.loop ir16L2)) <|
  .seq (.reg false [.r (some 2) (.mv (.c (.bool true)))] [2]) <|
  .ret
theorem fit16 : Fits Try.prog 16 1 [(0, [0], []), (1, [0, 3], []), (2, [0, 3, 11], []), (3, [0, 3], []), (4, [0, 3, 4], []), (5, [0, 3, 4, 23], []), (6, [0, 3, 4], []), (7, [0, 3, 4, 43], [0, 1, 3, 7, 0, 31, 63, 0, 255, 511, 0, 1024, 3072, 7168, 0, 31744, 64512, 131071]), (8, [2], []), (9, [2], [])] ir16 [.t 2] 44 :=
  ⟨Try.f16, _, rfl, rfl, rfl, by decide, by kernel_rfl, by kernel_rfl⟩

/- 17 (*sloth/heap.Arena).Add (2) -/
def ir17 : IR := .seq (.reg false [.e (some 3) (.bx 35 (.t 1)),
    .r (some 4) (.mv (.c (.int .i64 0))),
    .r (some 5) (.mv (.c (.int .i64 0)))] [0, 3]) <|
  .seq (.block 0 (.seq (.reg false [.r (some 7) (.ln 3 (.t 3)),
    .e (some 8) (.call 34 [(.t 7)]),
    .r (some 9) (.no (.t 8)),
    .r (some 6) (.mv (.t 9))] [0, 3, 6]) <|
  .cond (.t 6) (.seq (.reg false [.r (some 4) (.mv (.c (.int .i64 0))),
    .r (some 5) (.mv (.c (.int .i64 1)))] [4, 5]) <|
  .ret) (.seq (.reg false [.r (some 11) (.mv (.t 0)),
    .r (some 12) (.fa 2 (.t 3)),
    .r (some 13) (.l1 (.t 12)),
    .e (some 14) (.call 20 [(.t 11), (.t 13)]),
    .r (some 15) (.no (.t 14)),
    .r (some 10) (.mv (.t 15))] [0, 3, 10]) <|
  .cond (.t 10) (.seq (.reg false [.r (some 4) (.mv (.c (.int .i64 0))),
    .r (some 5) (.mv (.c (.int .i64 202)))] [4, 5]) <|
  .ret) (.seq (.reg true [.r (some 17) (.mv (.t 0)),
    .r (some 18) (.nn (.t 17)),
    .r (some 19) (.fa 1 (.t 18)),
    .r (some 20) (.l1 (.t 19)),
    .r (some 21) (.len (.t 20)),
    .r (some 22) (.mv (.t 0)),
    .r (some 23) (.nn (.t 22)),
    .r (some 24) (.fa 0 (.t 23)),
    .r (some 25) (.l1 (.t 24)),
    .r (some 26) (.bi .eql (.t 21) (.t 25)),
    .r (some 16) (.mv (.t 26))] [0, 3, 16]) <|
  .cond (.t 16) (.seq (.reg false [.r (some 4) (.mv (.c (.int .i64 0))),
    .r (some 5) (.mv (.c (.int .i64 201)))] [4, 5]) <|
  .ret) (.skip))))) <|
  .seq (.dr (.r 0 none (some 27) (.mv (.t 0)) <|
    .r 1 none (some 28) (.mv (.t 0)) <|
    .r 2 none (some 29) (.nn (.t 28)) <|
    .r 3 none (some 30) (.fa 1 (.t 29)) <|
    .r 4 none (some 31) (.l1 (.t 30)) <|
    .r 5 none (some 32) (.ln 3 (.t 3)) <|
    .e 6 none (some 33) (.call 35 [(.t 32)]) [4] <|
    .e 7 none (some 34) (.bs 70 1 #[(.int .i64 0), (.int .i64 0), (.slice none 0 0)] [(0, 3, (.t 33))]) [4] <|
    .e 8 none (some 35) (.ap 70 3 40 #[(.int .i64 0), (.int .i64 0), (.slice none 0 0)] (.t 31) (.t 34)) [] <|
    .r 9 none (some 36) (.nn (.t 27)) <|
    .r 10 none (some 37) (.fa 1 (.t 36)) <|
    .e 11 none none (.st 1 (.t 37) (.t 35)) [] <|
    .nil) [0]) <|
  .seq (.reg false [.r (some 38) (.mv (.t 0)),
    .r (some 39) (.nn (.t 38)),
    .r (some 40) (.fa 1 (.t 39)),
    .r (some 41) (.l1 (.t 40)),
    .r (some 42) (.len (.t 41)),
    .r (some 43) (.bi .sub (.t 42) (.c (.int .i64 1))),
    .r (some 4) (.mv (.t 43)),
    .r (some 5) (.mv (.c (.int .i64 0)))] [4, 5]) <|
  .ret
theorem fit17 : Fits Try.prog 17 2 [(0, [0, 3], []), (1, [0, 3, 6], []), (2, [4, 5], []), (3, [0, 3, 10], []), (4, [4, 5], []), (5, [0, 3, 16], [0, 1, 3, 7, 15, 0, 32, 96, 224, 511, 1023]), (6, [4, 5], []), (7, [0], [0, 0, 2, 6, 14, 0, 32, 96, 254, 511, 1023, 2047]), (8, [4, 5], [])] ir17 [.t 4, .t 5] 44 :=
  ⟨Try.f17, _, rfl, rfl, rfl, by decide, by kernel_rfl, by kernel_rfl⟩

/- 18 sloth/slothlaw20.same (2) -/
def ir18 : IR := .seq (.reg false [.e (some 2) (.bx 35 (.t 0)),
    .e (some 3) (.bx 35 (.t 1)),
    .r (some 4) (.mv (.c (.bool false)))] [2, 3]) <|
  .seq (.reg false [.r (some 6) (.fa 2 (.t 2)),
    .r (some 7) (.l1 (.t 6)),
    .r (some 8) (.fa 2 (.t 3)),
    .r (some 9) (.l1 (.t 8)),
    .e (some 10) (.call 11 [(.t 7), (.t 9)]),
    .r (some 5) (.mv (.t 10))] [2, 3, 5]) <|
  .seq (.reg false [.r (some 11) (.mv (.t 5)),
    .r (some 12) (.mv (.t 11)),
    .gr 12 true (some 13) (.fa 0 (.t 2)),
    .gr 12 true (some 14) (.l1 (.t 13)),
    .gr 12 true (some 15) (.fa 0 (.t 3)),
    .gr 12 true (some 16) (.l1 (.t 15)),
    .gr 12 true (some 17) (.bi .eql (.t 14) (.t 16)),
    .r (some 18) (.pk (.t 12) (.t 17) (.c (.bool false))),
    .r (some 19) (.mv (.t 18)),
    .gr 19 true (some 20) (.fa 1 (.t 2)),
    .gr 19 true (some 21) (.l1 (.t 20)),
    .gr 19 true (some 22) (.fa 1 (.t 3)),
    .gr 19 true (some 23) (.l1 (.t 22)),
    .gr 19 true (some 24) (.bi .eql (.t 21) (.t 23)),
    .r (some 25) (.pk (.t 19) (.t 24) (.c (.bool false))),
    .r (some 4) (.mv (.t 25))] [4]) <|
  .ret
theorem fit18 : Fits Try.prog 18 2 [(0, [2, 3], []), (1, [2, 3, 5], []), (2, [4], [])] ir18 [.t 4] 26 :=
  ⟨Try.f18, _, rfl, rfl, rfl, by decide, by kernel_rfl, by kernel_rfl⟩

/- 19 (*sloth/heap.Arena).Set (3) -/
def ir19 : IR := .seq (.reg false [.e (some 5) (.bx 35 (.t 2)),
    .r (some 6) (.mv (.c (.int .i64 0)))] [0, 1, 5]) <|
  .seq (.block 0 (.seq (.reg false [.r (some 8) (.mv (.t 0)),
    .r (some 9) (.mv (.t 1)),
    .e (some 10) (.bs 3 1 #[(.int .i64 0)] [(0, 1, (.t 9))]),
    .e (some 11) (.call 20 [(.t 8), (.t 10)]),
    .r (some 12) (.no (.t 11)),
    .r (some 7) (.mv (.t 12))] [0, 1, 5, 7]) <|
  .cond (.t 7) (.seq (.reg false [.r (some 6) (.mv (.c (.int .i64 202)))] [6]) <|
  .ret) (.seq (.reg false [.r (some 14) (.ln 3 (.t 5)),
    .e (some 15) (.call 34 [(.t 14)]),
    .r (some 16) (.no (.t 15)),
    .r (some 13) (.mv (.t 16))] [0, 1, 5, 13]) <|
  .cond (.t 13) (.seq (.reg false [.r (some 6) (.mv (.c (.int .i64 1)))] [6]) <|
  .ret) (.seq (.reg false [.r (some 18) (.mv (.t 0)),
    .r (some 19) (.fa 2 (.t 5)),
    .r (some 20) (.l1 (.t 19)),
    .e (some 21) (.call 20 [(.t 18), (.t 20)]),
    .r (some 22) (.no (.t 21)),
    .r (some 17) (.mv (.t 22))] [0, 1, 5, 17]) <|
  .cond (.t 17) (.seq (.reg false [.r (some 6) (.mv (.c (.int .i64 202)))] [6]) <|
  .ret) (.skip))))) <|
  .seq (.seq (.reg true [.r (some 23) (.fa 2 (.t 5)),
    .r (some 24) (.l1 (.t 23)),
    .r (some 25) (.len (.t 24)),
    .r (some 26) (.bi .eql (.t 25) (.c (.int .i64 0))),
    .r (some 27) (.mv (.t 26)),
    .gr 27 true (some 28) (.mv (.t 0)),
    .gr 27 true (some 29) (.nn (.t 28)),
    .gr 27 true (some 30) (.fa 1 (.t 29)),
    .gr 27 true (some 31) (.l1 (.t 30)),
    .gr 27 true (some 32) (.mv (.t 1)),
    .gr 27 true (some 33) (.ia 3 (.t 31) (.t 32)),
    .gr 27 true (some 34) (.fa 0 (.t 33)),
    .gr 27 true (some 35) (.ln 2 (.t 34)),
    .gr 27 true (some 36) (.fa 0 (.t 5)),
    .gr 27 true (some 37) (.l1 (.t 36)),
    .gr 27 true (some 38) (.fa 1 (.t 5)),
    .gr 27 true (some 39) (.l1 (.t 38)),
    .gr 27 true (some 40) (.bd #[(.int .i64 0), (.int .i64 0)] [(0, 1, (.t 37)), (1, 1, (.t 39))]),
    .gr 27 true (some 41) (.eqa false [(0, .int), (1, .int)] (.t 35) (.t 40)),
    .r (some 42) (.pk (.t 27) (.t 41) (.c (.bool false))),
    .r (some 43) (.mv (.t 42)),
    .gr 43 true (some 44) (.mv (.t 0)),
    .gr 43 true (some 45) (.nn (.t 44)),
    .gr 43 true (some 46) (.fa 1 (.t 45)),
    .gr 43 true (some 47) (.l1 (.t 46)),
    .gr 43 true (some 48) (.mv (.t 1)),
    .gr 43 true (some 49) (.ia 3 (.t 47) (.t 48)),
    .gr 43 true (some 50) (.fa 2 (.t 49)),
    .gr 43 true (some 51) (.l1 (.t 50)),
    .gr 43 true (some 52) (.len (.t 51)),
    .gr 43 true (some 53) (.bi .eql (.t 52) (.c (.int .i64 0))),
    .r (some 54) (.pk (.t 43) (.t 53) (.c (.bool false)))] [0, 1, 5, 54]) <|
  .cond (.t 54) (.seq (.reg false [.r (some 6) (.mv (.c (.int .i64 0)))] [6]) <|
  .ret) (.skip)) <|
  .seq (.dr (.r 0 none (some 55) (.mv (.t 0)) <|
    .r 1 none (some 56) (.nn (.t 55)) <|
    .r 2 none (some 57) (.fa 1 (.t 56)) <|
    .r 3 none (some 58) (.l1 (.t 57)) <|
    .r 4 none (some 59) (.mv (.t 1)) <|
    .r 5 none (some 60) (.ln 3 (.t 5)) <|
    .e 6 none (some 61) (.call 35 [(.t 60)]) [3] <|
    .r 7 none (some 62) (.ia 3 (.t 58) (.t 59)) <|
    .e 8 none none (.st 3 (.t 62) (.t 61)) [] <|
    .nil) []) <|
  .seq (.reg false [.r (some 6) (.mv (.c (.int .i64 0)))] [6]) <|
  .ret
theorem fit19 : Fits Try.prog 19 3 [(0, [0, 1, 5], []), (1, [0, 1, 5, 7], []), (2, [6], []), (3, [0, 1, 5, 13], []), (4, [6], []), (5, [0, 1, 5, 17], []), (6, [6], []), (7, [0, 1, 5, 54], [0, 1, 3, 7, 15, 31, 63, 127, 255, 31, 1023, 2047, 4095, 31, 8223, 31, 32799, 122911, 262143, 524287, 1048575, 2097151, 4194303, 8388607, 16777215, 2097151, 67108863, 134217727, 268435455, 536870911, 1073741823, 2147483647]), (8, [6], []), (9, [], [0, 1, 3, 7, 0, 0, 32, 127, 255]), (10, [6], [])] ir19 [.t 6] 63 :=
  ⟨Try.f19, _, rfl, rfl, rfl, by decide, by kernel_rfl, by kernel_rfl⟩

/- 20 (*sloth/heap.Arena).places (2) -/
def ir20L1 : IR := .seq (.reg false [.r (some 10) (.bi .lss (.t 9) (.t 8))] [0, 7, 8, 9, 10]) <|
  .seq (.cond (.t 10) (.skip) ((.exit 0))) <|
  .seq (.block 1 (.seq (.reg false [.r (some 11) (.ia 1 (.t 7) (.t 9)),
    .r (some 12) (.l1 (.t 11)),
    .r (some 6) (.mv (.t 12))] [0, 6, 7, 8, 9]) <|
  .seq (.reg false [.r (some 13) (.mv (.t 6)),
    .r (some 14) (.bi .lss (.t 13) (.c (.int .i64 0))),
    .r (some 15) (.mv (.t 14)),
    .gr 15 false (some 16) (.mv (.t 6)),
    .gr 15 false (some 17) (.mv (.t 0)),
    .gr 15 false (some 18) (.nn (.t 17)),
    .gr 15 false (some 19) (.fa 1 (.t 18)),
    .gr 15 false (some 20) (.l1 (.t 19)),
    .gr 15 false (some 21) (.len (.t 20)),
    .gr 15 false (some 22) (.bi .geq (.t 16) (.t 21)),
    .r (some 23) (.pk (.t 15) (.c (.bool true)) (.t 22))] [0, 7, 8, 9, 23]) <|
  .cond (.t 23) (.seq (.reg false [.r (some 4) (.mv (.c (.bool false)))] [4]) <|
  .ret) (.skip))) <|
  .reg false [.r (some 24) (.bi .add (.t 9) (.c (.int .i64 1))),
    .r (some 9) (.mv (.t 24))] [0, 7, 8, 9]
def ir20 : IR := .seq (.reg false [.r (some 4) (.mv (.c (.bool false)))] [0, 1]) <|
  .seq (.seq (.reg false [.r (some 7) (.mv (.t 1)),
    .r (some 8) (.len (.t 7)),
    .r (some 9) (.mv (.c (.int .i64 0)))] [0, 7, 8, 9]) <|
  .block 0 (.loop ir20L1)) <|
  .seq (.reg false [.r (some 4) (.mv (.c (.bool true)))] [4]) <|
  .ret
theorem fit20 : Fits Try.prog 20 2 [(0, [0, 1], []), (1, [0, 7, 8, 9], []), (2, [0, 7, 8, 9, 10], []), (3, [0, 6, 7, 8, 9], []), (4, [0, 7, 8, 9, 23], []), (5, [4], []), (6, [0, 7, 8, 9], []), (7, [4], [])] ir20 [.t 4] 25 :=
  ⟨Try.f20, _, rfl, rfl, rfl, by decide, by kernel_rfl, by kernel_rfl⟩

/- 21 (*sloth/heap.mover).move (2) -/
def ir21 : IR := .seq (.reg false [.r (some 4) (.mv (.c (.int .i64 0)))] [0, 1]) <|
  .seq (.reg false [.r (some 5) (.mv (.t 0)),
    .r (some 6) (.mv (.t 1)),
    .e (some 7) (.call 36 [(.t 5), (.t 6)]),
    .r (some 1) (.mv (.t 7))] [0, 1]) <|
  .seq (.seq (.reg false [.r (some 8) (.mv (.t 0)),
    .r (some 9) (.nn (.t 8)),
    .r (some 10) (.fa 3 (.t 9)),
    .r (some 11) (.l1 (.t 10)),
    .r (some 12) (.mv (.t 1)),
    .r (some 13) (.ia 1 (.t 11) (.t 12)),
    .r (some 14) (.l1 (.t 13)),
    .r (some 15) (.bi .eql (.t 14) (.c (.int .i64 0)))] [0, 1, 15]) <|
  .cond (.t 15) (.seq (.dr (.r 0 none (some 16) (.mv (.t 0)) <|
    .r 1 none (some 17) (.mv (.t 0)) <|
    .r 2 none (some 18) (.nn (.t 17)) <|
    .r 3 none (some 19) (.fa 1 (.t 18)) <|
    .r 4 none (some 20) (.l1 (.t 19)) <|
    .r 5 none (some 21) (.mv (.t 0)) <|
    .r 6 none (some 22) (.nn (.t 21)) <|
    .r 7 none (some 23) (.fa 0 (.t 22)) <|
    .r 8 none (some 24) (.l1 (.t 23)) <|
    .r 9 none (some 25) (.mv (.t 1)) <|
    .r 10 none (some 26) (.ia 3 (.t 24) (.t 25)) <|
    .r 11 none (some 27) (.fa 0 (.t 26)) <|
    .r 12 none (some 28) (.ln 2 (.t 27)) <|
    .r 13 none (some 29) (.mv (.t 0)) <|
    .r 14 none (some 30) (.nn (.t 29)) <|
    .r 15 none (some 31) (.fa 0 (.t 30)) <|
    .r 16 none (some 32) (.l1 (.t 31)) <|
    .r 17 none (some 33) (.mv (.t 1)) <|
    .r 18 none (some 34) (.ia 3 (.t 32) (.t 33)) <|
    .r 19 none (some 35) (.fa 2 (.t 34)) <|
    .r 20 none (some 36) (.l1 (.t 35)) <|
    .e 21 none (some 37) (.call 24 [(.t 36)]) [4, 8, 12] <|
    .r 22 none (some 38) (.bd #[(.int .i64 0), (.int .i64 0), (.slice none 0 0)] [(0, 2, (.t 28)), (2, 1, (.t 37))]) <|
    .e 23 none (some 39) (.bs 70 1 #[(.int .i64 0), (.int .i64 0), (.slice none 0 0)] [(0, 3, (.t 38))]) [4] <|
    .e 24 none (some 40) (.ap 70 3 40 #[(.int .i64 0), (.int .i64 0), (.slice none 0 0)] (.t 20) (.t 39)) [] <|
    .r 25 none (some 41) (.nn (.t 16)) <|
    .r 26 none (some 42) (.fa 1 (.t 41)) <|
    .e 27 none none (.st 1 (.t 42) (.t 40)) [] <|
    .nil) [0, 1]) <|
  .reg true [.r (some 43) (.mv (.t 0)),
    .r (some 44) (.nn (.t 43)),
    .r (some 45) (.fa 3 (.t 44)),
    .r (some 46) (.l1 (.t 45)),
    .r (some 47) (.mv (.t 1)),
    .r (some 48) (.mv (.t 0)),
    .r (some 49) (.nn (.t 48)),
    .r (some 50) (.fa 1 (.t 49)),
    .r (some 51) (.l1 (.t 50)),
    .r (some 52) (.len (.t 51)),
    .r (some 53) (.ia 1 (.t 46) (.t 47)),
    .e none (.st 1 (.t 53) (.t 52))] [0, 1]) (.skip)) <|
  .seq (.reg false [.r (some 54) (.mv (.t 0)),
    .r (some 55) (.nn (.t 54)),
    .r (some 56) (.fa 3 (.t 55)),
    .r (some 57) (.l1 (.t 56)),
    .r (some 58) (.mv (.t 1)),
    .r (some 59) (.ia 1 (.t 57) (.t 58)),
    .r (some 60) (.l1 (.t 59)),
    .r (some 61) (.bi .sub (.t 60) (.c (.int .i64 1))),
    .r (some 4) (.mv (.t 61))] [4]) <|
  .ret
theorem fit21 : Fits Try.prog 21 2 [(0, [0, 1], []), (1, [0, 1], []), (2, [0, 1, 15], []), (3, [0, 1], [0, 0, 2, 6, 14, 0, 32, 96, 224, 0, 992, 2016, 4064, 0, 8192, 24576, 57344, 0, 253952, 516096, 1040384, 2088960, 4194272, 8388576, 16777214, 33554431, 67108863, 134217727]), (4, [0, 1], [0, 1, 3, 7, 0, 0, 32, 96, 224, 480, 1023, 2047]), (5, [4], [])] ir21 [.t 4] 62 :=
  ⟨Try.f21, _, rfl, rfl, rfl, by decide, by kernel_rfl, by kernel_rfl⟩

/- 22 sloth/slothlaw20.over (2) -/
def ir22L1 : IR := .seq (.seq (.reg false [.r (some 19) (.mv (.t 8)),
    .r (some 20) (.mv (.t 5)),
    .r (some 21) (.bi .leq (.t 19) (.t 20)),
    .r (some 22) (.mv (.t 21)),
    .gr 22 true (some 23) (.fa 0 (.t 6)),
    .gr 22 true (some 24) (.l1 (.t 23)),
    .gr 22 true (some 25) (.bi .eql (.t 24) (.c (.int .i64 5))),
    .r (some 26) (.pk (.t 22) (.t 25) (.c (.bool false))),
    .r (some 27) (.mv (.t 26)),
    .gr 27 true (some 28) (.fa 2 (.t 6)),
    .gr 27 true (some 29) (.l1 (.t 28)),
    .gr 27 true (some 30) (.len (.t 29)),
    .gr 27 true (some 31) (.bi .eql (.t 30) (.c (.int .i64 1))),
    .r (some 32) (.pk (.t 27) (.t 31) (.c (.bool false)))] [0, 1, 5, 6, 8, 32]) <|
  .cond (.t 32) (.skip) ((.exit 0))) <|
  .seq (.block 1 (.seq (.reg false [.r (some 35) (.fa 2 (.t 6)),
    .r (some 36) (.l1 (.t 35)),
    .r (some 37) (.ia 1 (.t 36) (.c (.int .i64 0))),
    .r (some 38) (.l1 (.t 37)),
    .r (some 1) (.mv (.t 38))] [0, 1, 5, 6, 8]) <|
  .reg false [.r (some 40) (.mv (.t 0)),
    .r (some 41) (.mv (.t 1)),
    .e (some 42) (.call 9 [(.t 40), (.t 41)]),
    .r (some 39) (.mv (.t 42)),
    .r (some 43) (.ex 0 (.t 39)),
    .r (some 44) (.ex 1 (.t 39)),
    .e none (.st 3 (.t 6) (.t 43))] [0, 1, 5, 6, 8])) <|
  .reg false [.r (some 33) (.mv (.t 8)),
    .r (some 34) (.bi .add (.t 33) (.c (.int .i64 1))),
    .r (some 8) (.mv (.t 34))] [0, 1, 5, 6, 8]
def ir22L2 : IR := .seq (.seq (.reg false [.r (some 46) (.mv (.t 10)),
    .r (some 47) (.mv (.t 5)),
    .r (some 48) (.bi .leq (.t 46) (.t 47)),
    .r (some 49) (.mv (.t 48)),
    .gr 49 true (some 50) (.fa 0 (.t 6)),
    .gr 49 true (some 51) (.l1 (.t 50)),
    .gr 49 true (some 52) (.bi .eql (.t 51) (.c (.int .i64 5))),
    .r (some 53) (.pk (.t 49) (.t 52) (.c (.bool false))),
    .r (some 54) (.mv (.t 53)),
    .gr 54 true (some 55) (.fa 2 (.t 6)),
    .gr 54 true (some 56) (.l1 (.t 55)),
    .gr 54 true (some 57) (.len (.t 56)),
    .gr 54 true (some 58) (.bi .eql (.t 57) (.c (.int .i64 1))),
    .r (some 59) (.pk (.t 54) (.t 58) (.c (.bool false)))] [0, 5, 6, 9, 10, 59]) <|
  .cond (.t 59) (.skip) ((.exit 2))) <|
  .seq (.block 3 (.seq (.reg false [.r (some 62) (.fa 2 (.t 6)),
    .r (some 63) (.l1 (.t 62)),
    .r (some 64) (.ia 1 (.t 63) (.c (.int .i64 0))),
    .r (some 65) (.l1 (.t 64)),
    .r (some 1) (.mv (.t 65))] [0, 1, 5, 6, 9, 10]) <|
  .seq (.reg false [.r (some 66) (.mv (.t 9)),
    .r (some 67) (.mv (.t 1)),
    .r (some 68) (.mm false (.t 66) (.t 67)),
    .r (some 9) (.mv (.t 68))] [0, 1, 5, 6, 9, 10]) <|
  .reg false [.r (some 70) (.mv (.t 0)),
    .r (some 71) (.mv (.t 1)),
    .e (some 72) (.call 9 [(.t 70), (.t 71)]),
    .r (some 69) (.mv (.t 72)),
    .r (some 73) (.ex 0 (.t 69)),
    .r (some 74) (.ex 1 (.t 69)),
    .e none (.st 3 (.t 6) (.t 73))] [0, 5, 6, 9, 10])) <|
  .reg false [.r (some 60) (.mv (.t 10)),
    .r (some 61) (.bi .add (.t 60) (.c (.int .i64 1))),
    .r (some 10) (.mv (.t 61))] [0, 5, 6, 9, 10]
def ir22 : IR := .seq (.reg false [.r (some 4) (.mv (.c (.int .i64 0)))] [0, 1]) <|
  .seq (.reg false [.r (some 11) (.mv (.t 0)),
    .e (some 12) (.call 10 [(.t 11)]),
    .r (some 5) (.mv (.t 12))] [0, 1, 5]) <|
  .seq (.reg false [.r (some 14) (.mv (.t 0)),
    .r (some 15) (.mv (.t 1)),
    .e (some 16) (.call 9 [(.t 14), (.t 15)]),
    .r (some 13) (.mv (.t 16)),
    .r (some 17) (.ex 0 (.t 13)),
    .r (some 18) (.ex 1 (.t 13)),
    .e (some 6) (.al 35 (.agg #[(.int .i64 0), (.int .i64 0), (.slice none 0 0)])),
    .e none (.st 3 (.t 6) (.t 17)),
    .r (some 7) (.mv (.t 18))] [0, 1, 5, 6]) <|
  .seq (.seq (.reg false [.r (some 8) (.mv (.c (.int .i64 0)))] [0, 1, 5, 6, 8]) <|
  .block 0 (.loop ir22L1)) <|
  .seq (.reg false [.r (some 45) (.mv (.t 1)),
    .r (some 9) (.mv (.t 45))] [0, 5, 6, 9]) <|
  .seq (.seq (.reg false [.r (some 10) (.mv (.c (.int .i64 0)))] [0, 5, 6, 9, 10]) <|
  .block 2 (.loop ir22L2)) <|
  .seq (.reg false [.r (some 75) (.mv (.t 9)),
    .r (some 4) (.mv (.t 75))] [4]) <|
  .ret
theorem fit22 : Fits Try.prog 22 2 [(0, [0, 1], []), (1, [0, 1, 5], []), (2, [0, 1, 5, 6], []), (3, [0, 1, 5, 6, 8], []), (4, [0, 1, 5, 6, 8, 32], []), (5, [0, 1, 5, 6, 8], []), (6, [0, 1, 5, 6, 8], []), (7, [0, 1, 5, 6, 8], []), (8, [0, 5, 6, 9], []), (9, [0, 5, 6, 9, 10], []), (10, [0, 5, 6, 9, 10, 59], []), (11, [0, 5, 6, 9, 10], []), (12, [0, 1, 5, 6, 9, 10], []), (13, [0, 1, 5, 6, 9, 10], []), (14, [0, 5, 6, 9, 10], []), (15, [4], [])] ir22 [.t 4] 76 :=
  ⟨Try.f22, _, rfl, rfl, rfl, by decide, by kernel_rfl, by kernel_rfl⟩

/- 23 (*sloth/slothlaw20.Graph).pair (3) -/
def ir23L1 : IR := .seq (.seq (.reg false [.r (some 9) (.mv (.t 8)),
    .r (some 10) (.mv (.t 0)),
    .r (some 11) (.nn (.t 10)),
    .r (some 12) (.fa 0 (.t 11)),
    .r (some 13) (.l1 (.t 12)),
    .r (some 14) (.len (.t 13)),
    .r (some 15) (.bi .lss (.t 9) (.t 14))] [0, 1, 2, 8, 15]) <|
  .cond (.t 15) (.skip) ((.exit 0))) <|
  .seq (.block 1 (.seq (.reg false [.r (some 18) (.mv (.t 0)),
    .r (some 19) (.nn (.t 18)),
    .r (some 20) (.fa 0 (.t 19)),
    .r (some 21) (.l1 (.t 20)),
    .r (some 22) (.mv (.t 8)),
    .r (some 23) (.ia 1 (.t 21) (.t 22)),
    .r (some 24) (.l1 (.t 23)),
    .r (some 25) (.mv (.t 1)),
    .r (some 26) (.bi .eql (.t 24) (.t 25)),
    .r (some 27) (.mv (.t 26)),
    .gr 27 false (some 28) (.mv (.t 0)),
    .gr 27 false (some 29) (.nn (.t 28)),
    .gr 27 false (some 30) (.fa 1 (.t 29)),
    .gr 27 false (some 31) (.l1 (.t 30)),
    .gr 27 false (some 32) (.mv (.t 8)),
    .gr 27 false (some 33) (.ia 1 (.t 31) (.t 32)),
    .gr 27 false (some 34) (.l1 (.t 33)),
    .gr 27 false (some 35) (.mv (.t 2)),
    .gr 27 false (some 36) (.bi .eql (.t 34) (.t 35)),
    .r (some 37) (.pk (.t 27) (.c (.bool true)) (.t 36))] [0, 1, 2, 8, 37]) <|
  .cond (.t 37) (.seq (.reg false [.r (some 38) (.mv (.t 0)),
    .r (some 39) (.nn (.t 38)),
    .r (some 40) (.fa 0 (.t 39)),
    .r (some 41) (.l1 (.t 40)),
    .r (some 42) (.mv (.t 8)),
    .r (some 43) (.ia 1 (.t 41) (.t 42)),
    .r (some 44) (.l1 (.t 43)),
    .r (some 45) (.mv (.t 1)),
    .r (some 46) (.bi .eql (.t 44) (.t 45)),
    .r (some 47) (.mv (.t 46)),
    .gr 47 true (some 48) (.mv (.t 0)),
    .gr 47 true (some 49) (.nn (.t 48)),
    .gr 47 true (some 50) (.fa 1 (.t 49)),
    .gr 47 true (some 51) (.l1 (.t 50)),
    .gr 47 true (some 52) (.mv (.t 8)),
    .gr 47 true (some 53) (.ia 1 (.t 51) (.t 52)),
    .gr 47 true (some 54) (.l1 (.t 53)),
    .gr 47 true (some 55) (.mv (.t 2)),
    .gr 47 true (some 56) (.bi .eql (.t 54) (.t 55)),
    .r (some 57) (.pk (.t 47) (.t 56) (.c (.bool false))),
    .r (some 6) (.mv (.t 57)),
    .r (some 7) (.mv (.c (.bool false)))] [6, 7]) <|
  .ret) (.skip))) <|
  .reg false [.r (some 16) (.mv (.t 8)),
    .r (some 17) (.bi .add (.t 16) (.c (.int .i64 1))),
    .r (some 8) (.mv (.t 17))] [0, 1, 2, 8]
def ir23 : IR := .seq (.reg false [.r (some 6) (.mv (.c (.bool false))),
    .r (some 7) (.mv (.c (.bool false)))] [0, 1, 2]) <|
  .seq (.seq (.reg false [.r (some 8) (.mv (.c (.int .i64 0)))] [0, 1, 2, 8]) <|
  .block 0 (.loop ir23L1)) <|
  .seq (.reg false [.r (some 58) (.mv (.t 0)),
    .r (some 59) (.mv (.t 0)),
    .r (some 60) (.nn (.t 59)),
    .r (some 61) (.fa 0 (.t 60)),
    .r (some 62) (.l1 (.t 61)),
    .r (some 63) (.mv (.t 1)),
    .e (some 64) (.bs 3 1 #[(.int .i64 0)] [(0, 1, (.t 63))]),
    .e (some 65) (.ap 3 1 8 #[(.int .i64 0)] (.t 62) (.t 64)),
    .r (some 66) (.nn (.t 58)),
    .r (some 67) (.fa 0 (.t 66)),
    .e none (.st 1 (.t 67) (.t 65))] [0, 2]) <|
  .seq (.reg false [.r (some 68) (.mv (.t 0)),
    .r (some 69) (.mv (.t 0)),
    .r (some 70) (.nn (.t 69)),
    .r (some 71) (.fa 1 (.t 70)),
    .r (some 72) (.l1 (.t 71)),
    .r (some 73) (.mv (.t 2)),
    .e (some 74) (.bs 3 1 #[(.int .i64 0)] [(0, 1, (.t 73))]),
    .e (some 75) (.ap 3 1 8 #[(.int .i64 0)] (.t 72) (.t 74)),
    .r (some 76) (.nn (.t 68)),
    .r (some 77) (.fa 1 (.t 76)),
    .e none (.st 1 (.t 77) (.t 75))] []) <|
  .seq (.reg false [.r (some 6) (.mv (.c (.bool true))),
    .r (some 7) (.mv (.c (.bool true)))] [6, 7]) <|
  .ret
theorem fit23 : Fits Try.prog 23 3 [(0, [0, 1, 2], []), (1, [0, 1, 2, 8], []), (2, [0, 1, 2, 8, 15], []), (3, [0, 1, 2, 8], []), (4, [0, 1, 2, 8, 37], []), (5, [6, 7], []), (6, [0, 2], []), (7, [], []), (8, [6, 7], [])] ir23 [.t 6, .t 7] 78 :=
  ⟨Try.f23, _, rfl, rfl, rfl, by decide, by kernel_rfl, by kernel_rfl⟩

/- 24 sloth/heap.copied (1) -/
def ir24 : IR := .seq (.reg false [.r (some 2) (.mv (.c (.slice none 0 0)))] [0]) <|
  .seq (.reg false [.r (some 4) (.mv (.t 0)),
    .r (some 5) (.len (.t 4)),
    .e (some 6) (.ms 3 1 8 #[(.int .i64 0)] (.t 5) (.t 5)),
    .r (some 3) (.mv (.t 6))] [0, 3]) <|
  .seq (.reg false [.r (some 7) (.mv (.t 3)),
    .r (some 8) (.mv (.t 0)),
    .e (some 9) (.cp 1 (.t 7) (.t 8))] [3]) <|
  .seq (.reg false [.r (some 10) (.mv (.t 3)),
    .r (some 2) (.mv (.t 10))] [2]) <|
  .ret
theorem fit24 : Fits Try.prog 24 1 [(0, [0], []), (1, [0, 3], []), (2, [3], []), (3, [2], [])] ir24 [.t 2] 11 :=
  ⟨Try.f24, _, rfl, rfl, rfl, by decide, by kernel_rfl, by kernel_rfl⟩

/- 25 sloth/slothlaw20.lent (1) -/
def ir25L1 : IR := .seq (.seq (.reg false [.r (some 9) (.mv (.t 4)),
    .r (some 10) (.mv (.t 3)),
    .r (some 11) (.len (.t 10)),
    .r (some 12) (.bi .lss (.t 9) (.t 11))] [0, 3, 4, 12]) <|
  .cond (.t 12) (.skip) ((.exit 0))) <|
  .seq (.block 1 (.seq (.reg false [.r (some 15) (.mv (.t 3)),
    .r (some 16) (.mv (.t 4)),
    .r (some 17) (.ia 1 (.t 15) (.t 16)),
    .e none (.st 1 (.t 17) (.c (.int .i64 (-77))))] [0, 3, 4]) <|
  .seq (.reg false [.r (some 18) (.mv (.t 4)),
    .r (some 19) (.mv (.t 0)),
    .r (some 20) (.len (.t 19)),
    .r (some 21) (.bi .lss (.t 18) (.t 20))] [0, 3, 4, 21]) <|
  .cond (.t 21) (.reg false [.r (some 22) (.mv (.t 3)),
    .r (some 23) (.mv (.t 4)),
    .r (some 24) (.mv (.t 0)),
    .r (some 25) (.mv (.t 4)),
    .r (some 26) (.ia 1 (.t 24) (.t 25)),
    .r (some 27) (.l1 (.t 26)),
    .r (some 28) (.ia 1 (.t 22) (.t 23)),
    .e none (.st 1 (.t 28) (.t 27))] [0, 3, 4]) (.skip))) <|
  .reg false [.r (some 13) (.mv (.t 4)),
    .r (some 14) (.bi .add (.t 13) (.c (.int .i64 1))),
    .r (some 4) (.mv (.t 14))] [0, 3, 4]
def ir25 : IR := .seq (.reg false [.r (some 2) (.mv (.c (.slice none 0 0)))] [0]) <|
  .seq (.reg false [.r (some 5) (.mv (.t 0)),
    .r (some 6) (.len (.t 5)),
    .r (some 7) (.bi .add (.t 6) (.c (.int .i64 2))),
    .e (some 8) (.ms 3 1 8 #[(.int .i64 0)] (.t 7) (.t 7)),
    .r (some 3) (.mv (.t 8))] [0, 3]) <|
  .seq (.seq (.reg false [.r (some 4) (.mv (.c (.int .i64 0)))] [0, 3, 4]) <|
  .block 0 (.loop ir25L1)) <|
  .seq (.reg false [.r (some 29) (.mv (.t 3)),
    .r (some 2) (.mv (.t 29))] [2]) <|
  .ret
theorem fit25 : Fits Try.prog 25 1 [(0, [0], []), (1, [0, 3], []), (2, [0, 3, 4], []), (3, [0, 3, 4, 12], []), (4, [0, 3, 4], []), (5, [0, 3, 4], []), (6, [0, 3, 4, 21], []), (7, [0, 3, 4], []), (8, [2], [])] ir25 [.t 2] 30 :=
  ⟨Try.f25, _, rfl, rfl, rfl, by decide, by kernel_rfl, by kernel_rfl⟩

/- 26 (*sloth/slothref20.Arena).Add (2) -/
def ir26 : IR := .seq (.reg false [.e (some 3) (.bx 35 (.t 1)),
    .r (some 4) (.mv (.c (.int .i64 0))),
    .r (some 5) (.mv (.c (.int .i64 0)))] [0, 3]) <|
  .seq (.reg false [.r (some 8) (.mv (.t 0)),
    .r (some 9) (.ln 3 (.t 3)),
    .e (some 10) (.call 37 [(.t 8), (.t 9)]),
    .r (some 6) (.mv (.t 10))] [0, 3, 6]) <|
  .seq (.seq (.reg false [.r (some 11) (.mv (.t 6)),
    .r (some 12) (.bi .neq (.t 11) (.c (.int .i64 0)))] [0, 3, 6, 12]) <|
  .cond (.t 12) (.seq (.reg false [.r (some 13) (.mv (.t 6)),
    .r (some 4) (.mv (.c (.int .i64 0))),
    .r (some 5) (.mv (.t 13))] [4, 5]) <|
  .ret) (.skip)) <|
  .seq (.seq (.reg true [.r (some 14) (.mv (.t 0)),
    .r (some 15) (.nn (.t 14)),
    .r (some 16) (.fa 1 (.t 15)),
    .r (some 17) (.l1 (.t 16)),
    .r (some 18) (.len (.t 17)),
    .r (some 19) (.mv (.t 0)),
    .r (some 20) (.nn (.t 19)),
    .r (some 21) (.fa 0 (.t 20)),
    .r (some 22) (.l1 (.t 21)),
    .r (some 23) (.bi .geq (.t 18) (.t 22))] [0, 3, 23]) <|
  .cond (.t 23) (.seq (.reg false [.r (some 4) (.mv (.c (.int .i64 0))),
    .r (some 5) (.mv (.c (.int .i64 201)))] [4, 5]) <|
  .ret) (.skip)) <|
  .seq (.reg false [.r (some 24) (.ln 3 (.t 3)),
    .e (some 25) (.call 38 [(.t 24)]),
    .e (some 7) (.al 35 (.agg #[(.int .i64 0), (.int .i64 0), (.slice none 0 0)])),
    .e none (.st 3 (.t 7) (.t 25))] [0, 7]) <|
  .seq (.dr (.r 0 none (some 26) (.mv (.t 0)) <|
    .r 1 none (some 27) (.mv (.t 0)) <|
    .r 2 none (some 28) (.nn (.t 27)) <|
    .r 3 none (some 29) (.fa 1 (.t 28)) <|
    .r 4 none (some 30) (.l1 (.t 29)) <|
    .r 5 none (some 31) (.ln 3 (.t 7)) <|
    .e 6 none (some 32) (.bs 35 1 #[(.int .i64 0), (.int .i64 0), (.slice none 0 0)] [(0, 3, (.t 31))]) [4] <|
    .e 7 none (some 33) (.ap 35 3 40 #[(.int .i64 0), (.int .i64 0), (.slice none 0 0)] (.t 30) (.t 32)) [] <|
    .r 8 none (some 34) (.nn (.t 26)) <|
    .r 9 none (some 35) (.fa 1 (.t 34)) <|
    .e 10 none none (.st 1 (.t 35) (.t 33)) [] <|
    .nil) [0]) <|
  .seq (.reg false [.r (some 36) (.mv (.t 0)),
    .r (some 37) (.nn (.t 36)),
    .r (some 38) (.fa 1 (.t 37)),
    .r (some 39) (.l1 (.t 38)),
    .r (some 40) (.len (.t 39)),
    .r (some 41) (.bi .sub (.t 40) (.c (.int .i64 1))),
    .r (some 4) (.mv (.t 41)),
    .r (some 5) (.mv (.c (.int .i64 0)))] [4, 5]) <|
  .ret
theorem fit26 : Fits Try.prog 26 2 [(0, [0, 3], []), (1, [0, 3, 6], []), (2, [0, 3, 6, 12], []), (3, [4, 5], []), (4, [0, 3, 23], [0, 1, 3, 7, 15, 0, 32, 96, 224, 511]), (5, [4, 5], []), (6, [0, 7], []), (7, [0], [0, 0, 2, 6, 14, 0, 32, 126, 255, 511, 1023]), (8, [4, 5], [])] ir26 [.t 4, .t 5] 42 :=
  ⟨Try.f26, _, rfl, rfl, rfl, by decide, by kernel_rfl, by kernel_rfl⟩

/- 27 (*sloth/slothref20.Arena).Get (2) -/
def ir27 : IR := .seq (.reg false [.e (some 4) (.al 35 (.agg #[(.int .i64 0), (.int .i64 0), (.slice none 0 0)])),
    .r (some 5) (.mv (.c (.int .i64 0)))] [0, 1, 4]) <|
  .seq (.reg false [.r (some 7) (.mv (.t 0)),
    .r (some 8) (.mv (.t 1)),
    .e (some 9) (.bs 3 1 #[(.int .i64 0)] [(0, 1, (.t 8))]),
    .e (some 10) (.call 39 [(.t 7), (.t 9)]),
    .r (some 6) (.mv (.t 10))] [0, 1, 4, 6]) <|
  .seq (.seq (.reg false [.r (some 11) (.mv (.t 6)),
    .r (some 12) (.no (.t 11))] [0, 1, 4, 12]) <|
  .cond (.t 12) (.seq (.reg false [.r (some 13) (.bd #[(.int .i64 0), (.int .i64 0), (.slice none 0 0)] []),
    .e none (.st 3 (.t 4) (.t 13)),
    .r (some 5) (.mv (.c (.int .i64 202)))] [4, 5]) <|
  .ret) (.skip)) <|
  .seq (.reg false [.r (some 14) (.mv (.t 0)),
    .r (some 15) (.nn (.t 14)),
    .r (some 16) (.fa 1 (.t 15)),
    .r (some 17) (.l1 (.t 16)),
    .r (some 18) (.mv (.t 1)),
    .r (some 19) (.ia 3 (.t 17) (.t 18)),
    .r (some 20) (.ln 3 (.t 19)),
    .e (some 21) (.call 38 [(.t 20)]),
    .e none (.st 3 (.t 4) (.t 21)),
    .r (some 5) (.mv (.c (.int .i64 0)))] [4, 5]) <|
  .ret
theorem fit27 : Fits Try.prog 27 2 [(0, [0, 1, 4], []), (1, [0, 1, 4, 6], []), (2, [0, 1, 4, 12], []), (3, [4, 5], []), (4, [4, 5], [])] ir27 [.n 4 3, .t 5] 22 :=
  ⟨Try.f27, _, rfl, rfl, rfl, by decide, by kernel_rfl, by kernel_rfl⟩

/- 28 (*sloth/slothlaw20.Book).keep (2) -/
def ir28L1 : IR := .seq (.seq (.reg false [.r (some 12) (.mv (.t 5)),
    .r (some 13) (.mv (.t 1)),
    .r (some 14) (.len (.t 13)),
    .r (some 15) (.bi .lss (.t 12) (.t 14))] [0, 1, 4, 5, 15]) <|
  .cond (.t 15) (.skip) ((.exit 0))) <|
  .seq (.block 1 (.reg false [.r (some 18) (.mv (.t 1)),
    .r (some 19) (.mv (.t 5)),
    .r (some 20) (.mv (.t 4)),
    .r (some 21) (.ia 1 (.t 18) (.t 19)),
    .e none (.st 1 (.t 21) (.t 20))] [0, 1, 4, 5])) <|
  .reg false [.r (some 16) (.mv (.t 5)),
    .r (some 17) (.bi .add (.t 16) (.c (.int .i64 1))),
    .r (some 5) (.mv (.t 17))] [0, 1, 4, 5]
def ir28 : IR := .seq (.reg false [.r (some 6) (.mv (.t 0)),
    .r (some 7) (.nn (.t 6)),
    .r (some 8) (.fa 0 (.t 7)),
    .r (some 9) (.l1 (.t 8)),
    .r (some 10) (.len (.t 9)),
    .r (some 11) (.bi .sub (.c (.int .i64 (-100))) (.t 10)),
    .r (some 4) (.mv (.t 11))] [0, 1, 4]) <|
  .seq (.seq (.reg false [.r (some 5) (.mv (.c (.int .i64 0)))] [0, 1, 4, 5]) <|
  .block 0 (.loop ir28L1)) <|
  .seq (.reg false [.r (some 22) (.mv (.t 1)),
    .r (some 23) (.mv (.t 4)),
    .e (some 24) (.bs 3 1 #[(.int .i64 0)] [(0, 1, (.t 23))]),
    .e (some 25) (.ap 3 1 8 #[(.int .i64 0)] (.t 22) (.t 24)),
    .r (some 1) (.mv (.t 25))] [0, 1, 4]) <|
  .seq (.reg false [.r (some 26) (.mv (.t 1)),
    .r (some 27) (.mv (.t 4)),
    .e (some 28) (.bs 3 1 #[(.int .i64 0)] [(0, 1, (.t 27))]),
    .e (some 29) (.ap 3 1 8 #[(.int .i64 0)] (.t 26) (.t 28)),
    .r (some 1) (.mv (.t 29))] [0, 1, 4]) <|
  .seq (.reg false [.r (some 30) (.mv (.t 0)),
    .r (some 31) (.mv (.t 0)),
    .r (some 32) (.nn (.t 31)),
    .r (some 33) (.fa 0 (.t 32)),
    .r (some 34) (.l1 (.t 33)),
    .r (some 35) (.mv (.t 1)),
    .e (some 36) (.bs 23 1 #[(.slice none 0 0)] [(0, 1, (.t 35))]),
    .e (some 37) (.ap 23 1 24 #[(.slice none 0 0)] (.t 34) (.t 36)),
    .r (some 38) (.nn (.t 30)),
    .r (some 39) (.fa 0 (.t 38)),
    .e none (.st 1 (.t 39) (.t 37))] [0, 4]) <|
  .reg false [.r (some 40) (.mv (.t 0)),
    .r (some 41) (.mv (.t 0)),
    .r (some 42) (.nn (.t 41)),
    .r (some 43) (.fa 1 (.t 42)),
    .r (some 44) (.l1 (.t 43)),
    .r (some 45) (.mv (.t 4)),
    .e (some 46) (.bs 3 1 #[(.int .i64 0)] [(0, 1, (.t 45))]),
    .e (some 47) (.ap 3 1 8 #[(.int .i64 0)] (.t 44) (.t 46)),
    .r (some 48) (.nn (.t 40)),
    .r (some 49) (.fa 1 (.t 48)),
    .e none (.st 1 (.t 49) (.t 47))] []
theorem fit28 : Fits Try.prog 28 2 [(0, [0, 1, 4], []), (1, [0, 1, 4, 5], []), (2, [0, 1, 4, 5, 15], []), (3, [0, 1, 4, 5], []), (4, [0, 1, 4, 5], []), (5, [0, 1, 4], []), (6, [0, 1, 4], []), (7, [0, 4], []), (8, [], [])] ir28 [] 50 :=
  ⟨Try.f28, _, rfl, rfl, rfl, by decide, by kernel_rfl, by kernel_rfl⟩

/- 29 (*sloth/slothref20.Arena).Set (3) -/
def ir29 : IR := .seq (.reg false [.e (some 5) (.bx 35 (.t 2)),
    .r (some 6) (.mv (.c (.int .i64 0)))] [0, 1, 5]) <|
  .seq (.reg false [.r (some 9) (.mv (.t 0)),
    .r (some 10) (.mv (.t 1)),
    .e (some 11) (.bs 3 1 #[(.int .i64 0)] [(0, 1, (.t 10))]),
    .e (some 12) (.call 39 [(.t 9), (.t 11)]),
    .r (some 7) (.mv (.t 12))] [0, 1, 5, 7]) <|
  .seq (.seq (.reg false [.r (some 13) (.mv (.t 7)),
    .r (some 14) (.no (.t 13))] [0, 1, 5, 14]) <|
  .cond (.t 14) (.seq (.reg false [.r (some 6) (.mv (.c (.int .i64 202)))] [6]) <|
  .ret) (.skip)) <|
  .seq (.reg false [.r (some 15) (.mv (.t 0)),
    .r (some 16) (.ln 3 (.t 5)),
    .e (some 17) (.call 37 [(.t 15), (.t 16)]),
    .r (some 8) (.mv (.t 17))] [0, 1, 5, 8]) <|
  .seq (.seq (.reg false [.r (some 18) (.mv (.t 8)),
    .r (some 19) (.bi .neq (.t 18) (.c (.int .i64 0)))] [0, 1, 5, 8, 19]) <|
  .cond (.t 19) (.seq (.reg false [.r (some 20) (.mv (.t 8)),
    .r (some 6) (.mv (.t 20))] [6]) <|
  .ret) (.skip)) <|
  .seq (.dr (.r 0 none (some 21) (.mv (.t 0)) <|
    .r 1 none (some 22) (.nn (.t 21)) <|
    .r 2 none (some 23) (.fa 1 (.t 22)) <|
    .r 3 none (some 24) (.l1 (.t 23)) <|
    .r 4 none (some 25) (.mv (.t 1)) <|
    .r 5 none (some 26) (.ln 3 (.t 5)) <|
    .e 6 none (some 27) (.call 38 [(.t 26)]) [3] <|
    .r 7 none (some 28) (.ia 3 (.t 24) (.t 25)) <|
    .e 8 none none (.st 3 (.t 28) (.t 27)) [] <|
    .nil) []) <|
  .seq (.reg false [.r (some 6) (.mv (.c (.int .i64 0)))] [6]) <|
  .ret
theorem fit29 : Fits Try.prog 29 3 [(0, [0, 1, 5], []), (1, [0, 1, 5, 7], []), (2, [0, 1, 5, 14], []), (3, [6], []), (4, [0, 1, 5, 8], []), (5, [0, 1, 5, 8, 19], []), (6, [6], []), (7, [], [0, 1, 3, 7, 0, 0, 32, 127, 255]), (8, [6], [])] ir29 [.t 6] 29 :=
  ⟨Try.f29, _, rfl, rfl, rfl, by decide, by kernel_rfl, by kernel_rfl⟩

/- 30 (*sloth/slothlaw20.Book).room (5) -/
def ir30 : IR := .seq (.reg false [.e (some 8) (.bx 52 (.t 3)),
    .r (some 10) (.mv (.c (.bool false)))] [0, 1, 2, 4, 8]) <|
  .seq (.reg false [.r (some 11) (.mv (.c (.slice none 0 0))),
    .r (some 12) (.mv (.c (.slice none 0 0)))] [0, 1, 2, 4, 8]) <|
  .seq (.reg false [.r (some 13) (.mv (.c (.int .i64 0)))] [0, 1, 2, 4, 8]) <|
  .seq (.reg false [.r (some 14) (.mv (.c (.int .i64 0)))] [0, 1, 2, 4, 8]) <|
  .seq (.seq (.reg false [.r (some 16) (.fa 1 (.t 8)),
    .r (some 17) (.l1 (.t 16)),
    .r (some 18) (.bi .eql (.t 17) (.c (.int .i64 4)))] [0, 1, 2, 4, 8, 18]) <|
  .cond (.t 18) (.seq (.reg false [.r (some 20) (.mv (.t 1)),
    .r (some 21) (.fa 2 (.t 8)),
    .r (some 22) (.l1 (.t 21)),
    .r (some 23) (.mv (.t 4)),
    .e (some 24) (.call 12 [(.t 20), (.t 22), (.t 23)]),
    .r (some 19) (.mv (.t 24)),
    .r (some 25) (.ex 0 (.t 19)),
    .r (some 26) (.ex 1 (.t 19)),
    .r (some 11) (.mv (.t 25)),
    .r (some 13) (.mv (.t 26))] [0, 2, 8, 11, 13]) <|
  .reg false [.r (some 28) (.mv (.t 2)),
    .r (some 29) (.fa 2 (.t 8)),
    .r (some 30) (.l1 (.t 29)),
    .r (some 31) (.fa 6 (.t 8)),
    .r (some 32) (.l1 (.t 31)),
    .e (some 33) (.call 40 [(.t 28), (.t 30), (.t 32)]),
    .r (some 27) (.mv (.t 33)),
    .r (some 34) (.ex 0 (.t 27)),
    .r (some 35) (.ex 1 (.t 27)),
    .r (some 12) (.mv (.t 34)),
    .r (some 14) (.mv (.t 35))] [0, 11, 12, 13, 14]) (.seq (.reg false [.r (some 37) (.mv (.t 1)),
    .r (some 38) (.mv (.t 4)),
    .e (some 39) (.call 7 [(.t 37), (.t 38)]),
    .r (some 36) (.mv (.t 39)),
    .r (some 40) (.ex 0 (.t 36)),
    .r (some 41) (.ex 1 (.t 36)),
    .r (some 11) (.mv (.t 40)),
    .r (some 13) (.mv (.t 41))] [0, 2, 8, 11, 13]) <|
  .reg false [.r (some 43) (.mv (.t 2)),
    .r (some 44) (.fa 6 (.t 8)),
    .r (some 45) (.l1 (.t 44)),
    .e (some 46) (.call 41 [(.t 43), (.t 45)]),
    .r (some 42) (.mv (.t 46)),
    .r (some 47) (.ex 0 (.t 42)),
    .r (some 48) (.ex 1 (.t 42)),
    .r (some 12) (.mv (.t 47)),
    .r (some 14) (.mv (.t 48))] [0, 11, 12, 13, 14])) <|
  .seq (.reg false [.r (some 49) (.mv (.t 11)),
    .r (some 50) (.mv (.t 12)),
    .e (some 51) (.call 11 [(.t 49), (.t 50)]),
    .r (some 15) (.mv (.t 51))] [0, 11, 13, 14, 15]) <|
  .seq (.reg false [.r (some 52) (.mv (.t 0)),
    .r (some 53) (.mv (.t 11)),
    .e (some 54) (.call 28 [(.t 52), (.t 53)])] [13, 14, 15]) <|
  .seq (.reg false [.r (some 55) (.mv (.t 15)),
    .r (some 56) (.mv (.t 55)),
    .gr 56 true (some 57) (.mv (.t 13)),
    .gr 56 true (some 58) (.mv (.t 14)),
    .gr 56 true (some 59) (.bi .eql (.t 57) (.t 58)),
    .r (some 60) (.pk (.t 56) (.t 59) (.c (.bool false))),
    .r (some 10) (.mv (.t 60))] [10]) <|
  .ret
theorem fit30 : Fits Try.prog 30 5 [(0, [0, 1, 2, 4, 8], []), (1, [0, 1, 2, 4, 8], []), (2, [0, 1, 2, 4, 8], []), (3, [0, 1, 2, 4, 8], []), (4, [0, 1, 2, 4, 8, 18], []), (5, [0, 2, 8, 11, 13], []), (6, [0, 11, 12, 13, 14], []), (7, [0, 2, 8, 11, 13], []), (8, [0, 11, 12, 13, 14], []), (9, [0, 11, 13, 14, 15], []), (10, [13, 14, 15], []), (11, [10], [])] ir30 [.t 10] 61 :=
  ⟨Try.f30, _, rfl, rfl, rfl, by decide, by kernel_rfl, by kernel_rfl⟩

/- 31 (*sloth/slothref20.Arena).Used (1) -/
def ir31 : IR := .seq (.reg false [.r (some 2) (.mv (.c (.int .i64 0)))] [0]) <|
  .seq (.reg false [.r (some 3) (.mv (.t 0)),
    .r (some 4) (.nn (.t 3)),
    .r (some 5) (.fa 1 (.t 4)),
    .r (some 6) (.l1 (.t 5)),
    .r (some 7) (.len (.t 6)),
    .r (some 2) (.mv (.t 7))] [2]) <|
  .ret
theorem fit31 : Fits Try.prog 31 1 [(0, [0], []), (1, [2], [])] ir31 [.t 2] 8 :=
  ⟨Try.f31, _, rfl, rfl, rfl, by decide, by kernel_rfl, by kernel_rfl⟩

/- 32 (*sloth/heap.Arena).Collections (1) -/
def ir32 : IR := .seq (.reg false [.r (some 2) (.mv (.c (.int .i64 0)))] [0]) <|
  .seq (.reg false [.r (some 3) (.mv (.t 0)),
    .r (some 4) (.nn (.t 3)),
    .r (some 5) (.fa 2 (.t 4)),
    .r (some 6) (.l1 (.t 5)),
    .r (some 2) (.mv (.t 6))] [2]) <|
  .ret
theorem fit32 : Fits Try.prog 32 1 [(0, [0], []), (1, [2], [])] ir32 [.t 2] 7 :=
  ⟨Try.f32, _, rfl, rfl, rfl, by decide, by kernel_rfl, by kernel_rfl⟩

/- 33 (*sloth/slothref20.Arena).Collections (1) -/
def ir33 : IR := .seq (.reg false [.r (some 2) (.mv (.c (.int .i64 0)))] [0]) <|
  .seq (.reg false [.r (some 3) (.mv (.t 0)),
    .r (some 4) (.nn (.t 3)),
    .r (some 5) (.fa 2 (.t 4)),
    .r (some 6) (.l1 (.t 5)),
    .r (some 2) (.mv (.t 6))] [2]) <|
  .ret
theorem fit33 : Fits Try.prog 33 1 [(0, [0], []), (1, [2], [])] ir33 [.t 2] 7 :=
  ⟨Try.f33, _, rfl, rfl, rfl, by decide, by kernel_rfl, by kernel_rfl⟩

/- 34 sloth/heap.may (1) -/
def ir34 : IR := .seq (.reg false [.e (some 1) (.bx 35 (.t 0)),
    .r (some 2) (.mv (.c (.bool false)))] [1]) <|
  .seq (.reg false [.r (some 4) (.fa 2 (.t 1)),
    .r (some 5) (.l1 (.t 4)),
    .r (some 6) (.len (.t 5)),
    .r (some 3) (.mv (.t 6))] [1, 3]) <|
  .seq (.seq (.reg false [.r (some 7) (.fa 0 (.t 1)),
    .r (some 8) (.l1 (.t 7))] [1, 3, 8]) <|
  .block 0 (.seq (.reg false [.r (some 10) (.bi .eql (.t 8) (.c (.int .i64 1))),
    .r (some 9) (.mv (.t 10))] [1, 3, 8, 9]) <|
  .cond (.t 9) (.seq (.reg false [.r (some 11) (.mv (.t 3)),
    .r (some 12) (.bi .eql (.t 11) (.c (.int .i64 0))),
    .r (some 13) (.mv (.t 12)),
    .gr 13 true (some 14) (.fa 1 (.t 1)),
    .gr 13 true (some 15) (.l1 (.t 14)),
    .gr 13 true (some 16) (.bi .geq (.t 15) (.c (.int .i64 (-4611686018427387904)))),
    .r (some 17) (.pk (.t 13) (.t 16) (.c (.bool false))),
    .r (some 18) (.mv (.t 17)),
    .gr 18 true (some 19) (.fa 1 (.t 1)),
    .gr 18 true (some 20) (.l1 (.t 19)),
    .gr 18 true (some 21) (.bi .leq (.t 20) (.c (.int .i64 4611686018427387903))),
    .r (some 22) (.pk (.t 18) (.t 21) (.c (.bool false))),
    .r (some 2) (.mv (.t 22))] [2]) <|
  .ret) (.seq (.reg false [.r (some 24) (.bi .eql (.t 8) (.c (.int .i64 2))),
    .r (some 23) (.mv (.t 24))] [1, 3, 8, 23]) <|
  .cond (.t 23) (.seq (.reg false [.r (some 25) (.mv (.t 3)),
    .r (some 26) (.bi .leq (.t 25) (.c (.int .i64 8))),
    .r (some 27) (.mv (.t 26)),
    .gr 27 true (some 28) (.fa 1 (.t 1)),
    .gr 27 true (some 29) (.l1 (.t 28)),
    .gr 27 true (some 30) (.bi .geq (.t 29) (.c (.int .i64 0))),
    .r (some 31) (.pk (.t 27) (.t 30) (.c (.bool false))),
    .r (some 2) (.mv (.t 31))] [2]) <|
  .ret) (.seq (.reg false [.r (some 33) (.bi .eql (.t 8) (.c (.int .i64 3))),
    .r (some 32) (.mv (.t 33))] [1, 3, 8, 32]) <|
  .cond (.t 32) (.seq (.reg false [.r (some 34) (.mv (.t 3)),
    .r (some 35) (.bi .eql (.t 34) (.c (.int .i64 2))),
    .r (some 36) (.mv (.t 35)),
    .gr 36 true (some 37) (.fa 1 (.t 1)),
    .gr 36 true (some 38) (.l1 (.t 37)),
    .gr 36 true (some 39) (.bi .eql (.t 38) (.c (.int .i64 0))),
    .r (some 40) (.pk (.t 36) (.t 39) (.c (.bool false))),
    .r (some 2) (.mv (.t 40))] [2]) <|
  .ret) (.seq (.seq (.reg false [.r (some 42) (.bi .eql (.t 8) (.c (.int .i64 4))),
    .r (some 41) (.mv (.t 42))] [1, 3, 8, 41]) <|
  .cond (.t 41) (.skip) (.reg false [.r (some 43) (.bi .eql (.t 8) (.c (.int .i64 8))),
    .r (some 41) (.mv (.t 43))] [1, 3, 8, 41])) <|
  .cond (.t 41) (.seq (.reg false [.r (some 44) (.mv (.t 3)),
    .r (some 45) (.bi .eql (.t 44) (.c (.int .i64 0))),
    .r (some 46) (.mv (.t 45)),
    .gr 46 true (some 47) (.fa 1 (.t 1)),
    .gr 46 true (some 48) (.l1 (.t 47)),
    .gr 46 true (some 49) (.bi .geq (.t 48) (.c (.int .i64 0))),
    .r (some 50) (.pk (.t 46) (.t 49) (.c (.bool false))),
    .r (some 2) (.mv (.t 50))] [2]) <|
  .ret) (.seq (.reg false [.r (some 52) (.bi .eql (.t 8) (.c (.int .i64 5))),
    .r (some 51) (.mv (.t 52))] [1, 3, 8, 51]) <|
  .cond (.t 51) (.seq (.reg false [.r (some 53) (.mv (.t 3)),
    .r (some 54) (.bi .eql (.t 53) (.c (.int .i64 1))),
    .r (some 55) (.mv (.t 54)),
    .gr 55 true (some 56) (.fa 1 (.t 1)),
    .gr 55 true (some 57) (.l1 (.t 56)),
    .gr 55 true (some 58) (.bi .eql (.t 57) (.c (.int .i64 0))),
    .r (some 59) (.pk (.t 55) (.t 58) (.c (.bool false))),
    .r (some 2) (.mv (.t 59))] [2]) <|
  .ret) (.seq (.seq (.reg false [.r (some 61) (.bi .eql (.t 8) (.c (.int .i64 6))),
    .r (some 60) (.mv (.t 61))] [1, 3, 8, 60]) <|
  .cond (.t 60) (.skip) (.reg false [.r (some 62) (.bi .eql (.t 8) (.c (.int .i64 7))),
    .r (some 60) (.mv (.t 62))] [1, 3, 60])) <|
  .cond (.t 60) (.seq (.reg false [.r (some 63) (.mv (.t 3)),
    .r (some 64) (.bi .eql (.t 63) (.c (.int .i64 0))),
    .r (some 65) (.mv (.t 64)),
    .gr 65 true (some 66) (.fa 1 (.t 1)),
    .gr 65 true (some 67) (.l1 (.t 66)),
    .gr 65 true (some 68) (.bi .eql (.t 67) (.c (.int .i64 0))),
    .r (some 69) (.pk (.t 65) (.t 68) (.c (.bool false))),
    .r (some 2) (.mv (.t 69))] [2]) <|
  .ret) (.skip)))))))) <|
  .seq (.reg false [.r (some 2) (.mv (.c (.bool false)))] [2]) <|
  .ret
theorem fit34 : Fits Try.prog 34 1 [(0, [1], []), (1, [1, 3], []), (2, [1, 3, 8], []), (3, [1, 3, 8, 9], []), (4, [2], []), (5, [1, 3, 8, 23], []), (6, [2], []), (7, [1, 3, 8, 32], []), (8, [2], []), (9, [1, 3, 8, 41], []), (10, [1, 3, 8, 41], []), (11, [2], []), (12, [1, 3, 8, 51], []), (13, [2], []), (14, [1, 3, 8, 60], []), (15, [1, 3, 60], []), (16, [2], []), (17, [2], [])] ir34 [.t 2] 70 :=
  ⟨Try.f34, _, rfl, rfl, rfl, by decide, by kernel_rfl, by kernel_rfl⟩

/- 35 sloth/heap.cellOf (1) -/
def ir35 : IR := .seq (.reg false [.e (some 1) (.bx 35 (.t 0)),
    .e (some 2) (.al 70 (.agg #[(.int .i64 0), (.int .i64 0), (.slice none 0 0)]))] [1, 2]) <|
  .seq (.dr (.r 0 none (some 3) (.fa 0 (.t 1)) <|
    .r 1 none (some 4) (.l1 (.t 3)) <|
    .r 2 none (some 5) (.fa 1 (.t 1)) <|
    .r 3 none (some 6) (.l1 (.t 5)) <|
    .r 4 none (some 7) (.bd #[(.int .i64 0), (.int .i64 0)] [(0, 1, (.t 4)), (1, 1, (.t 6))]) <|
    .r 5 none (some 8) (.fa 2 (.t 1)) <|
    .r 6 none (some 9) (.l1 (.t 8)) <|
    .e 7 none (some 10) (.call 24 [(.t 9)]) [1, 3] <|
    .r 8 none (some 11) (.bd #[(.int .i64 0), (.int .i64 0), (.slice none 0 0)] [(0, 2, (.t 7)), (2, 1, (.t 10))]) <|
    .e 9 none none (.st 3 (.t 2) (.t 11)) [] <|
    .nil) [2]) <|
  .ret
theorem fit35 : Fits Try.prog 35 1 [(0, [1, 2], []), (1, [2], [0, 1, 0, 4, 15, 0, 32, 96, 255, 511])] ir35 [.n 2 3] 12 :=
  ⟨Try.f35, _, rfl, rfl, rfl, by decide, by kernel_rfl, by kernel_rfl⟩

/- 36 (*sloth/heap.mover).pass (2) -/
def ir36L1 : IR := .seq (.seq (.reg false [.r (some 16) (.mv (.t 0)),
    .r (some 17) (.nn (.t 16)),
    .r (some 18) (.fa 2 (.t 17)),
    .r (some 19) (.l1 (.t 18)),
    .r (some 20) (.mv (.t 1)),
    .r (some 21) (.ia 1 (.t 19) (.t 20)),
    .r (some 22) (.l1 (.t 21)),
    .r (some 23) (.bi .eql (.t 22) (.c (.int .i64 0))),
    .r (some 24) (.mv (.t 23)),
    .gr 24 true (some 25) (.mv (.t 0)),
    .gr 24 true (some 26) (.nn (.t 25)),
    .gr 24 true (some 27) (.fa 0 (.t 26)),
    .gr 24 true (some 28) (.l1 (.t 27)),
    .gr 24 true (some 29) (.mv (.t 1)),
    .gr 24 true (some 30) (.ia 3 (.t 28) (.t 29)),
    .gr 24 true (some 31) (.fa 0 (.t 30)),
    .gr 24 true (some 32) (.fa 0 (.t 31)),
    .gr 24 true (some 33) (.l1 (.t 32)),
    .gr 24 true (some 34) (.bi .eql (.t 33) (.c (.int .i64 5))),
    .r (some 35) (.pk (.t 24) (.t 34) (.c (.bool false)))] [0, 1, 35]) <|
  .cond (.t 35) (.skip) ((.exit 0))) <|
  .block 1 (.seq (.reg false [.r (some 36) (.mv (.t 0)),
    .r (some 37) (.nn (.t 36)),
    .r (some 38) (.fa 2 (.t 37)),
    .r (some 39) (.l1 (.t 38)),
    .r (some 40) (.mv (.t 1)),
    .r (some 41) (.ia 1 (.t 39) (.t 40)),
    .e none (.st 1 (.t 41) (.c (.int .i64 (-1))))] [0, 1]) <|
  .seq (.reg false [.r (some 42) (.mv (.t 0)),
    .r (some 43) (.mv (.t 0)),
    .r (some 44) (.nn (.t 43)),
    .r (some 45) (.fa 4 (.t 44)),
    .r (some 46) (.l1 (.t 45)),
    .r (some 47) (.mv (.t 1)),
    .e (some 48) (.bs 3 1 #[(.int .i64 0)] [(0, 1, (.t 47))]),
    .e (some 49) (.ap 3 1 8 #[(.int .i64 0)] (.t 46) (.t 48)),
    .r (some 50) (.nn (.t 42)),
    .r (some 51) (.fa 4 (.t 50)),
    .e none (.st 1 (.t 51) (.t 49))] [0, 1]) <|
  .reg false [.r (some 52) (.mv (.t 0)),
    .r (some 53) (.nn (.t 52)),
    .r (some 54) (.fa 0 (.t 53)),
    .r (some 55) (.l1 (.t 54)),
    .r (some 56) (.mv (.t 1)),
    .r (some 57) (.ia 3 (.t 55) (.t 56)),
    .r (some 58) (.fa 2 (.t 57)),
    .r (some 59) (.l1 (.t 58)),
    .r (some 60) (.ia 1 (.t 59) (.c (.int .i64 0))),
    .r (some 61) (.l1 (.t 60)),
    .r (some 1) (.mv (.t 61))] [0, 1])
def ir36L2 : IR := .seq (.reg false [.r (some 93) (.bi .lss (.t 92) (.t 91))] [0, 5, 90, 91, 92, 93]) <|
  .seq (.cond (.t 93) (.skip) ((.exit 2))) <|
  .seq (.block 3 (.seq (.reg false [.r (some 94) (.ia 1 (.t 90) (.t 92)),
    .r (some 95) (.l1 (.t 94)),
    .r (some 7) (.mv (.t 95))] [0, 5, 7, 90, 91, 92]) <|
  .reg false [.r (some 96) (.mv (.t 0)),
    .r (some 97) (.nn (.t 96)),
    .r (some 98) (.fa 2 (.t 97)),
    .r (some 99) (.l1 (.t 98)),
    .r (some 100) (.mv (.t 7)),
    .r (some 101) (.mv (.t 5)),
    .r (some 102) (.bi .add (.t 101) (.c (.int .i64 1))),
    .r (some 103) (.ia 1 (.t 99) (.t 100)),
    .e none (.st 1 (.t 103) (.t 102))] [0, 5, 90, 91, 92])) <|
  .reg false [.r (some 104) (.bi .add (.t 92) (.c (.int .i64 1))),
    .r (some 92) (.mv (.t 104))] [0, 5, 90, 91, 92]
def ir36 : IR := .seq (.reg false [.r (some 4) (.mv (.c (.int .i64 0)))] [0, 1]) <|
  .seq (.reg false [.r (some 8) (.mv (.t 0)),
    .r (some 9) (.mv (.t 0)),
    .r (some 10) (.nn (.t 9)),
    .r (some 11) (.fa 4 (.t 10)),
    .r (some 12) (.l1 (.t 11)),
    .r (some 13) (.sl 1 (.t 12) none (some (.c (.int .i64 0))) none),
    .r (some 14) (.nn (.t 8)),
    .r (some 15) (.fa 4 (.t 14)),
    .e none (.st 1 (.t 15) (.t 13))] [0, 1]) <|
  .seq (.block 0 (.loop ir36L1)) <|
  .seq (.reg false [.r (some 62) (.mv (.t 1)),
    .r (some 5) (.mv (.t 62))] [0, 1, 5]) <|
  .seq (.seq (.reg false [.r (some 63) (.mv (.t 0)),
    .r (some 64) (.nn (.t 63)),
    .r (some 65) (.fa 2 (.t 64)),
    .r (some 66) (.l1 (.t 65)),
    .r (some 67) (.mv (.t 1)),
    .r (some 68) (.ia 1 (.t 66) (.t 67)),
    .r (some 69) (.l1 (.t 68)),
    .r (some 70) (.bi .gtr (.t 69) (.c (.int .i64 0)))] [0, 1, 5, 70]) <|
  .cond (.t 70) (.reg false [.r (some 71) (.mv (.t 0)),
    .r (some 72) (.nn (.t 71)),
    .r (some 73) (.fa 2 (.t 72)),
    .r (some 74) (.l1 (.t 73)),
    .r (some 75) (.mv (.t 1)),
    .r (some 76) (.ia 1 (.t 74) (.t 75)),
    .r (some 77) (.l1 (.t 76)),
    .r (some 78) (.bi .sub (.t 77) (.c (.int .i64 1))),
    .r (some 5) (.mv (.t 78))] [0, 1, 5]) (.skip)) <|
  .seq (.reg false [.r (some 79) (.mv (.t 0)),
    .r (some 80) (.nn (.t 79)),
    .r (some 81) (.fa 2 (.t 80)),
    .r (some 82) (.l1 (.t 81)),
    .r (some 83) (.mv (.t 1)),
    .r (some 84) (.mv (.t 5)),
    .r (some 85) (.bi .add (.t 84) (.c (.int .i64 1))),
    .r (some 86) (.ia 1 (.t 82) (.t 83)),
    .e none (.st 1 (.t 86) (.t 85))] [0, 5]) <|
  .seq (.seq (.reg false [.r (some 87) (.mv (.t 0)),
    .r (some 88) (.nn (.t 87)),
    .r (some 89) (.fa 4 (.t 88)),
    .r (some 90) (.l1 (.t 89)),
    .r (some 91) (.len (.t 90)),
    .r (some 92) (.mv (.c (.int .i64 0)))] [0, 5, 90, 91, 92]) <|
  .block 2 (.loop ir36L2)) <|
  .seq (.reg false [.r (some 105) (.mv (.t 5)),
    .r (some 4) (.mv (.t 105))] [4]) <|
  .ret
theorem fit36 : Fits Try.prog 36 2 [(0, [0, 1], []), (1, [0, 1], []), (2, [0, 1, 35], []), (3, [0, 1], []), (4, [0, 1], []), (5, [0, 1], []), (6, [0, 1, 5], []), (7, [0, 1, 5, 70], []), (8, [0, 1, 5], []), (9, [0, 5], []), (10, [0, 5, 90, 91, 92], []), (11, [0, 5, 90, 91, 92, 93], []), (12, [0, 5, 7, 90, 91, 92], []), (13, [0, 5, 90, 91, 92], []), (14, [0, 5, 90, 91, 92], []), (15, [4], [])] ir36 [.t 4] 106 :=
  ⟨Try.f36, _, rfl, rfl, rfl, by decide, by kernel_rfl, by kernel_rfl⟩

/- 37 (*sloth/slothref20.Arena).wrong (2) -/
def ir37 : IR := .seq (.reg false [.e (some 3) (.bx 35 (.t 1)),
    .r (some 4) (.mv (.c (.int .i64 0)))] [0, 3]) <|
  .seq (.reg false [.r (some 7) (.ln 3 (.t 3)),
    .e (some 8) (.call 42 [(.t 7)]),
    .r (some 5) (.mv (.t 8))] [0, 3, 5]) <|
  .seq (.seq (.reg false [.r (some 9) (.mv (.t 5)),
    .r (some 10) (.no (.t 9))] [0, 3, 10]) <|
  .cond (.t 10) (.seq (.reg false [.r (some 4) (.mv (.c (.int .i64 1)))] [4]) <|
  .ret) (.skip)) <|
  .seq (.reg false [.r (some 11) (.mv (.t 0)),
    .r (some 12) (.fa 2 (.t 3)),
    .r (some 13) (.l1 (.t 12)),
    .e (some 14) (.call 39 [(.t 11), (.t 13)]),
    .r (some 6) (.mv (.t 14))] [6]) <|
  .seq (.seq (.reg false [.r (some 15) (.mv (.t 6)),
    .r (some 16) (.no (.t 15))] [16]) <|
  .cond (.t 16) (.seq (.reg false [.r (some 4) (.mv (.c (.int .i64 202)))] [4]) <|
  .ret) (.skip)) <|
  .seq (.reg false [.r (some 4) (.mv (.c (.int .i64 0)))] [4]) <|
  .ret
theorem fit37 : Fits Try.prog 37 2 [(0, [0, 3], []), (1, [0, 3, 5], []), (2, [0, 3, 10], []), (3, [4], []), (4, [6], []), (5, [16], []), (6, [4], []), (7, [4], [])] ir37 [.t 4] 17 :=
  ⟨Try.f37, _, rfl, rfl, rfl, by decide, by kernel_rfl, by kernel_rfl⟩

/- 38 sloth/slothref20.copied (1) -/
def ir38 : IR := .seq (.reg false [.e (some 1) (.bx 35 (.t 0)),
    .e (some 2) (.al 35 (.agg #[(.int .i64 0), (.int .i64 0), (.slice none 0 0)]))] [1, 2]) <|
  .seq (.reg false [.r (some 4) (.fa 0 (.t 1)),
    .r (some 5) (.l1 (.t 4)),
    .r (some 6) (.fa 1 (.t 1)),
    .r (some 7) (.l1 (.t 6)),
    .r (some 8) (.bd #[(.int .i64 0), (.int .i64 0), (.slice none 0 0)] [(0, 1, (.t 5)), (1, 1, (.t 7))]),
    .e (some 3) (.al 35 (.agg #[(.int .i64 0), (.int .i64 0), (.slice none 0 0)])),
    .e none (.st 3 (.t 3) (.t 8))] [1, 2, 3]) <|
  .seq (.reg false [.r (some 9) (.fa 2 (.t 3)),
    .r (some 10) (.l1 (.t 9)),
    .r (some 11) (.fa 2 (.t 1)),
    .r (some 12) (.l1 (.t 11)),
    .e (some 13) (.ap 3 1 8 #[(.int .i64 0)] (.t 10) (.t 12)),
    .r (some 14) (.fa 2 (.t 3)),
    .e none (.st 1 (.t 14) (.t 13))] [2, 3]) <|
  .seq (.reg false [.r (some 15) (.ln 3 (.t 3)),
    .e none (.st 3 (.t 2) (.t 15))] [2]) <|
  .ret
theorem fit38 : Fits Try.prog 38 1 [(0, [1, 2], []), (1, [1, 2, 3], []), (2, [2, 3], []), (3, [2], [])] ir38 [.n 2 3] 16 :=
  ⟨Try.f38, _, rfl, rfl, rfl, by decide, by kernel_rfl, by kernel_rfl⟩

/- 39 (*sloth/slothref20.Arena).places (2) -/
def ir39L1 : IR := .seq (.seq (.reg false [.r (some 6) (.mv (.t 5)),
    .r (some 7) (.mv (.t 1)),
    .r (some 8) (.len (.t 7)),
    .r (some 9) (.bi .lss (.t 6) (.t 8))] [0, 1, 5, 9]) <|
  .cond (.t 9) (.skip) ((.exit 0))) <|
  .seq (.block 1 (.seq (.reg true [.r (some 12) (.mv (.t 1)),
    .r (some 13) (.mv (.t 5)),
    .r (some 14) (.ia 1 (.t 12) (.t 13)),
    .r (some 15) (.l1 (.t 14)),
    .r (some 16) (.bi .lss (.t 15) (.c (.int .i64 0))),
    .r (some 17) (.mv (.t 16)),
    .gr 17 false (some 18) (.mv (.t 1)),
    .gr 17 false (some 19) (.mv (.t 5)),
    .gr 17 false (some 20) (.ia 1 (.t 18) (.t 19)),
    .gr 17 false (some 21) (.l1 (.t 20)),
    .gr 17 false (some 22) (.mv (.t 0)),
    .gr 17 false (some 23) (.nn (.t 22)),
    .gr 17 false (some 24) (.fa 1 (.t 23)),
    .gr 17 false (some 25) (.l1 (.t 24)),
    .gr 17 false (some 26) (.len (.t 25)),
    .gr 17 false (some 27) (.bi .geq (.t 21) (.t 26)),
    .r (some 28) (.pk (.t 17) (.c (.bool true)) (.t 27))] [0, 1, 5, 28]) <|
  .cond (.t 28) (.seq (.reg false [.r (some 4) (.mv (.c (.bool false)))] [4]) <|
  .ret) (.skip))) <|
  .reg false [.r (some 10) (.mv (.t 5)),
    .r (some 11) (.bi .add (.t 10) (.c (.int .i64 1))),
    .r (some 5) (.mv (.t 11))] [0, 1, 5]
def ir39 : IR := .seq (.reg false [.r (some 4) (.mv (.c (.bool false)))] [0, 1]) <|
  .seq (.seq (.reg false [.r (some 5) (.mv (.c (.int .i64 0)))] [0, 1, 5]) <|
  .block 0 (.loop ir39L1)) <|
  .seq (.reg false [.r (some 4) (.mv (.c (.bool true)))] [4]) <|
  .ret
theorem fit39 : Fits Try.prog 39 2 [(0, [0, 1], []), (1, [0, 1, 5], []), (2, [0, 1, 5, 9], []), (3, [0, 1, 5], []), (4, [0, 1, 5, 28], [0, 0, 3, 7, 15, 31, 63, 63, 255, 511, 63, 1087, 3135, 7231, 15423, 32767, 65535]), (5, [4], []), (6, [4], [])] ir39 [.t 4] 29 :=
  ⟨Try.f39, _, rfl, rfl, rfl, by decide, by kernel_rfl, by kernel_rfl⟩

/- 40 (*sloth/slothref20.Arena).Room (3) -/
def ir40 : IR := .seq (.reg false [.r (some 6) (.mv (.c (.slice none 0 0))),
    .r (some 7) (.mv (.c (.int .i64 0)))] [0, 1, 2]) <|
  .seq (.seq (.reg false [.r (some 12) (.mv (.t 1)),
    .r (some 13) (.bi .lss (.t 12) (.c (.int .i64 0)))] [0, 1, 2, 13]) <|
  .cond (.t 13) (.seq (.reg false [.r (some 6) (.mv (.c (.slice none 0 0))),
    .r (some 7) (.mv (.c (.int .i64 1)))] [6, 7]) <|
  .ret) (.skip)) <|
  .seq (.reg false [.r (some 14) (.mv (.t 0)),
    .r (some 15) (.mv (.t 2)),
    .e (some 16) (.call 39 [(.t 14), (.t 15)]),
    .r (some 8) (.mv (.t 16))] [0, 1, 2, 8]) <|
  .seq (.seq (.reg false [.r (some 17) (.mv (.t 8)),
    .r (some 18) (.no (.t 17))] [0, 1, 2, 18]) <|
  .cond (.t 18) (.seq (.reg false [.r (some 6) (.mv (.c (.slice none 0 0))),
    .r (some 7) (.mv (.c (.int .i64 202)))] [6, 7]) <|
  .ret) (.skip)) <|
  .seq (.seq (.reg true [.r (some 19) (.mv (.t 1)),
    .r (some 20) (.mv (.t 0)),
    .r (some 21) (.nn (.t 20)),
    .r (some 22) (.fa 0 (.t 21)),
    .r (some 23) (.l1 (.t 22)),
    .r (some 24) (.mv (.t 0)),
    .r (some 25) (.nn (.t 24)),
    .r (some 26) (.fa 1 (.t 25)),
    .r (some 27) (.l1 (.t 26)),
    .r (some 28) (.len (.t 27)),
    .r (some 29) (.bi .sub (.t 23) (.t 28)),
    .r (some 30) (.bi .leq (.t 19) (.t 29))] [0, 1, 2, 30]) <|
  .cond (.t 30) (.seq (.reg false [.r (some 9) (.mv (.c (.slice none 0 0)))] [2, 9]) <|
  .seq (.reg false [.r (some 31) (.mv (.t 9)),
    .r (some 32) (.mv (.t 2)),
    .e (some 33) (.ap 3 1 8 #[(.int .i64 0)] (.t 31) (.t 32)),
    .r (some 9) (.mv (.t 33))] [9]) <|
  .seq (.reg false [.r (some 34) (.mv (.t 9)),
    .r (some 6) (.mv (.t 34)),
    .r (some 7) (.mv (.c (.int .i64 0)))] [6, 7]) <|
  .ret) (.skip)) <|
  .seq (.reg false [.r (some 36) (.mv (.t 0)),
    .r (some 37) (.mv (.t 2)),
    .e (some 38) (.call 41 [(.t 36), (.t 37)]),
    .r (some 35) (.mv (.t 38)),
    .r (some 39) (.ex 0 (.t 35)),
    .r (some 40) (.ex 1 (.t 35)),
    .r (some 10) (.mv (.t 39)),
    .r (some 11) (.mv (.t 40))] [0, 1, 10]) <|
  .seq (.seq (.reg true [.r (some 41) (.mv (.t 1)),
    .r (some 42) (.mv (.t 0)),
    .r (some 43) (.nn (.t 42)),
    .r (some 44) (.fa 0 (.t 43)),
    .r (some 45) (.l1 (.t 44)),
    .r (some 46) (.mv (.t 0)),
    .r (some 47) (.nn (.t 46)),
    .r (some 48) (.fa 1 (.t 47)),
    .r (some 49) (.l1 (.t 48)),
    .r (some 50) (.len (.t 49)),
    .r (some 51) (.bi .sub (.t 45) (.t 50)),
    .r (some 52) (.bi .gtr (.t 41) (.t 51))] [10, 52]) <|
  .cond (.t 52) (.seq (.reg false [.r (some 6) (.mv (.c (.slice none 0 0))),
    .r (some 7) (.mv (.c (.int .i64 201)))] [6, 7]) <|
  .ret) (.skip)) <|
  .seq (.reg false [.r (some 53) (.mv (.t 10)),
    .r (some 6) (.mv (.t 53)),
    .r (some 7) (.mv (.c (.int .i64 0)))] [6, 7]) <|
  .ret
theorem fit40 : Fits Try.prog 40 3 [(0, [0, 1, 2], []), (1, [0, 1, 2, 13], []), (2, [6, 7], []), (3, [0, 1, 2, 8], []), (4, [0, 1, 2, 18], []), (5, [6, 7], []), (6, [0, 1, 2, 30], [0, 0, 2, 6, 14, 0, 32, 96, 224, 480, 1022, 2047]), (7, [2, 9], []), (8, [9], []), (9, [6, 7], []), (10, [0, 1, 10], []), (11, [10, 52], [0, 0, 2, 6, 14, 0, 32, 96, 224, 480, 1022, 2047]), (12, [6, 7], []), (13, [6, 7], [])] ir40 [.t 6, .t 7] 54 :=
  ⟨Try.f40, _, rfl, rfl, rfl, by decide, by kernel_rfl, by kernel_rfl⟩

/- 41 (*sloth/slothref20.Arena).Collect (2) -/
def ir41L1 : IR := .seq (.seq (.reg false [.r (some 32) (.mv (.t 9)),
    .r (some 33) (.mv (.t 7)),
    .r (some 34) (.len (.t 33)),
    .r (some 35) (.bi .lss (.t 32) (.t 34))] [0, 1, 7, 8, 9, 35]) <|
  .cond (.t 35) (.skip) ((.exit 0))) <|
  .seq (.block 1 (.reg false [.r (some 38) (.mv (.t 8)),
    .r (some 39) (.mv (.t 7)),
    .r (some 40) (.mv (.t 9)),
    .r (some 41) (.ia 1 (.t 39) (.t 40)),
    .r (some 42) (.l1 (.t 41)),
    .r (some 43) (.mv (.t 9)),
    .r (some 44) (.ia 1 (.t 38) (.t 42)),
    .e none (.st 1 (.t 44) (.t 43))] [0, 1, 7, 8, 9])) <|
  .reg false [.r (some 36) (.mv (.t 9)),
    .r (some 37) (.bi .add (.t 36) (.c (.int .i64 1))),
    .r (some 9) (.mv (.t 37))] [0, 1, 7, 8, 9]
def ir41L2 : IR := .seq (.seq (.reg true [.r (some 74) (.mv (.t 13)),
    .r (some 75) (.mv (.t 0)),
    .r (some 76) (.nn (.t 75)),
    .r (some 77) (.fa 1 (.t 76)),
    .r (some 78) (.l1 (.t 77)),
    .r (some 79) (.mv (.t 7)),
    .r (some 80) (.mv (.t 11)),
    .r (some 81) (.ia 1 (.t 79) (.t 80)),
    .r (some 82) (.l1 (.t 81)),
    .r (some 83) (.ia 3 (.t 78) (.t 82)),
    .r (some 84) (.fa 2 (.t 83)),
    .r (some 85) (.l1 (.t 84)),
    .r (some 86) (.len (.t 85)),
    .r (some 87) (.bi .lss (.t 74) (.t 86))] [0, 1, 7, 8, 10, 11, 12, 13, 87]) <|
  .cond (.t 87) (.skip) ((.exit 4))) <|
  .seq (.block 5 (.seq (.reg true [.r (some 90) (.mv (.t 0)),
    .r (some 91) (.mv (.t 0)),
    .r (some 92) (.nn (.t 91)),
    .r (some 93) (.fa 1 (.t 92)),
    .r (some 94) (.l1 (.t 93)),
    .r (some 95) (.mv (.t 7)),
    .r (some 96) (.mv (.t 11)),
    .r (some 97) (.ia 1 (.t 95) (.t 96)),
    .r (some 98) (.l1 (.t 97)),
    .r (some 99) (.ia 3 (.t 94) (.t 98)),
    .r (some 100) (.fa 2 (.t 99)),
    .r (some 101) (.l1 (.t 100)),
    .r (some 102) (.mv (.t 13)),
    .r (some 103) (.ia 1 (.t 101) (.t 102)),
    .r (some 104) (.l1 (.t 103)),
    .e (some 105) (.call 44 [(.t 90), (.t 104)]),
    .r (some 14) (.mv (.t 105))] [0, 1, 7, 8, 10, 11, 12, 13, 14]) <|
  .dr (.r 0 none (some 106) (.fa 2 (.t 12)) <|
    .r 1 none (some 107) (.l1 (.t 106)) <|
    .r 2 none (some 108) (.mv (.t 8)) <|
    .r 3 none (some 109) (.mv (.t 14)) <|
    .r 4 none (some 110) (.ia 1 (.t 108) (.t 109)) <|
    .r 5 none (some 111) (.l1 (.t 110)) <|
    .e 6 none (some 112) (.bs 3 1 #[(.int .i64 0)] [(0, 1, (.t 111))]) [1] <|
    .e 7 none (some 113) (.ap 3 1 8 #[(.int .i64 0)] (.t 107) (.t 112)) [] <|
    .r 8 none (some 114) (.fa 2 (.t 12)) <|
    .e 9 none none (.st 1 (.t 114) (.t 113)) [] <|
    .nil) [0, 1, 7, 8, 10, 11, 12, 13])) <|
  .reg false [.r (some 88) (.mv (.t 13)),
    .r (some 89) (.bi .add (.t 88) (.c (.int .i64 1))),
    .r (some 13) (.mv (.t 89))] [0, 1, 7, 8, 10, 11, 12, 13]
def ir41L3 : IR := .seq (.seq (.reg false [.r (some 45) (.mv (.t 11)),
    .r (some 46) (.mv (.t 7)),
    .r (some 47) (.len (.t 46)),
    .r (some 48) (.bi .lss (.t 45) (.t 47))] [0, 1, 7, 8, 10, 11, 48]) <|
  .cond (.t 48) (.skip) ((.exit 2))) <|
  .seq (.block 3 (.seq (.dr (.r 0 none (some 51) (.mv (.t 0)) <|
    .r 1 none (some 52) (.nn (.t 51)) <|
    .r 2 none (some 53) (.fa 1 (.t 52)) <|
    .r 3 none (some 54) (.l1 (.t 53)) <|
    .r 4 none (some 55) (.mv (.t 7)) <|
    .r 5 none (some 56) (.mv (.t 11)) <|
    .r 6 none (some 57) (.ia 1 (.t 55) (.t 56)) <|
    .r 7 none (some 58) (.l1 (.t 57)) <|
    .r 8 none (some 59) (.ia 3 (.t 54) (.t 58)) <|
    .r 9 none (some 60) (.fa 0 (.t 59)) <|
    .r 10 none (some 61) (.l1 (.t 60)) <|
    .r 11 none (some 62) (.mv (.t 0)) <|
    .r 12 none (some 63) (.nn (.t 62)) <|
    .r 13 none (some 64) (.fa 1 (.t 63)) <|
    .r 14 none (some 65) (.l1 (.t 64)) <|
    .r 15 none (some 66) (.mv (.t 7)) <|
    .r 16 none (some 67) (.mv (.t 11)) <|
    .r 17 none (some 68) (.ia 1 (.t 66) (.t 67)) <|
    .r 18 none (some 69) (.l1 (.t 68)) <|
    .r 19 none (some 70) (.ia 3 (.t 65) (.t 69)) <|
    .r 20 none (some 71) (.fa 1 (.t 70)) <|
    .r 21 none (some 72) (.l1 (.t 71)) <|
    .r 22 none (some 73) (.bd #[(.int .i64 0), (.int .i64 0), (.slice none 0 0)] [(0, 1, (.t 61)), (1, 1, (.t 72))]) <|
    .e 23 none (some 12) (.al 35 (.agg #[(.int .i64 0), (.int .i64 0), (.slice none 0 0)])) [3, 7, 10, 14, 18, 21] <|
    .e 24 none none (.st 3 (.t 12) (.t 73)) [] <|
    .nil) [0, 1, 7, 8, 10, 11, 12]) <|
  .seq (.seq (.reg false [.r (some 13) (.mv (.c (.int .i64 0)))] [0, 1, 7, 8, 10, 11, 12, 13]) <|
  .block 4 (.loop ir41L2)) <|
  .reg false [.r (some 115) (.mv (.t 10)),
    .r (some 116) (.ln 3 (.t 12)),
    .e (some 117) (.bs 35 1 #[(.int .i64 0), (.int .i64 0), (.slice none 0 0)] [(0, 3, (.t 116))]),
    .e (some 118) (.ap 35 3 40 #[(.int .i64 0), (.int .i64 0), (.slice none 0 0)] (.t 115) (.t 117)),
    .r (some 10) (.mv (.t 118))] [0, 1, 7, 8, 10, 11])) <|
  .reg false [.r (some 49) (.mv (.t 11)),
    .r (some 50) (.bi .add (.t 49) (.c (.int .i64 1))),
    .r (some 11) (.mv (.t 50))] [0, 1, 7, 8, 10, 11]
def ir41L4 : IR := .seq (.seq (.reg false [.r (some 119) (.mv (.t 16)),
    .r (some 120) (.mv (.t 1)),
    .r (some 121) (.len (.t 120)),
    .r (some 122) (.bi .lss (.t 119) (.t 121))] [0, 1, 8, 10, 15, 16, 122]) <|
  .cond (.t 122) (.skip) ((.exit 6))) <|
  .seq (.block 7 (.seq (.reg false [.r (some 125) (.mv (.t 0)),
    .r (some 126) (.mv (.t 1)),
    .r (some 127) (.mv (.t 16)),
    .r (some 128) (.ia 1 (.t 126) (.t 127)),
    .r (some 129) (.l1 (.t 128)),
    .e (some 130) (.call 44 [(.t 125), (.t 129)]),
    .r (some 17) (.mv (.t 130))] [0, 1, 8, 10, 15, 16, 17]) <|
  .reg false [.r (some 131) (.mv (.t 15)),
    .r (some 132) (.mv (.t 8)),
    .r (some 133) (.mv (.t 17)),
    .r (some 134) (.ia 1 (.t 132) (.t 133)),
    .r (some 135) (.l1 (.t 134)),
    .e (some 136) (.bs 3 1 #[(.int .i64 0)] [(0, 1, (.t 135))]),
    .e (some 137) (.ap 3 1 8 #[(.int .i64 0)] (.t 131) (.t 136)),
    .r (some 15) (.mv (.t 137))] [0, 1, 8, 10, 15, 16])) <|
  .reg false [.r (some 123) (.mv (.t 16)),
    .r (some 124) (.bi .add (.t 123) (.c (.int .i64 1))),
    .r (some 16) (.mv (.t 124))] [0, 1, 8, 10, 15, 16]
def ir41 : IR := .seq (.reg false [.r (some 4) (.mv (.c (.slice none 0 0))),
    .r (some 5) (.mv (.c (.int .i64 0)))] [0, 1]) <|
  .seq (.reg false [.r (some 18) (.mv (.t 0)),
    .r (some 19) (.mv (.t 1)),
    .e (some 20) (.call 39 [(.t 18), (.t 19)]),
    .r (some 6) (.mv (.t 20))] [0, 1, 6]) <|
  .seq (.seq (.reg false [.r (some 21) (.mv (.t 6)),
    .r (some 22) (.no (.t 21))] [0, 1, 22]) <|
  .cond (.t 22) (.seq (.reg false [.r (some 4) (.mv (.c (.slice none 0 0))),
    .r (some 5) (.mv (.c (.int .i64 202)))] [4, 5]) <|
  .ret) (.skip)) <|
  .seq (.reg false [.r (some 23) (.mv (.t 0)),
    .r (some 24) (.mv (.t 1)),
    .e (some 25) (.call 43 [(.t 23), (.t 24)]),
    .r (some 7) (.mv (.t 25))] [0, 1, 7]) <|
  .seq (.reg false [.r (some 26) (.mv (.t 0)),
    .r (some 27) (.nn (.t 26)),
    .r (some 28) (.fa 1 (.t 27)),
    .r (some 29) (.l1 (.t 28)),
    .r (some 30) (.len (.t 29)),
    .e (some 31) (.ms 3 1 8 #[(.int .i64 0)] (.t 30) (.t 30)),
    .r (some 8) (.mv (.t 31))] [0, 1, 7, 8]) <|
  .seq (.seq (.reg false [.r (some 9) (.mv (.c (.int .i64 0)))] [0, 1, 7, 8, 9]) <|
  .block 0 (.loop ir41L1)) <|
  .seq (.reg false [.r (some 10) (.mv (.c (.slice none 0 0)))] [0, 1, 7, 8, 10]) <|
  .seq (.seq (.reg false [.r (some 11) (.mv (.c (.int .i64 0)))] [0, 1, 7, 8, 10, 11]) <|
  .block 2 (.loop ir41L3)) <|
  .seq (.reg false [.r (some 15) (.mv (.c (.slice none 0 0)))] [0, 1, 8, 10, 15]) <|
  .seq (.seq (.reg false [.r (some 16) (.mv (.c (.int .i64 0)))] [0, 1, 8, 10, 15, 16]) <|
  .block 6 (.loop ir41L4)) <|
  .seq (.reg false [.r (some 138) (.mv (.t 0)),
    .r (some 139) (.mv (.t 10)),
    .r (some 140) (.nn (.t 138)),
    .r (some 141) (.fa 1 (.t 140)),
    .e none (.st 1 (.t 141) (.t 139))] [0, 15]) <|
  .seq (.reg false [.r (some 142) (.mv (.t 0)),
    .r (some 143) (.nn (.t 142)),
    .r (some 144) (.fa 2 (.t 143)),
    .r (some 145) (.l1 (.t 144)),
    .r (some 146) (.bi .add (.t 145) (.c (.int .i64 1))),
    .r (some 147) (.nn (.t 142)),
    .r (some 148) (.fa 2 (.t 147)),
    .e none (.st 1 (.t 148) (.t 146))] [15]) <|
  .seq (.reg false [.r (some 149) (.mv (.t 15)),
    .r (some 4) (.mv (.t 149)),
    .r (some 5) (.mv (.c (.int .i64 0)))] [4, 5]) <|
  .ret
theorem fit41 : Fits Try.prog 41 2 [(0, [0, 1], []), (1, [0, 1, 6], []), (2, [0, 1, 22], []), (3, [4, 5], []), (4, [0, 1, 7], []), (5, [0, 1, 7, 8], []), (6, [0, 1, 7, 8, 9], []), (7, [0, 1, 7, 8, 9, 35], []), (8, [0, 1, 7, 8, 9], []), (9, [0, 1, 7, 8, 9], []), (10, [0, 1, 7, 8, 10], []), (11, [0, 1, 7, 8, 10, 11], []), (12, [0, 1, 7, 8, 10, 11, 48], []), (13, [0, 1, 7, 8, 10, 11], []), (14, [0, 1, 7, 8, 10, 11, 12], [0, 1, 3, 7, 0, 0, 48, 112, 255, 511, 1023, 0, 2048, 6144, 14336, 0, 0, 98304, 229376, 522240, 1046528, 2095104, 4194303, 0, 16777215]), (15, [0, 1, 7, 8, 10, 11, 12, 13], []), (16, [0, 1, 7, 8, 10, 11, 12, 13, 87], [0, 0, 2, 6, 14, 0, 0, 96, 224, 510, 1022, 2046, 4094, 8191]), (17, [0, 1, 7, 8, 10, 11, 12, 13], []), (18, [0, 1, 7, 8, 10, 11, 12, 13, 14], [0, 0, 2, 6, 14, 0, 0, 96, 224, 510, 1022, 2046, 0, 8190, 16382, 32767, 65535]), (19, [0, 1, 7, 8, 10, 11, 12, 13], [0, 1, 0, 0, 12, 28, 60, 127, 255, 511]), (20, [0, 1, 7, 8, 10, 11], []), (21, [0, 1, 8, 10, 15], []), (22, [0, 1, 8, 10, 15, 16], []), (23, [0, 1, 8, 10, 15, 16, 122], []), (24, [0, 1, 8, 10, 15, 16], []), (25, [0, 1, 8, 10, 15, 16, 17], []), (26, [0, 1, 8, 10, 15, 16], []), (27, [0, 15], []), (28, [15], []), (29, [4, 5], [])] ir41 [.t 4, .t 5] 150 :=
  ⟨Try.f41, _, rfl, rfl, rfl, by decide, by kernel_rfl, by kernel_rfl⟩

/- 42 sloth/slothref20.May (1) -/
def ir42 : IR := .seq (.reg false [.e (some 1) (.bx 35 (.t 0)),
    .r (some 2) (.mv (.c (.bool false)))] [1]) <|
  .seq (.seq (.reg false [.r (some 3) (.fa 0 (.t 1)),
    .r (some 4) (.l1 (.t 3))] [1, 4]) <|
  .block 0 (.seq (.reg false [.r (some 6) (.bi .eql (.t 4) (.c (.int .i64 1))),
    .r (some 5) (.mv (.t 6))] [1, 4, 5]) <|
  .cond (.t 5) (.seq (.reg false [.r (some 7) (.fa 1 (.t 1)),
    .r (some 8) (.l1 (.t 7)),
    .r (some 9) (.bi .geq (.t 8) (.c (.int .i64 (-4611686018427387904)))),
    .r (some 10) (.mv (.t 9)),
    .gr 10 true (some 11) (.fa 1 (.t 1)),
    .gr 10 true (some 12) (.l1 (.t 11)),
    .gr 10 true (some 13) (.bi .leq (.t 12) (.c (.int .i64 4611686018427387903))),
    .r (some 14) (.pk (.t 10) (.t 13) (.c (.bool false))),
    .r (some 15) (.mv (.t 14)),
    .gr 15 true (some 16) (.fa 2 (.t 1)),
    .gr 15 true (some 17) (.l1 (.t 16)),
    .gr 15 true (some 18) (.len (.t 17)),
    .gr 15 true (some 19) (.bi .eql (.t 18) (.c (.int .i64 0))),
    .r (some 20) (.pk (.t 15) (.t 19) (.c (.bool false))),
    .r (some 2) (.mv (.t 20))] [2]) <|
  .ret) (.seq (.reg false [.r (some 22) (.bi .eql (.t 4) (.c (.int .i64 2))),
    .r (some 21) (.mv (.t 22))] [1, 4, 21]) <|
  .cond (.t 21) (.seq (.reg false [.r (some 23) (.fa 1 (.t 1)),
    .r (some 24) (.l1 (.t 23)),
    .r (some 25) (.bi .geq (.t 24) (.c (.int .i64 0))),
    .r (some 26) (.mv (.t 25)),
    .gr 26 true (some 27) (.fa 2 (.t 1)),
    .gr 26 true (some 28) (.l1 (.t 27)),
    .gr 26 true (some 29) (.len (.t 28)),
    .gr 26 true (some 30) (.bi .leq (.t 29) (.c (.int .i64 8))),
    .r (some 31) (.pk (.t 26) (.t 30) (.c (.bool false))),
    .r (some 2) (.mv (.t 31))] [2]) <|
  .ret) (.seq (.reg false [.r (some 33) (.bi .eql (.t 4) (.c (.int .i64 3))),
    .r (some 32) (.mv (.t 33))] [1, 4, 32]) <|
  .cond (.t 32) (.seq (.reg false [.r (some 34) (.fa 1 (.t 1)),
    .r (some 35) (.l1 (.t 34)),
    .r (some 36) (.bi .eql (.t 35) (.c (.int .i64 0))),
    .r (some 37) (.mv (.t 36)),
    .gr 37 true (some 38) (.fa 2 (.t 1)),
    .gr 37 true (some 39) (.l1 (.t 38)),
    .gr 37 true (some 40) (.len (.t 39)),
    .gr 37 true (some 41) (.bi .eql (.t 40) (.c (.int .i64 2))),
    .r (some 42) (.pk (.t 37) (.t 41) (.c (.bool false))),
    .r (some 2) (.mv (.t 42))] [2]) <|
  .ret) (.seq (.seq (.reg false [.r (some 44) (.bi .eql (.t 4) (.c (.int .i64 4))),
    .r (some 43) (.mv (.t 44))] [1, 4, 43]) <|
  .cond (.t 43) (.skip) (.reg false [.r (some 45) (.bi .eql (.t 4) (.c (.int .i64 8))),
    .r (some 43) (.mv (.t 45))] [1, 4, 43])) <|
  .cond (.t 43) (.seq (.reg false [.r (some 46) (.fa 1 (.t 1)),
    .r (some 47) (.l1 (.t 46)),
    .r (some 48) (.bi .geq (.t 47) (.c (.int .i64 0))),
    .r (some 49) (.mv (.t 48)),
    .gr 49 true (some 50) (.fa 2 (.t 1)),
    .gr 49 true (some 51) (.l1 (.t 50)),
    .gr 49 true (some 52) (.len (.t 51)),
    .gr 49 true (some 53) (.bi .eql (.t 52) (.c (.int .i64 0))),
    .r (some 54) (.pk (.t 49) (.t 53) (.c (.bool false))),
    .r (some 2) (.mv (.t 54))] [2]) <|
  .ret) (.seq (.reg false [.r (some 56) (.bi .eql (.t 4) (.c (.int .i64 5))),
    .r (some 55) (.mv (.t 56))] [1, 4, 55]) <|
  .cond (.t 55) (.seq (.reg false [.r (some 57) (.fa 1 (.t 1)),
    .r (some 58) (.l1 (.t 57)),
    .r (some 59) (.bi .eql (.t 58) (.c (.int .i64 0))),
    .r (some 60) (.mv (.t 59)),
    .gr 60 true (some 61) (.fa 2 (.t 1)),
    .gr 60 true (some 62) (.l1 (.t 61)),
    .gr 60 true (some 63) (.len (.t 62)),
    .gr 60 true (some 64) (.bi .eql (.t 63) (.c (.int .i64 1))),
    .r (some 65) (.pk (.t 60) (.t 64) (.c (.bool false))),
    .r (some 2) (.mv (.t 65))] [2]) <|
  .ret) (.seq (.seq (.reg false [.r (some 67) (.bi .eql (.t 4) (.c (.int .i64 6))),
    .r (some 66) (.mv (.t 67))] [1, 4, 66]) <|
  .cond (.t 66) (.skip) (.reg false [.r (some 68) (.bi .eql (.t 4) (.c (.int .i64 7))),
    .r (some 66) (.mv (.t 68))] [1, 66])) <|
  .cond (.t 66) (.seq (.reg false [.r (some 69) (.fa 1 (.t 1)),
    .r (some 70) (.l1 (.t 69)),
    .r (some 71) (.bi .eql (.t 70) (.c (.int .i64 0))),
    .r (some 72) (.mv (.t 71)),
    .gr 72 true (some 73) (.fa 2 (.t 1)),
    .gr 72 true (some 74) (.l1 (.t 73)),
    .gr 72 true (some 75) (.len (.t 74)),
    .gr 72 true (some 76) (.bi .eql (.t 75) (.c (.int .i64 0))),
    .r (some 77) (.pk (.t 72) (.t 76) (.c (.bool false))),
    .r (some 2) (.mv (.t 77))] [2]) <|
  .ret) (.skip)))))))) <|
  .seq (.reg false [.r (some 2) (.mv (.c (.bool false)))] [2]) <|
  .ret
theorem fit42 : Fits Try.prog 42 1 [(0, [1], []), (1, [1, 4], []), (2, [1, 4, 5], []), (3, [2], []), (4, [1, 4, 21], []), (5, [2], []), (6, [1, 4, 32], []), (7, [2], []), (8, [1, 4, 43], []), (9, [1, 4, 43], []), (10, [2], []), (11, [1, 4, 55], []), (12, [2], []), (13, [1, 4, 66], []), (14, [1, 66], []), (15, [2], []), (16, [2], [])] ir42 [.t 2] 78 :=
  ⟨Try.f42, _, rfl, rfl, rfl, by decide, by kernel_rfl, by kernel_rfl⟩

/- 43 (*sloth/slothref20.Arena).Reached (2) -/
def ir43L1 : IR := .seq (.seq (.reg false [.r (some 19) (.mv (.t 7)),
    .r (some 20) (.mv (.t 1)),
    .r (some 21) (.len (.t 20)),
    .r (some 22) (.bi .lss (.t 19) (.t 21))] [0, 1, 5, 6, 7, 22]) <|
  .cond (.t 22) (.skip) ((.exit 0))) <|
  .seq (.block 1 (.seq (.reg false [.r (some 25) (.mv (.t 0)),
    .r (some 26) (.mv (.t 1)),
    .r (some 27) (.mv (.t 7)),
    .r (some 28) (.ia 1 (.t 26) (.t 27)),
    .r (some 29) (.l1 (.t 28)),
    .e (some 30) (.call 44 [(.t 25), (.t 29)]),
    .r (some 8) (.mv (.t 30))] [0, 1, 5, 6, 7, 8]) <|
  .seq (.reg false [.r (some 31) (.mv (.t 6)),
    .r (some 32) (.mv (.t 8)),
    .r (some 33) (.ia 1 (.t 31) (.t 32)),
    .r (some 34) (.l1 (.t 33)),
    .r (some 35) (.no (.t 34))] [0, 1, 5, 6, 7, 8, 35]) <|
  .cond (.t 35) (.seq (.reg false [.r (some 36) (.mv (.t 6)),
    .r (some 37) (.mv (.t 8)),
    .r (some 38) (.ia 1 (.t 36) (.t 37)),
    .e none (.st 1 (.t 38) (.c (.bool true)))] [0, 1, 5, 6, 7, 8]) <|
  .reg false [.r (some 39) (.mv (.t 5)),
    .r (some 40) (.mv (.t 8)),
    .e (some 41) (.bs 3 1 #[(.int .i64 0)] [(0, 1, (.t 40))]),
    .e (some 42) (.ap 3 1 8 #[(.int .i64 0)] (.t 39) (.t 41)),
    .r (some 5) (.mv (.t 42))] [0, 1, 5, 6, 7]) (.skip))) <|
  .reg false [.r (some 23) (.mv (.t 7)),
    .r (some 24) (.bi .add (.t 23) (.c (.int .i64 1))),
    .r (some 7) (.mv (.t 24))] [0, 1, 5, 6, 7]
def ir43L2 : IR := .seq (.seq (.reg false [.r (some 59) (.mv (.t 11)),
    .r (some 60) (.fa 2 (.t 10)),
    .r (some 61) (.l1 (.t 60)),
    .r (some 62) (.len (.t 61)),
    .r (some 63) (.bi .lss (.t 59) (.t 62))] [0, 5, 6, 9, 10, 11, 63]) <|
  .cond (.t 63) (.skip) ((.exit 4))) <|
  .seq (.block 5 (.seq (.reg false [.r (some 66) (.mv (.t 0)),
    .r (some 67) (.fa 2 (.t 10)),
    .r (some 68) (.l1 (.t 67)),
    .r (some 69) (.mv (.t 11)),
    .r (some 70) (.ia 1 (.t 68) (.t 69)),
    .r (some 71) (.l1 (.t 70)),
    .e (some 72) (.call 44 [(.t 66), (.t 71)]),
    .r (some 12) (.mv (.t 72))] [0, 5, 6, 9, 10, 11, 12]) <|
  .seq (.reg false [.r (some 73) (.mv (.t 6)),
    .r (some 74) (.mv (.t 12)),
    .r (some 75) (.ia 1 (.t 73) (.t 74)),
    .r (some 76) (.l1 (.t 75)),
    .r (some 77) (.no (.t 76))] [0, 5, 6, 9, 10, 11, 12, 77]) <|
  .cond (.t 77) (.seq (.reg false [.r (some 78) (.mv (.t 6)),
    .r (some 79) (.mv (.t 12)),
    .r (some 80) (.ia 1 (.t 78) (.t 79)),
    .e none (.st 1 (.t 80) (.c (.bool true)))] [0, 5, 6, 9, 10, 11, 12]) <|
  .reg false [.r (some 81) (.mv (.t 5)),
    .r (some 82) (.mv (.t 12)),
    .e (some 83) (.bs 3 1 #[(.int .i64 0)] [(0, 1, (.t 82))]),
    .e (some 84) (.ap 3 1 8 #[(.int .i64 0)] (.t 81) (.t 83)),
    .r (some 5) (.mv (.t 84))] [0, 5, 6, 9, 10, 11]) (.skip))) <|
  .reg false [.r (some 64) (.mv (.t 11)),
    .r (some 65) (.bi .add (.t 64) (.c (.int .i64 1))),
    .r (some 11) (.mv (.t 65))] [0, 5, 6, 9, 10, 11]
def ir43L3 : IR := .seq (.seq (.reg false [.r (some 43) (.mv (.t 9)),
    .r (some 44) (.mv (.t 5)),
    .r (some 45) (.len (.t 44)),
    .r (some 46) (.bi .lss (.t 43) (.t 45))] [0, 5, 6, 9, 46]) <|
  .cond (.t 46) (.skip) ((.exit 2))) <|
  .seq (.block 3 (.seq (.dr (.r 0 none (some 49) (.mv (.t 0)) <|
    .r 1 none (some 50) (.nn (.t 49)) <|
    .r 2 none (some 51) (.fa 1 (.t 50)) <|
    .r 3 none (some 52) (.l1 (.t 51)) <|
    .r 4 none (some 53) (.mv (.t 5)) <|
    .r 5 none (some 54) (.mv (.t 9)) <|
    .r 6 none (some 55) (.ia 1 (.t 53) (.t 54)) <|
    .r 7 none (some 56) (.l1 (.t 55)) <|
    .r 8 none (some 57) (.ia 3 (.t 52) (.t 56)) <|
    .r 9 none (some 58) (.ln 3 (.t 57)) <|
    .e 10 none (some 10) (.al 35 (.agg #[(.int .i64 0), (.int .i64 0), (.slice none 0 0)])) [3, 7, 9] <|
    .e 11 none none (.st 3 (.t 10) (.t 58)) [] <|
    .nil) [0, 5, 6, 9, 10]) <|
  .seq (.reg false [.r (some 11) (.mv (.c (.int .i64 0)))] [0, 5, 6, 9, 10, 11]) <|
  .block 4 (.loop ir43L2))) <|
  .reg false [.r (some 47) (.mv (.t 9)),
    .r (some 48) (.bi .add (.t 47) (.c (.int .i64 1))),
    .r (some 9) (.mv (.t 48))] [0, 5, 6, 9]
def ir43 : IR := .seq (.reg false [.r (some 4) (.mv (.c (.slice none 0 0)))] [0, 1]) <|
  .seq (.reg false [.r (some 5) (.mv (.c (.slice none 0 0)))] [0, 1, 5]) <|
  .seq (.reg false [.r (some 13) (.mv (.t 0)),
    .r (some 14) (.nn (.t 13)),
    .r (some 15) (.fa 1 (.t 14)),
    .r (some 16) (.l1 (.t 15)),
    .r (some 17) (.len (.t 16)),
    .e (some 18) (.ms 4 1 1 #[(.bool false)] (.t 17) (.t 17)),
    .r (some 6) (.mv (.t 18))] [0, 1, 5, 6]) <|
  .seq (.seq (.reg false [.r (some 7) (.mv (.c (.int .i64 0)))] [0, 1, 5, 6, 7]) <|
  .block 0 (.loop ir43L1)) <|
  .seq (.seq (.reg false [.r (some 9) (.mv (.c (.int .i64 0)))] [0, 5, 6, 9]) <|
  .block 2 (.loop ir43L3)) <|
  .seq (.reg false [.r (some 85) (.mv (.t 5)),
    .r (some 4) (.mv (.t 85))] [4]) <|
  .ret
theorem fit43 : Fits Try.prog 43 2 [(0, [0, 1], []), (1, [0, 1, 5], []), (2, [0, 1, 5, 6], []), (3, [0, 1, 5, 6, 7], []), (4, [0, 1, 5, 6, 7, 22], []), (5, [0, 1, 5, 6, 7], []), (6, [0, 1, 5, 6, 7, 8], []), (7, [0, 1, 5, 6, 7, 8, 35], []), (8, [0, 1, 5, 6, 7, 8], []), (9, [0, 1, 5, 6, 7], []), (10, [0, 5, 6, 9], []), (11, [0, 5, 6, 9, 46], []), (12, [0, 5, 6, 9], []), (13, [0, 5, 6, 9, 10], [0, 1, 3, 7, 0, 0, 48, 112, 255, 511, 0, 2047]), (14, [0, 5, 6, 9, 10, 11], []), (15, [0, 5, 6, 9, 10, 11, 63], []), (16, [0, 5, 6, 9, 10, 11], []), (17, [0, 5, 6, 9, 10, 11, 12], []), (18, [0, 5, 6, 9, 10, 11, 12, 77], []), (19, [0, 5, 6, 9, 10, 11, 12], []), (20, [0, 5, 6, 9, 10, 11], []), (21, [4], [])] ir43 [.t 4] 86 :=
  ⟨Try.f43, _, rfl, rfl, rfl, by decide, by kernel_rfl, by kernel_rfl⟩

/- 44 (*sloth/slothref20.Arena).Over (2) -/
def ir44L1 : IR := .seq (.seq (.reg false [.r (some 8) (.mv (.t 5)),
    .r (some 9) (.mv (.t 0)),
    .r (some 10) (.nn (.t 9)),
    .r (some 11) (.fa 1 (.t 10)),
    .r (some 12) (.l1 (.t 11)),
    .r (some 13) (.len (.t 12)),
    .r (some 14) (.bi .leq (.t 8) (.t 13))] [0, 1, 5, 14]) <|
  .cond (.t 14) (.skip) ((.exit 0))) <|
  .seq (.block 1 (.seq (.seq (.reg false [.r (some 17) (.mv (.t 0)),
    .r (some 18) (.nn (.t 17)),
    .r (some 19) (.fa 1 (.t 18)),
    .r (some 20) (.l1 (.t 19)),
    .r (some 21) (.mv (.t 1)),
    .r (some 22) (.ia 3 (.t 20) (.t 21)),
    .r (some 23) (.fa 0 (.t 22)),
    .r (some 24) (.l1 (.t 23)),
    .r (some 25) (.bi .neq (.t 24) (.c (.int .i64 5)))] [0, 1, 5, 25]) <|
  .cond (.t 25) (.seq (.reg false [.r (some 26) (.mv (.t 1)),
    .r (some 4) (.mv (.t 26))] [4]) <|
  .ret) (.skip)) <|
  .reg false [.r (some 27) (.mv (.t 0)),
    .r (some 28) (.nn (.t 27)),
    .r (some 29) (.fa 1 (.t 28)),
    .r (some 30) (.l1 (.t 29)),
    .r (some 31) (.mv (.t 1)),
    .r (some 32) (.ia 3 (.t 30) (.t 31)),
    .r (some 33) (.fa 2 (.t 32)),
    .r (some 34) (.l1 (.t 33)),
    .r (some 35) (.ia 1 (.t 34) (.c (.int .i64 0))),
    .r (some 36) (.l1 (.t 35)),
    .r (some 1) (.mv (.t 36))] [0, 1, 5])) <|
  .reg false [.r (some 15) (.mv (.t 5)),
    .r (some 16) (.bi .add (.t 15) (.c (.int .i64 1))),
    .r (some 5) (.mv (.t 16))] [0, 1, 5]
def ir44L2 : IR := .seq (.seq (.reg false [.r (some 48) (.mv (.t 7)),
    .r (some 49) (.mv (.t 1)),
    .r (some 50) (.bi .neq (.t 48) (.t 49))] [0, 1, 6, 7, 50]) <|
  .cond (.t 50) (.skip) ((.exit 2))) <|
  .block 3 (.seq (.reg false [.r (some 51) (.mv (.t 6)),
    .r (some 52) (.mv (.t 7)),
    .r (some 53) (.mm false (.t 51) (.t 52)),
    .r (some 6) (.mv (.t 53))] [0, 1, 6, 7]) <|
  .reg false [.r (some 54) (.mv (.t 0)),
    .r (some 55) (.nn (.t 54)),
    .r (some 56) (.fa 1 (.t 55)),
    .r (some 57) (.l1 (.t 56)),
    .r (some 58) (.mv (.t 7)),
    .r (some 59) (.ia 3 (.t 57) (.t 58)),
    .r (some 60) (.fa 2 (.t 59)),
    .r (some 61) (.l1 (.t 60)),
    .r (some 62) (.ia 1 (.t 61) (.c (.int .i64 0))),
    .r (some 63) (.l1 (.t 62)),
    .r (some 7) (.mv (.t 63))] [0, 1, 6, 7])
def ir44 : IR := .seq (.reg false [.r (some 4) (.mv (.c (.int .i64 0)))] [0, 1]) <|
  .seq (.seq (.reg false [.r (some 5) (.mv (.c (.int .i64 0)))] [0, 1, 5]) <|
  .block 0 (.loop ir44L1)) <|
  .seq (.reg false [.r (some 37) (.mv (.t 1)),
    .r (some 6) (.mv (.t 37))] [0, 1, 6]) <|
  .seq (.reg false [.r (some 38) (.mv (.t 0)),
    .r (some 39) (.nn (.t 38)),
    .r (some 40) (.fa 1 (.t 39)),
    .r (some 41) (.l1 (.t 40)),
    .r (some 42) (.mv (.t 1)),
    .r (some 43) (.ia 3 (.t 41) (.t 42)),
    .r (some 44) (.fa 2 (.t 43)),
    .r (some 45) (.l1 (.t 44)),
    .r (some 46) (.ia 1 (.t 45) (.c (.int .i64 0))),
    .r (some 47) (.l1 (.t 46)),
    .r (some 7) (.mv (.t 47))] [0, 1, 6, 7]) <|
  .seq (.block 2 (.loop ir44L2)) <|
  .seq (.reg false [.r (some 64) (.mv (.t 6)),
    .r (some 4) (.mv (.t 64))] [4]) <|
  .ret
theorem fit44 : Fits Try.prog 44 2 [(0, [0, 1], []), (1, [0, 1, 5], []), (2, [0, 1, 5, 14], []), (3, [0, 1, 5], []), (4, [0, 1, 5, 25], []), (5, [4], []), (6, [0, 1, 5], []), (7, [0, 1, 6], []), (8, [0, 1, 6, 7], []), (9, [0, 1, 6, 7, 50], []), (10, [0, 1, 6, 7], []), (11, [0, 1, 6, 7], []), (12, [4], [])] ir44 [.t 4] 65 :=
  ⟨Try.f44, _, rfl, rfl, rfl, by decide, by kernel_rfl, by kernel_rfl⟩

end Go.Proofs.Ytnagmcdlepcgnaa
