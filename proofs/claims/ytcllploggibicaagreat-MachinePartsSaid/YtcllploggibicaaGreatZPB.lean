/- Texts that the last file stands on: IRA, S2, H1, H2, P1, H3, H4, P2, H5, P3, H6, H7, G1, G2, G3, G4. -/
import Derived.Test.YtcllploggibicaaGreatZPA
import Derived.KernelRfl
set_option linter.unusedSimpArgs false
set_option linter.unusedVariables false
set_option maxRecDepth 100000
namespace Go.Proofs.YtcllploggibicaaGreat
section
open Go Go.W
def ir29:IR:=.seq (.reg false [] [0,1]) <|
 .seq (.reg false [.e (some 7) (.call 56 [(.t 0),(.t 1)]),
.r (some 8) (.bi .geq (.t 7) (.c (.int .i64 0))),
.r (some 4) (.mv (.t 8))] [4]) <|
 .ret
theorem fit29:Fits Tryz.prog 29 2 (hOf Tryz.f29 ir29) ir29 [.t 4] 9:=⟨Tryz.f29,_,rfl,rfl,rfl,by decide,by kernel_rfl,by kernel_rfl⟩
def ir61:IR:=.seq (.reg false [] [0,1]) <|
 .seq (.seq (.reg false [.r (some 7) (.bi .lss (.t 0) (.c (.int .i64 1))),
.gr 7 false (some 9) (.mv (.t 0)),
.gr 7 false (some 10) (.bi .gtr (.t 9) (.c (.int .i64 1048576))),
.r (some 11) (.pk (.t 7) (.c (.bool true)) (.t 10)),
.gr 11 false (some 13) (.mv (.t 1)),
.gr 11 false (some 14) (.bi .lss (.t 13) (.c (.int .i64 1))),
.r (some 15) (.pk (.t 11) (.c (.bool true)) (.t 14)),
.gr 15 false (some 17) (.mv (.t 1)),
.gr 15 false (some 18) (.mv (.t 0)),
.gr 15 false (some 19) (.bi .gtr (.t 17) (.t 18)),
.r (some 20) (.pk (.t 15) (.c (.bool true)) (.t 19))] [0,1,20]) <|
 .cond (.t 20) (.seq (.reg false [.r (some 4) (.mv (.c (.pointer none))),
.r (some 5) (.mv (.c (.int .i64 210)))] [4,5]) <|
 .ret) (.skip)) <|
 .seq (.reg false [.r (some 21) (.mv (.t 0)),
.r (some 22) (.mv (.t 1)),
.e (some 23) (.raw ⟨(some 23),(.makeMap 160 none),160, "gens.go:25",#[],none⟩),
.r (some 24) (.bd #[(.int .i64 0),(.int .i64 0),(.slice none 0 0),(.int .i64 0),(.map none),(.int .i64 0)] [(0,1,(.t 21)),(1,1,(.t 22)),(4,1,(.t 23))]),
.e (some 25) (.bx 162 (.t 24)),
.r (some 4) (.mv (.t 25)),
.r (some 5) (.mv (.c (.int .i64 0)))] [4,5]) <|
 .ret
theorem fit61:Fits Tryz.prog 61 2 (hOf Tryz.f61 ir61) ir61 [.t 4,.t 5] 26:=⟨Tryz.f61,_,rfl,rfl,rfl,by decide,by kernel_rfl,by kernel_rfl⟩
def ir62:IR:=.seq (.reg false [] [0]) <|
 .seq (.seq (.reg false [.r (some 5) (.bi .lss (.t 0) (.c (.int .i64 1))),
.gr 5 false (some 7) (.mv (.t 0)),
.gr 5 false (some 8) (.bi .gtr (.t 7) (.c (.int .i64 1048576))),
.r (some 9) (.pk (.t 5) (.c (.bool true)) (.t 8))] [0,9]) <|
 .cond (.t 9) (.seq (.reg false [.r (some 2) (.mv (.c (.pointer none))),
.r (some 3) (.mv (.c (.int .i64 200)))] [2,3]) <|
 .ret) (.skip)) <|
 .seq (.reg false [.r (some 11) (.bd #[(.int .i64 0),(.slice none 0 0),(.int .i64 0)] [(0,1,(.t 0))]),
.e (some 12) (.bx 165 (.t 11)),
.r (some 2) (.mv (.t 12)),
.r (some 3) (.mv (.c (.int .i64 0)))] [2,3]) <|
 .ret
theorem fit62:Fits Tryz.prog 62 1 (hOf Tryz.f62 ir62) ir62 [.t 2,.t 3] 13:=⟨Tryz.f62,_,rfl,rfl,rfl,by decide,by kernel_rfl,by kernel_rfl⟩
def ir37:IR:=.seq (.reg false [] [0]) <|
 .seq (.seq (.reg false [.r (some 4) (.eq .slice false (.t 0) (.c (.slice none 0 0)))] [0,4]) <|
 .cond (.t 4) (.seq (.reg false [.r (some 2) (.mv (.c (.slice none 0 0)))] [2]) <|
 .ret) (.skip)) <|
 .seq (.reg false [.e (some 5) (.raw ⟨(some 5),(.buildSlice 26 0 #[]),26, "slices.go:362",#[],none⟩),
.r (some 6) (.mv (.t 0)),
.e (some 7) (.ap 3 1 8 #[(.int .i64 0)] (.t 5) (.t 6)),
.r (some 2) (.mv (.t 7))] [2]) <|
 .ret
theorem fit37:Fits Tryz.prog 37 1 (hOf Tryz.f37 ir37) ir37 [.t 2] 8:=⟨Tryz.f37,_,rfl,rfl,rfl,by decide,by kernel_rfl,by kernel_rfl⟩
def ir56L1:IR:=.seq (.reg false [.r (some 9) (.bi .lss (.t 8) (.t 7))] [0,1,7,8,9]) <|
 .seq (.cond (.t 9) (.skip) ((.exit 0))) <|
 .seq (.block 1 (.seq (.reg false [.r (some 5) (.mv (.t 8))] [0,1,5,7,8]) <|
 .seq (.reg false [.r (some 11) (.mv (.t 1)),
.r (some 12) (.mv (.t 0)),
.r (some 13) (.mv (.t 5)),
.r (some 14) (.ia 1 (.t 12) (.t 13)),
.r (some 15) (.l1 (.t 14)),
.e (some 16) (.raw ⟨(some 16),(.call { callee:=(.value (.tmp 11)),args:=#[(.tmp 15)],argTypes:=#[3]}),4, "slices.go:109",#[⟨0,.data⟩,⟨4,.data⟩],none⟩)] [0,1,5,7,8,16]) <|
 .cond (.t 16) (.seq (.reg false [.r (some 4) (.mv (.t 5))] [4]) <|
 .ret) (.skip))) <|
 .reg false [.r (some 18) (.bi .add (.t 8) (.c (.int .i64 1))),
.r (some 8) (.mv (.t 18))] [0,1,7,8]
def ir56:IR:=.seq (.reg false [] [0,1]) <|
 .seq (.seq (.reg false [.r (some 7) (.len (.t 0)),
.r (some 8) (.mv (.c (.int .i64 0)))] [0,1,7,8]) <|
 .block 0 (.loop ir56L1)) <|
 .seq (.reg false [.r (some 4) (.mv (.c (.int .i64 (-1))))] [4]) <|
 .ret
theorem fit56:Fits Tryz.prog 56 2 (hOf Tryz.f56 ir56) ir56 [.t 4] 19:=⟨Tryz.f56,_,rfl,rfl,rfl,by decide,by kernel_rfl,by kernel_rfl⟩
def ir178L1:IR:=.seq (.seq (.reg false [.r (some 14) (.len (.t 0)),
.r (some 15) (.bi .lss (.t 4) (.t 14))] [0,3,4,15]) <|
 .cond (.t 15) (.skip) ((.exit 0))) <|
 .seq (.block 1 (.reg false [.r (some 21) (.ia 1 (.t 0) (.t 4)),
.r (some 22) (.l1 (.t 21)),
.r (some 23) (.mm false (.t 3) (.t 22)),
.r (some 3) (.mv (.t 23))] [0,3,4])) <|
 .reg false [.r (some 17) (.bi .add (.t 4) (.c (.int .i64 1))),
.r (some 4) (.mv (.t 17))] [0,3,4]
def ir178:IR:=.seq (.reg false [] [0]) <|
 .seq (.seq (.reg false [.r (some 6) (.len (.t 0)),
.r (some 7) (.bi .lss (.t 6) (.c (.int .i64 1)))] [0,7]) <|
 .cond (.t 7) (.reg false [.r (some 8) (.mi 9 (.c (.string ⟨#[115,108,105,99,101,115,46,77,105,110,58,32,101,109,112,116,121,32,108,105,115,116]⟩))),
.e none (.raw ⟨none,(.panic (.tmp 8)),0, "sort.go:67",#[⟨0,.data⟩],none⟩)] [0]) (.skip)) <|
 .seq (.reg false [.r (some 10) (.ia 1 (.t 0) (.c (.int .i64 0))),
.r (some 11) (.l1 (.t 10)),
.r (some 3) (.mv (.t 11))] [0,3]) <|
 .seq (.seq (.reg false [.r (some 4) (.mv (.c (.int .i64 1)))] [0,3,4]) <|
 .block 0 (.loop ir178L1)) <|
 .seq (.reg false [.r (some 2) (.mv (.t 3))] [2]) <|
 .ret
theorem fit178:Fits Tryz.prog 178 1 (hOf Tryz.f178 ir178) ir178 [.t 2] 25:=⟨Tryz.f178,_,rfl,rfl,rfl,by decide,by kernel_rfl,by kernel_rfl⟩
def ir151:IR:=.seq (.reg false [.e (some 3) (.bx 87 (.t 1))] [0,3]) <|
 .seq (.block 0 (.seq (.reg false [.r (some 7) (.ln 3 (.t 3)),
.e (some 8) (.call 158 [(.t 7)]),
.r (some 9) (.no (.t 8)),
.r (some 6) (.mv (.t 9))] [0,3,6]) <|
 .cond (.t 6) (.seq (.reg false [.r (some 4) (.mv (.c (.int .i64 0))),
.r (some 5) (.mv (.c (.int .i64 1)))] [4,5]) <|
 .ret) (.seq (.reg false [.r (some 12) (.fa 2 (.t 3)),
.r (some 13) (.l1 (.t 12)),
.e (some 14) (.call 159 [(.t 0),(.t 13)]),
.r (some 15) (.no (.t 14)),
.r (some 10) (.mv (.t 15))] [0,3,10]) <|
 .cond (.t 10) (.seq (.reg false [.r (some 4) (.mv (.c (.int .i64 0))),
.r (some 5) (.mv (.c (.int .i64 212)))] [4,5]) <|
 .ret) (.seq (.reg true [.r (some 17) (.mv (.t 0)),
.r (some 18) (.nn (.t 17)),
.r (some 19) (.fa 2 (.t 18)),
.r (some 20) (.l1 (.t 19)),
.r (some 21) (.len (.t 20)),
.r (some 22) (.mv (.t 0)),
.r (some 23) (.nn (.t 22)),
.r (some 24) (.fa 0 (.t 23)),
.r (some 25) (.l1 (.t 24)),
.r (some 26) (.bi .geq (.t 21) (.t 25)),
.r (some 16) (.mv (.t 26))] [0,3,16]) <|
 .cond (.t 16) (.seq (.reg false [.r (some 4) (.mv (.c (.int .i64 0))),
.r (some 5) (.mv (.c (.int .i64 211)))] [4,5]) <|
 .ret) (.skip))))) <|
 .seq (.reg false [.r (some 27) (.fa 2 (.t 3)),
.r (some 28) (.l1 (.t 27)),
.e (some 29) (.call 37 [(.t 28)]),
.r (some 30) (.fa 2 (.t 3)),
.e none (.st 1 (.t 30) (.t 29))] [0,3]) <|
 .seq (.dr (.r 0 none (some 31) (.mv (.t 0)) <|
   .r 1 none (some 32) (.mv (.t 0)) <|
   .r 2 none (some 33) (.nn (.t 32)) <|
   .r 3 none (some 34) (.fa 2 (.t 33)) <|
   .r 4 none (some 35) (.l1 (.t 34)) <|
   .r 5 none (some 36) (.ln 3 (.t 3)) <|
   .e 6 none (some 37) (.bs 87 1 #[(.int .i64 0),(.int .i64 0),(.slice none 0 0)] [(0,3,(.t 36))]) [4] <|
   .e 7 none (some 38) (.ap 87 3 40 #[(.int .i64 0),(.int .i64 0),(.slice none 0 0)] (.t 35) (.t 37)) [] <|
   .r 8 none (some 39) (.nn (.t 31)) <|
   .r 9 none (some 40) (.fa 2 (.t 39)) <|
   .e 10 none none (.st 1 (.t 40) (.t 38)) [] <|
   .nil) [0]) <|
 .seq (.reg false [.r (some 42) (.nn (.t 0)),
.r (some 43) (.fa 2 (.t 42)),
.r (some 44) (.l1 (.t 43)),
.r (some 45) (.len (.t 44)),
.r (some 46) (.bi .sub (.t 45) (.c (.int .i64 1))),
.r (some 4) (.mv (.t 46)),
.r (some 5) (.mv (.c (.int .i64 0)))] [4,5]) <|
 .ret
theorem fit151:Fits Tryz.prog 151 2 (hOf Tryz.f151 ir151) ir151 [.t 4,.t 5] 47:=⟨Tryz.f151,_,rfl,rfl,rfl,by decide,by kernel_rfl,by kernel_rfl⟩
def ir152:IR:=.seq (.reg false [] [0,1]) <|
 .seq (.seq (.reg false [.e (some 8) (.call 159 [(.t 0),(.t 1)]),
.r (some 9) (.no (.t 8))] [0,1,9]) <|
 .cond (.t 9) (.seq (.reg false [.r (some 4) (.mv (.c (.slice none 0 0))),
.r (some 5) (.mv (.c (.int .i64 212)))] [4,5]) <|
 .ret) (.skip)) <|
 .seq (.reg false [.e (some 12) (.call 160 [(.t 0),(.t 1)]),
.r (some 4) (.mv (.t 12)),
.r (some 5) (.mv (.c (.int .i64 0)))] [4,5]) <|
 .ret
theorem fit152:Fits Tryz.prog 152 2 (hOf Tryz.f152 ir152) ir152 [.t 4,.t 5] 13:=⟨Tryz.f152,_,rfl,rfl,rfl,by decide,by kernel_rfl,by kernel_rfl⟩
def ir154:IR:=.seq (.reg false [.e (some 4) (.al 87 (.agg #[(.int .i64 0),(.int .i64 0),(.slice none 0 0)]))] [0,1,4]) <|
 .seq (.seq (.reg false [.e (some 9) (.bs 3 1 #[(.int .i64 0)] [(0,1,(.t 1))]),
.e (some 10) (.call 159 [(.t 0),(.t 9)]),
.r (some 11) (.no (.t 10))] [0,1,4,11]) <|
 .cond (.t 11) (.seq (.reg false [.r (some 12) (.bd #[(.int .i64 0),(.int .i64 0),(.slice none 0 0)] []),
.e none (.st 3 (.t 4) (.t 12)),
.r (some 5) (.mv (.c (.int .i64 212)))] [4,5]) <|
 .ret) (.skip)) <|
 .seq (.reg false [.r (some 14) (.nn (.t 0)),
.r (some 15) (.fa 2 (.t 14)),
.r (some 16) (.l1 (.t 15)),
.r (some 18) (.ia 3 (.t 16) (.t 1)),
.r (some 19) (.ln 3 (.t 18)),
.e (some 6) (.al 87 (.agg #[(.int .i64 0),(.int .i64 0),(.slice none 0 0)])),
.e none (.st 3 (.t 6) (.t 19))] [4,6]) <|
 .seq (.reg false [.r (some 20) (.fa 2 (.t 6)),
.r (some 21) (.l1 (.t 20)),
.e (some 22) (.call 37 [(.t 21)]),
.r (some 23) (.fa 2 (.t 6)),
.e none (.st 1 (.t 23) (.t 22))] [4,6]) <|
 .seq (.reg false [.r (some 24) (.ln 3 (.t 6)),
.e none (.st 3 (.t 4) (.t 24)),
.r (some 5) (.mv (.c (.int .i64 0)))] [4,5]) <|
 .ret
theorem fit154:Fits Tryz.prog 154 2 (hOf Tryz.f154 ir154) ir154 [.n 4 3,.t 5] 25:=⟨Tryz.f154,_,rfl,rfl,rfl,by decide,by kernel_rfl,by kernel_rfl⟩
def ir155:IR:=.seq (.reg false [] [0,1,2]) <|
 .seq (.seq (.reg false [.r (some 9) (.bi .lss (.t 1) (.c (.int .i64 0)))] [0,1,2,9]) <|
 .cond (.t 9) (.seq (.reg false [.r (some 6) (.mv (.c (.slice none 0 0))),
.r (some 7) (.mv (.c (.int .i64 1)))] [6,7]) <|
 .ret) (.skip)) <|
 .seq (.seq (.reg false [.e (some 12) (.call 159 [(.t 0),(.t 2)]),
.r (some 13) (.no (.t 12))] [0,1,2,13]) <|
 .cond (.t 13) (.seq (.reg false [.r (some 6) (.mv (.c (.slice none 0 0))),
.r (some 7) (.mv (.c (.int .i64 212)))] [6,7]) <|
 .ret) (.skip)) <|
 .seq (.seq (.reg true [.r (some 14) (.mv (.t 1)),
.r (some 15) (.mv (.t 0)),
.r (some 16) (.nn (.t 15)),
.r (some 17) (.fa 1 (.t 16)),
.r (some 18) (.l1 (.t 17)),
.r (some 19) (.mv (.t 0)),
.r (some 20) (.nn (.t 19)),
.r (some 21) (.fa 2 (.t 20)),
.r (some 22) (.l1 (.t 21)),
.r (some 23) (.len (.t 22)),
.r (some 24) (.mv (.t 0)),
.r (some 25) (.nn (.t 24)),
.r (some 26) (.fa 3 (.t 25)),
.r (some 27) (.l1 (.t 26)),
.r (some 28) (.bi .sub (.t 23) (.t 27)),
.r (some 29) (.bi .sub (.t 18) (.t 28)),
.r (some 30) (.bi .leq (.t 14) (.t 29)),
.r (some 31) (.mv (.t 30)),
.gr 31 true (some 32) (.mv (.t 1)),
.gr 31 true (some 33) (.mv (.t 0)),
.gr 31 true (some 34) (.nn (.t 33)),
.gr 31 true (some 35) (.fa 0 (.t 34)),
.gr 31 true (some 36) (.l1 (.t 35)),
.gr 31 true (some 37) (.mv (.t 0)),
.gr 31 true (some 38) (.nn (.t 37)),
.gr 31 true (some 39) (.fa 2 (.t 38)),
.gr 31 true (some 40) (.l1 (.t 39)),
.gr 31 true (some 41) (.len (.t 40)),
.gr 31 true (some 42) (.bi .sub (.t 36) (.t 41)),
.gr 31 true (some 43) (.bi .leq (.t 32) (.t 42)),
.r (some 44) (.pk (.t 31) (.t 43) (.c (.bool false)))] [0,1,2,44]) <|
 .cond (.t 44) (.seq (.reg false [.e (some 46) (.call 37 [(.t 2)]),
.r (some 6) (.mv (.t 46)),
.r (some 7) (.mv (.c (.int .i64 0)))] [6,7]) <|
 .ret) (.skip)) <|
 .seq (.reg false [.e (some 49) (.call 161 [(.t 0),(.t 2)]),
.r (some 2) (.mv (.t 49))] [0,1,2]) <|
 .seq (.seq (.reg true [.r (some 50) (.mv (.t 1)),
.r (some 51) (.mv (.t 0)),
.r (some 52) (.nn (.t 51)),
.r (some 53) (.fa 0 (.t 52)),
.r (some 54) (.l1 (.t 53)),
.r (some 55) (.mv (.t 0)),
.r (some 56) (.nn (.t 55)),
.r (some 57) (.fa 2 (.t 56)),
.r (some 58) (.l1 (.t 57)),
.r (some 59) (.len (.t 58)),
.r (some 60) (.bi .sub (.t 54) (.t 59)),
.r (some 61) (.bi .gtr (.t 50) (.t 60))] [0,1,2,61]) <|
 .cond (.t 61) (.reg false [.e (some 64) (.call 160 [(.t 0),(.t 2)]),
.r (some 2) (.mv (.t 64))] [0,1,2]) (.skip)) <|
 .seq (.seq (.reg true [.r (some 65) (.mv (.t 1)),
.r (some 66) (.mv (.t 0)),
.r (some 67) (.nn (.t 66)),
.r (some 68) (.fa 0 (.t 67)),
.r (some 69) (.l1 (.t 68)),
.r (some 70) (.mv (.t 0)),
.r (some 71) (.nn (.t 70)),
.r (some 72) (.fa 2 (.t 71)),
.r (some 73) (.l1 (.t 72)),
.r (some 74) (.len (.t 73)),
.r (some 75) (.bi .sub (.t 69) (.t 74)),
.r (some 76) (.bi .gtr (.t 65) (.t 75))] [2,76]) <|
 .cond (.t 76) (.seq (.reg false [.r (some 6) (.mv (.c (.slice none 0 0))),
.r (some 7) (.mv (.c (.int .i64 211)))] [6,7]) <|
 .ret) (.skip)) <|
 .seq (.reg false [.r (some 6) (.mv (.t 2)),
.r (some 7) (.mv (.c (.int .i64 0)))] [6,7]) <|
 .ret
theorem fit155:Fits Tryz.prog 155 3 (hOf Tryz.f155 ir155) ir155 [.t 6,.t 7] 78:=⟨Tryz.f155,_,rfl,rfl,rfl,by decide,by kernel_rfl,by kernel_rfl⟩
def ir156:IR:=.seq (.reg false [.e (some 3) (.bx 122 (.t 0)),
.e (some 5) (.bx 87 (.t 2))] [1,3,5]) <|
 .seq (.block 0 (.seq (.reg false [.r (some 8) (.l1 (.t 3)),
.e (some 10) (.bs 3 1 #[(.int .i64 0)] [(0,1,(.t 1))]),
.e (some 11) (.call 159 [(.t 8),(.t 10)]),
.r (some 12) (.no (.t 11)),
.r (some 7) (.mv (.t 12))] [1,3,5,7]) <|
 .cond (.t 7) (.seq (.reg false [.r (some 6) (.mv (.c (.int .i64 212)))] [6]) <|
 .ret) (.seq (.reg false [.r (some 14) (.ln 3 (.t 5)),
.e (some 15) (.call 158 [(.t 14)]),
.r (some 16) (.no (.t 15)),
.r (some 13) (.mv (.t 16))] [1,3,5,13]) <|
 .cond (.t 13) (.seq (.reg false [.r (some 6) (.mv (.c (.int .i64 1)))] [6]) <|
 .ret) (.seq (.reg false [.r (some 18) (.l1 (.t 3)),
.r (some 19) (.fa 2 (.t 5)),
.r (some 20) (.l1 (.t 19)),
.e (some 21) (.call 159 [(.t 18),(.t 20)]),
.r (some 22) (.no (.t 21)),
.r (some 17) (.mv (.t 22))] [1,3,5,17]) <|
 .cond (.t 17) (.seq (.reg false [.r (some 6) (.mv (.c (.int .i64 212)))] [6]) <|
 .ret) (.skip))))) <|
 .seq (.reg false [.r (some 23) (.fa 2 (.t 5)),
.r (some 24) (.l1 (.t 23)),
.e (some 25) (.call 37 [(.t 24)]),
.r (some 26) (.fa 2 (.t 5)),
.e none (.st 1 (.t 26) (.t 25))] [1,3,5]) <|
 .seq (.reg true [.r (some 27) (.l1 (.t 3)),
.r (some 28) (.nn (.t 27)),
.r (some 29) (.fa 2 (.t 28)),
.r (some 30) (.l1 (.t 29)),
.r (some 31) (.mv (.t 1)),
.r (some 32) (.ln 3 (.t 5)),
.r (some 33) (.ia 3 (.t 30) (.t 31)),
.e none (.st 3 (.t 33) (.t 32))] [1,3,5]) <|
 .seq (.seq (.reg false [.r (some 35) (.l1 (.t 3)),
.r (some 36) (.nn (.t 35)),
.r (some 37) (.fa 3 (.t 36)),
.r (some 38) (.l1 (.t 37)),
.r (some 39) (.bi .lss (.t 1) (.t 38))] [1,3,5,39]) <|
 .cond (.t 39) (.seq (.reg false [.r (some 40) (.l1 (.t 3)),
.r (some 41) (.nn (.t 40)),
.r (some 42) (.fa 4 (.t 41)),
.r (some 43) (.l1 (.t 42)),
.r (some 44) (.mv (.t 1)),
.e none (.raw ⟨none,(.call { callee:=(.builtin .delete),args:=#[(.tmp 43),(.tmp 44)],argTypes:=#[160,3]}),0, "gens.go:94",#[⟨3,.data⟩,⟨4,.data⟩],none⟩)] [1,3,5]) <|
 .seq (.reg false [.r (some 45) (.fa 2 (.t 5)),
.r (some 46) (.l1 (.t 45)),
.r (some 47) (.mf (.func 162) [] [(.t 3)]),
.e (some 48) (.call 29 [(.t 46),(.t 47)])] [1,3,48]) <|
 .cond (.t 48) (.reg false [.r (some 49) (.l1 (.t 3)),
.r (some 50) (.nn (.t 49)),
.r (some 51) (.fa 4 (.t 50)),
.r (some 52) (.l1 (.t 51)),
.r (some 53) (.mv (.t 1)),
.e none (.raw ⟨none,(.mapUpdate 160 (.tmp 52) (.tmp 53) (.const (.int .i64 1))),0, "gens.go:96",#[⟨3,.data⟩,⟨4,.data⟩,⟨0,.phase⟩,⟨1,.phase⟩,⟨2,.phase⟩,⟨3,.phase⟩,⟨4,.phase⟩],none⟩)] []) (.skip)) (.skip)) <|
 .seq (.reg false [.r (some 6) (.mv (.c (.int .i64 0)))] [6]) <|
 .ret
theorem fit156:Fits Tryz.prog 156 3 (hOf Tryz.f156 ir156) ir156 [.t 6] 54:=⟨Tryz.f156,_,rfl,rfl,rfl,by decide,by kernel_rfl,by kernel_rfl⟩
def ir157:IR:=.seq (.reg false [] [0]) <|
 .seq (.reg false [.r (some 4) (.nn (.t 0)),
.r (some 5) (.fa 2 (.t 4)),
.r (some 6) (.l1 (.t 5)),
.r (some 7) (.len (.t 6)),
.r (some 2) (.mv (.t 7))] [2]) <|
 .ret
theorem fit157:Fits Tryz.prog 157 1 (hOf Tryz.f157 ir157) ir157 [.t 2] 8:=⟨Tryz.f157,_,rfl,rfl,rfl,by decide,by kernel_rfl,by kernel_rfl⟩
def ir158:IR:=.seq (.reg false [.e (some 1) (.bx 87 (.t 0))] [1]) <|
 .seq (.reg false [.r (some 3) (.mv (.c (.int .i64 0)))] [1,3]) <|
 .seq (.seq (.reg false [.r (some 4) (.fa 0 (.t 1)),
.r (some 5) (.l1 (.t 4))] [1,3,5]) <|
 .block 0 (.seq (.reg false [.r (some 7) (.bi .eql (.t 5) (.c (.int .i64 1))),
.r (some 6) (.mv (.t 7))] [1,3,5,6]) <|
 .cond (.t 6) (.seq (.seq (.reg false [.r (some 8) (.fa 1 (.t 1)),
.r (some 9) (.l1 (.t 8)),
.r (some 10) (.bi .lss (.t 9) (.c (.int .i64 (-4611686018427387904)))),
.gr 10 false (some 12) (.fa 1 (.t 1)),
.gr 10 false (some 13) (.l1 (.t 12)),
.gr 10 false (some 14) (.bi .gtr (.t 13) (.c (.int .i64 4611686018427387903))),
.r (some 15) (.pk (.t 10) (.c (.bool true)) (.t 14))] [1,15]) <|
 .cond (.t 15) (.seq (.reg false [.r (some 2) (.mv (.c (.bool false)))] [2]) <|
 .ret) (.skip)) <|
 .seq (.reg false [.r (some 16) (.fa 2 (.t 1)),
.r (some 17) (.l1 (.t 16)),
.r (some 18) (.len (.t 17)),
.r (some 19) (.bi .eql (.t 18) (.c (.int .i64 0))),
.r (some 2) (.mv (.t 19))] [2]) <|
 .ret) (.seq (.reg false [.r (some 21) (.bi .eql (.t 5) (.c (.int .i64 2))),
.r (some 20) (.mv (.t 21))] [1,3,5,20]) <|
 .cond (.t 20) (.seq (.reg false [.r (some 22) (.fa 1 (.t 1)),
.r (some 23) (.l1 (.t 22)),
.r (some 24) (.bi .geq (.t 23) (.c (.int .i64 0))),
.gr 24 true (some 26) (.fa 2 (.t 1)),
.gr 24 true (some 27) (.l1 (.t 26)),
.gr 24 true (some 28) (.len (.t 27)),
.gr 24 true (some 29) (.bi .leq (.t 28) (.c (.int .i64 8))),
.r (some 30) (.pk (.t 24) (.t 29) (.c (.bool false))),
.r (some 2) (.mv (.t 30))] [2]) <|
 .ret) (.seq (.seq (.reg false [.r (some 32) (.bi .eql (.t 5) (.c (.int .i64 4))),
.r (some 31) (.mv (.t 32))] [1,3,5,31]) <|
 .cond (.t 31) (.skip) (.reg false [.r (some 33) (.bi .eql (.t 5) (.c (.int .i64 8))),
.r (some 31) (.mv (.t 33))] [1,3,5,31])) <|
 .cond (.t 31) (.seq (.reg false [.r (some 34) (.fa 1 (.t 1)),
.r (some 35) (.l1 (.t 34)),
.r (some 36) (.bi .geq (.t 35) (.c (.int .i64 0))),
.gr 36 true (some 38) (.fa 2 (.t 1)),
.gr 36 true (some 39) (.l1 (.t 38)),
.gr 36 true (some 40) (.len (.t 39)),
.gr 36 true (some 41) (.bi .eql (.t 40) (.c (.int .i64 0))),
.r (some 42) (.pk (.t 36) (.t 41) (.c (.bool false))),
.r (some 2) (.mv (.t 42))] [2]) <|
 .ret) (.seq (.reg false [.r (some 44) (.bi .eql (.t 5) (.c (.int .i64 3))),
.r (some 43) (.mv (.t 44))] [1,3,5,43]) <|
 .cond (.t 43) (.reg false [.r (some 3) (.mv (.c (.int .i64 2)))] [1,3]) (.seq (.reg false [.r (some 46) (.bi .eql (.t 5) (.c (.int .i64 5))),
.r (some 45) (.mv (.t 46))] [1,3,5,45]) <|
 .cond (.t 45) (.reg false [.r (some 3) (.mv (.c (.int .i64 1)))] [1,3]) (.seq (.seq (.reg false [.r (some 48) (.bi .eql (.t 5) (.c (.int .i64 6))),
.r (some 47) (.mv (.t 48))] [1,3,5,47]) <|
 .cond (.t 47) (.skip) (.reg false [.r (some 49) (.bi .eql (.t 5) (.c (.int .i64 7))),
.r (some 47) (.mv (.t 49))] [1,3,47])) <|
 .cond (.t 47) (.skip) (.seq (.reg false [.r (some 2) (.mv (.c (.bool false)))] [2]) <|
 .ret)))))))) <|
 .seq (.reg false [.r (some 50) (.fa 1 (.t 1)),
.r (some 51) (.l1 (.t 50)),
.r (some 52) (.bi .eql (.t 51) (.c (.int .i64 0))),
.gr 52 true (some 54) (.fa 2 (.t 1)),
.gr 52 true (some 55) (.l1 (.t 54)),
.gr 52 true (some 56) (.len (.t 55)),
.gr 52 true (some 57) (.mv (.t 3)),
.gr 52 true (some 58) (.bi .eql (.t 56) (.t 57)),
.r (some 59) (.pk (.t 52) (.t 58) (.c (.bool false))),
.r (some 2) (.mv (.t 59))] [2]) <|
 .ret
theorem fit158:Fits Tryz.prog 158 1 (hOf Tryz.f158 ir158) ir158 [.t 2] 60:=⟨Tryz.f158,_,rfl,rfl,rfl,by decide,by kernel_rfl,by kernel_rfl⟩
def ir159:IR:=.seq (.reg false [.e (some 2) (.bx 122 (.t 0))] [1,2]) <|
 .seq (.reg false [.r (some 6) (.mf (.func 163) [] [(.t 2)]),
.e (some 7) (.call 29 [(.t 1),(.t 6)]),
.r (some 8) (.no (.t 7)),
.r (some 4) (.mv (.t 8))] [4]) <|
 .ret
theorem fit159:Fits Tryz.prog 159 2 (hOf Tryz.f159 ir159) ir159 [.t 4] 9:=⟨Tryz.f159,_,rfl,rfl,rfl,by decide,by kernel_rfl,by kernel_rfl⟩
def ir160:IR:=.seq (.reg false [] [0,1]) <|
 .seq (.reg false [.r (some 8) (.nn (.t 0)),
.r (some 9) (.fa 5 (.t 8)),
.r (some 10) (.l1 (.t 9)),
.r (some 11) (.bi .add (.t 10) (.c (.int .i64 1))),
.r (some 12) (.nn (.t 0)),
.r (some 13) (.fa 5 (.t 12)),
.e none (.st 1 (.t 13) (.t 11))] [0,1]) <|
 .seq (.reg false [.r (some 14) (.mv (.t 0)),
.r (some 15) (.mv (.t 0)),
.e (some 16) (.call 164 [(.t 15)]),
.e (some 17) (.raw ⟨(some 17),(.makeMap 160 none),160, "gens.go:221",#[],none⟩),
.r (some 18) (.bd #[(.pointer none),(.slice none 0 0),(.map none),(.int .i64 0),(.map none),(.slice none 0 0)] [(0,1,(.t 14)),(1,2,(.t 16)),(4,1,(.t 17))]),
.e (some 19) (.bx 203 (.t 18)),
.r (some 5) (.mv (.t 19))] [0,1,5]) <|
 .seq (.reg false [.e (some 22) (.call 165 [(.t 5),(.t 1)]),
.r (some 6) (.mv (.t 22))] [0,5,6]) <|
 .seq (.reg false [.e (some 25) (.call 166 [(.t 5)]),
.r (some 26) (.nn (.t 0)),
.r (some 27) (.fa 2 (.t 26)),
.e none (.st 1 (.t 27) (.t 25))] [0,6]) <|
 .seq (.reg false [.r (some 30) (.nn (.t 0)),
.r (some 31) (.fa 2 (.t 30)),
.r (some 32) (.l1 (.t 31)),
.r (some 33) (.len (.t 32)),
.r (some 34) (.nn (.t 0)),
.r (some 35) (.fa 3 (.t 34)),
.e none (.st 1 (.t 35) (.t 33))] [0,6]) <|
 .seq (.reg false [.r (some 36) (.mv (.t 0)),
.r (some 37) (.nn (.t 36)),
.r (some 38) (.fa 4 (.t 37)),
.r (some 39) (.l1 (.t 38)),
.e none (.raw ⟨none,(.call { callee:=(.builtin .clear),args:=#[(.tmp 39)],argTypes:=#[160]}),0, "gens.go:225",#[⟨3,.data⟩],none⟩)] [6]) <|
 .seq (.reg false [.r (some 4) (.mv (.t 6))] [4]) <|
 .ret
theorem fit160:Fits Tryz.prog 160 2 (hOf Tryz.f160 ir160) ir160 [.t 4] 41:=⟨Tryz.f160,_,rfl,rfl,rfl,by decide,by kernel_rfl,by kernel_rfl⟩
def ir161L1:IR:=.seq (.reg false [.r (some 57) (.bi .lss (.t 56) (.t 55))] [0,5,6,9,39,40,41,54,55,56,57]) <|
 .seq (.cond (.t 57) (.skip) ((.exit 2))) <|
 .seq (.block 3 (.seq (.reg false [.r (some 59) (.ia 1 (.t 54) (.t 56)),
.r (some 60) (.l1 (.t 59)),
.r (some 10) (.mv (.t 56)),
.r (some 11) (.mv (.t 60))] [0,5,6,9,10,11,39,40,41,54,55,56]) <|
 .seq (.reg false [.r (some 63) (.nn (.t 0)),
.r (some 64) (.fa 3 (.t 63)),
.r (some 65) (.l1 (.t 64)),
.r (some 66) (.bi .geq (.t 11) (.t 65))] [0,5,6,9,10,11,39,40,41,54,55,56,66]) <|
 .cond (.t 66) (.dr (.r 0 none (some 67) (.mv (.t 9)) <|
   .r 1 none (some 68) (.nn (.t 67)) <|
   .r 2 none (some 69) (.fa 2 (.t 68)) <|
   .r 3 none (some 70) (.l1 (.t 69)) <|
   .r 4 none (some 71) (.mv (.t 10)) <|
   .r 5 none (some 72) (.mv (.t 5)) <|
   .r 6 none (some 73) (.mv (.t 11)) <|
   .e 7 none (some 74) (.call 169 [(.t 72),(.t 73)]) [3] <|
   .r 8 none (some 75) (.ia 1 (.t 70) (.t 71)) <|
   .e 9 none none (.st 1 (.t 75) (.t 74)) [] <|
   .nil) [0,5,6,9,39,40,41,54,55,56]) (.skip))) <|
 .reg false [.r (some 76) (.bi .add (.t 56) (.c (.int .i64 1))),
.r (some 56) (.mv (.t 76))] [0,5,6,9,39,40,41,54,55,56]
def ir161L2:IR:=.seq (.reg false [.r (some 42) (.bi .lss (.t 41) (.t 40))] [0,5,6,39,40,41,42]) <|
 .seq (.cond (.t 42) (.skip) ((.exit 0))) <|
 .seq (.block 1 (.seq (.reg false [.r (some 43) (.ia 1 (.t 39) (.t 41)),
.r (some 44) (.l1 (.t 43)),
.r (some 8) (.mv (.t 44))] [0,5,6,8,39,40,41]) <|
 .seq (.reg false [.r (some 46) (.nn (.t 0)),
.r (some 47) (.fa 2 (.t 46)),
.r (some 48) (.l1 (.t 47)),
.r (some 50) (.ia 3 (.t 48) (.t 8)),
.r (some 9) (.mv (.t 50))] [0,5,6,9,39,40,41]) <|
 .seq (.reg false [.r (some 52) (.nn (.t 9)),
.r (some 53) (.fa 2 (.t 52)),
.r (some 54) (.l1 (.t 53)),
.r (some 55) (.len (.t 54)),
.r (some 56) (.mv (.c (.int .i64 0)))] [0,5,6,9,39,40,41,54,55,56]) <|
 .block 2 (.loop ir161L1))) <|
 .reg false [.r (some 77) (.bi .add (.t 41) (.c (.int .i64 1))),
.r (some 41) (.mv (.t 77))] [0,5,6,39,40,41]
def ir161L3:IR:=.seq (.reg false [.e (some 84) (.raw ⟨(some 84),(.next (.tmp 83) false),0, "gens.go:206",#[],none⟩),
.r (some 85) (.ex 0 (.t 84))] [0,5,6,83,85]) <|
 .seq (.cond (.t 85) (.skip) ((.exit 4))) <|
 .block 5 (.seq (.reg false [.e (some 86) (.raw ⟨(some 86),(.entry (.tmp 83)),0, "gens.go:206",#[],none⟩),
.r (some 87) (.ex 0 (.t 86)),
.r (some 12) (.mv (.t 87))] [0,5,6,12,83]) <|
 .seq (.reg false [.r (some 90) (.nn (.t 0)),
.r (some 91) (.fa 3 (.t 90)),
.r (some 92) (.l1 (.t 91)),
.r (some 93) (.bi .lss (.t 12) (.t 92))] [0,5,6,12,83,93]) <|
 .cond (.t 93) (.reg false [.r (some 95) (.nn (.t 0)),
.r (some 96) (.fa 2 (.t 95)),
.r (some 97) (.l1 (.t 96)),
.r (some 99) (.ia 3 (.t 97) (.t 12)),
.r (some 100) (.fa 2 (.t 99)),
.r (some 101) (.l1 (.t 100)),
.r (some 103) (.ia 1 (.t 101) (.c (.int .i64 0))),
.e none (.st 1 (.t 103) (.t 12))] [0,5,6,83]) (.skip))
def ir161:IR:=.seq (.reg false [] [0,1]) <|
 .seq (.reg false [.r (some 15) (.nn (.t 0)),
.r (some 16) (.fa 5 (.t 15)),
.r (some 17) (.l1 (.t 16)),
.r (some 18) (.bi .add (.t 17) (.c (.int .i64 1))),
.r (some 19) (.nn (.t 0)),
.r (some 20) (.fa 5 (.t 19)),
.e none (.st 1 (.t 20) (.t 18))] [0,1]) <|
 .seq (.dr (.r 0 none (some 21) (.mv (.t 0)) <|
   .r 1 none (some 22) (.mv (.t 0)) <|
   .r 3 none (some 24) (.mv (.t 0)) <|
   .r 4 none (some 25) (.nn (.t 24)) <|
   .r 5 none (some 26) (.fa 3 (.t 25)) <|
   .r 6 none (some 27) (.l1 (.t 26)) <|
   .e2 2 (some 23) (.call 164 [(.t 22)]) [6] (.e 7 none (some 28) (.raw ⟨(some 28),(.makeMap 160 none),160, "gens.go:196",#[],none⟩) [6] <|
   .r 8 none (some 29) (.bd #[(.pointer none),(.slice none 0 0),(.map none),(.int .i64 0),(.map none),(.slice none 0 0)] [(0,1,(.t 21)),(1,2,(.t 23)),(3,1,(.t 27)),(4,1,(.t 28))]) <|
   .e 9 none (some 30) (.bx 203 (.t 29)) [] <|
   .r 10 none (some 5) (.mv (.t 30)) <|
   .nil) 7 (some 28) (.raw ⟨(some 28),(.makeMap 160 none),160, "gens.go:196",#[],none⟩) [6]
   (.e 2 none (some 23) (.call 164 [(.t 22)]) [6] <|
   .r 8 none (some 29) (.bd #[(.pointer none),(.slice none 0 0),(.map none),(.int .i64 0),(.map none),(.slice none 0 0)] [(0,1,(.t 21)),(1,2,(.t 23)),(3,1,(.t 27)),(4,1,(.t 28))]) <|
   .e 9 none (some 30) (.bx 203 (.t 29)) [] <|
   .r 10 none (some 5) (.mv (.t 30)) <|
   .nil)) [0,1,5]) <|
 .seq (.reg false [.e (some 33) (.call 165 [(.t 5),(.t 1)]),
.r (some 6) (.mv (.t 33))] [0,5,6]) <|
 .seq (.seq (.reg false [.r (some 35) (.nn (.t 0)),
.r (some 36) (.fa 4 (.t 35)),
.r (some 37) (.l1 (.t 36)),
.e (some 38) (.call 168 [(.t 37)]),
.e (some 39) (.call 167 [(.t 38)]),
.r (some 40) (.len (.t 39)),
.r (some 41) (.mv (.c (.int .i64 0)))] [0,5,6,39,40,41]) <|
 .block 0 (.loop ir161L2)) <|
 .seq (.seq (.reg false [.r (some 78) (.mv (.t 5)),
.r (some 79) (.nn (.t 78)),
.r (some 80) (.fa 1 (.t 79)),
.r (some 81) (.fa 1 (.t 80)),
.r (some 82) (.l1 (.t 81)),
.e (some 83) (.raw ⟨(some 83),(.range 160 (.tmp 82)),0, "gens.go:206",#[⟨4,.data⟩],none⟩)] [0,5,6,83]) <|
 .block 4 (.loop ir161L3)) <|
 .seq (.reg false [.e (some 105) (.call 166 [(.t 5)]),
.r (some 13) (.mv (.t 105))] [0,6,13]) <|
 .seq (.reg true [.r (some 106) (.mv (.t 0)),
.r (some 107) (.mv (.t 0)),
.r (some 108) (.nn (.t 107)),
.r (some 109) (.fa 2 (.t 108)),
.r (some 110) (.l1 (.t 109)),
.r (some 111) (.mv (.t 0)),
.r (some 112) (.nn (.t 111)),
.r (some 113) (.fa 3 (.t 112)),
.r (some 114) (.l1 (.t 113)),
.r (some 115) (.mv (.t 0)),
.r (some 116) (.nn (.t 115)),
.r (some 117) (.fa 3 (.t 116)),
.r (some 118) (.l1 (.t 117)),
.r (some 119) (.sl 3 (.t 110) none (some (.t 114)) (some (.t 118))),
.r (some 120) (.mv (.t 13)),
.e (some 121) (.ap 87 3 40 #[(.int .i64 0),(.int .i64 0),(.slice none 0 0)] (.t 119) (.t 120)),
.r (some 122) (.nn (.t 106)),
.r (some 123) (.fa 2 (.t 122)),
.e none (.st 1 (.t 123) (.t 121))] [0,6]) <|
 .seq (.reg false [.r (some 126) (.nn (.t 0)),
.r (some 127) (.fa 2 (.t 126)),
.r (some 128) (.l1 (.t 127)),
.r (some 129) (.len (.t 128)),
.r (some 130) (.nn (.t 0)),
.r (some 131) (.fa 3 (.t 130)),
.e none (.st 1 (.t 131) (.t 129))] [0,6]) <|
 .seq (.reg false [.r (some 132) (.mv (.t 0)),
.r (some 133) (.nn (.t 132)),
.r (some 134) (.fa 4 (.t 133)),
.r (some 135) (.l1 (.t 134)),
.e none (.raw ⟨none,(.call { callee:=(.builtin .clear),args:=#[(.tmp 135)],argTypes:=#[160]}),0, "gens.go:214",#[⟨3,.data⟩],none⟩)] [6]) <|
 .seq (.reg false [.r (some 4) (.mv (.t 6))] [4]) <|
 .ret
theorem fit161:Fits Tryz.prog 161 2 (hOf Tryz.f161 ir161) ir161 [.t 4] 137:=⟨Tryz.f161,_,rfl,rfl,rfl,by decide,by kernel_rfl,by kernel_rfl⟩
def ir162:IR:=.seq (.reg false [] [0,1]) <|
 .seq (.reg false [.r (some 5) (.l1 (.t 1)),
.r (some 6) (.nn (.t 5)),
.r (some 7) (.fa 3 (.t 6)),
.r (some 8) (.l1 (.t 7)),
.r (some 9) (.bi .geq (.t 0) (.t 8)),
.r (some 3) (.mv (.t 9))] [3]) <|
 .ret
theorem fit162:Fits Tryz.prog 162 2 (hOf Tryz.f162 ir162) ir162 [.t 3] 10:=⟨Tryz.f162,_,rfl,rfl,rfl,by decide,by kernel_rfl,by kernel_rfl⟩
def ir163:IR:=.seq (.reg false [] [0,1]) <|
 .seq (.reg false [.r (some 5) (.bi .lss (.t 0) (.c (.int .i64 0))),
.gr 5 false (some 7) (.mv (.t 0)),
.gr 5 false (some 8) (.l1 (.t 1)),
.gr 5 false (some 9) (.nn (.t 8)),
.gr 5 false (some 10) (.fa 2 (.t 9)),
.gr 5 false (some 11) (.l1 (.t 10)),
.gr 5 false (some 12) (.len (.t 11)),
.gr 5 false (some 13) (.bi .geq (.t 7) (.t 12)),
.r (some 14) (.pk (.t 5) (.c (.bool true)) (.t 13)),
.r (some 3) (.mv (.t 14))] [3]) <|
 .ret
theorem fit163:Fits Tryz.prog 163 2 (hOf Tryz.f163 ir163) ir163 [.t 3] 15:=⟨Tryz.f163,_,rfl,rfl,rfl,by decide,by kernel_rfl,by kernel_rfl⟩
def ir164L1:IR:=.seq (.reg false [.r (some 18) (.bi .lss (.t 17) (.t 16))] [0,2,3,16,17,18]) <|
 .seq (.cond (.t 18) (.skip) ((.exit 0))) <|
 .seq (.block 1 (.seq (.reg false [.r (some 4) (.mv (.t 17))] [0,2,3,4,16,17]) <|
 .reg false [.r (some 20) (.fa 0 (.t 3)),
.r (some 21) (.l1 (.t 20)),
.r (some 23) (.ia 1 (.t 21) (.t 4)),
.e none (.st 1 (.t 23) (.c (.int .i64 (-1))))] [0,2,3,16,17])) <|
 .reg false [.r (some 24) (.bi .add (.t 17) (.c (.int .i64 1))),
.r (some 17) (.mv (.t 24))] [0,2,3,16,17]
def ir164L2:IR:=.seq (.reg false [.r (some 31) (.bi .lss (.t 30) (.t 29))] [0,2,3,29,30,31]) <|
 .seq (.cond (.t 31) (.skip) ((.exit 2))) <|
 .seq (.block 3 (.seq (.reg false [.r (some 5) (.mv (.t 30))] [0,2,3,5,29,30]) <|
 .reg false [.r (some 35) (.ln 2 (.t 3)),
.e (some 36) (.call 170 [(.t 0),(.t 5),(.t 35)])] [0,2,3,29,30])) <|
 .reg false [.r (some 37) (.bi .add (.t 30) (.c (.int .i64 1))),
.r (some 30) (.mv (.t 37))] [0,2,3,29,30]
def ir164:IR:=.seq (.reg false [.e (some 2) (.al 200 (.agg #[(.slice none 0 0),(.map none)]))] [0,2]) <|
 .seq (.reg false [.r (some 6) (.mv (.t 0)),
.r (some 7) (.nn (.t 6)),
.r (some 8) (.fa 2 (.t 7)),
.r (some 9) (.l1 (.t 8)),
.r (some 10) (.len (.t 9)),
.e (some 11) (.ms 3 1 8 #[(.int .i64 0)] (.t 10) (.t 10)),
.e (some 12) (.raw ⟨(some 12),(.makeMap 160 none),160, "gens.go:110",#[],none⟩),
.r (some 13) (.bd #[(.slice none 0 0),(.map none)] [(0,1,(.t 11)),(1,1,(.t 12))]),
.e (some 3) (.al 200 (.agg #[(.slice none 0 0),(.map none)])),
.e none (.st 2 (.t 3) (.t 13))] [0,2,3]) <|
 .seq (.seq (.reg false [.r (some 14) (.fa 0 (.t 3)),
.r (some 15) (.l1 (.t 14)),
.r (some 16) (.len (.t 15)),
.r (some 17) (.mv (.c (.int .i64 0)))] [0,2,3,16,17]) <|
 .block 0 (.loop ir164L1)) <|
 .seq (.seq (.reg false [.r (some 26) (.nn (.t 0)),
.r (some 27) (.fa 2 (.t 26)),
.r (some 28) (.l1 (.t 27)),
.r (some 29) (.len (.t 28)),
.r (some 30) (.mv (.c (.int .i64 0)))] [0,2,3,29,30]) <|
 .block 2 (.loop ir164L2)) <|
 .seq (.reg false [.r (some 38) (.ln 2 (.t 3)),
.e none (.st 2 (.t 2) (.t 38))] [2]) <|
 .ret
theorem fit164:Fits Tryz.prog 164 1 (hOf Tryz.f164 ir164) ir164 [.n 2 2] 39:=⟨Tryz.f164,_,rfl,rfl,rfl,by decide,by kernel_rfl,by kernel_rfl⟩
def ir165L1:IR:=.seq (.reg false [.r (some 11) (.bi .lss (.t 10) (.t 9))] [0,5,8,9,10,11]) <|
 .seq (.cond (.t 11) (.skip) ((.exit 0))) <|
 .seq (.block 1 (.seq (.reg false [.r (some 12) (.ia 1 (.t 8) (.t 10)),
.r (some 13) (.l1 (.t 12)),
.r (some 7) (.mv (.t 13))] [0,5,7,8,9,10]) <|
 .reg false [.e (some 17) (.call 169 [(.t 0),(.t 7)]),
.e (some 18) (.bs 3 1 #[(.int .i64 0)] [(0,1,(.t 17))]),
.e (some 19) (.ap 3 1 8 #[(.int .i64 0)] (.t 5) (.t 18)),
.r (some 5) (.mv (.t 19))] [0,5,8,9,10])) <|
 .reg false [.r (some 20) (.bi .add (.t 10) (.c (.int .i64 1))),
.r (some 10) (.mv (.t 20))] [0,5,8,9,10]
def ir165:IR:=.seq (.reg false [] [0,1]) <|
 .seq (.reg false [.r (some 5) (.mv (.c (.slice none 0 0)))] [0,1,5]) <|
 .seq (.seq (.reg false [.r (some 8) (.mv (.t 1)),
.r (some 9) (.len (.t 8)),
.r (some 10) (.mv (.c (.int .i64 0)))] [0,5,8,9,10]) <|
 .block 0 (.loop ir165L1)) <|
 .seq (.reg false [.r (some 4) (.mv (.t 5))] [4]) <|
 .ret
theorem fit165:Fits Tryz.prog 165 2 (hOf Tryz.f165 ir165) ir165 [.t 4] 22:=⟨Tryz.f165,_,rfl,rfl,rfl,by decide,by kernel_rfl,by kernel_rfl⟩
def ir166L1:IR:=.seq (.seq (.reg false [.r (some 8) (.nn (.t 0)),
.r (some 9) (.fa 5 (.t 8)),
.r (some 10) (.l1 (.t 9)),
.r (some 11) (.len (.t 10)),
.r (some 12) (.bi .lss (.t 4) (.t 11))] [0,3,4,12]) <|
 .cond (.t 12) (.skip) ((.exit 0))) <|
 .seq (.block 1 (.seq (.dr (.r 0 none (some 15) (.mv (.t 0)) <|
   .r 1 none (some 16) (.nn (.t 15)) <|
   .r 2 none (some 17) (.fa 0 (.t 16)) <|
   .r 3 none (some 18) (.l1 (.t 17)) <|
   .r 4 none (some 19) (.nn (.t 18)) <|
   .r 5 none (some 20) (.fa 2 (.t 19)) <|
   .r 6 none (some 21) (.l1 (.t 20)) <|
   .r 7 none (some 22) (.mv (.t 0)) <|
   .r 8 none (some 23) (.nn (.t 22)) <|
   .r 9 none (some 24) (.fa 5 (.t 23)) <|
   .r 10 none (some 25) (.l1 (.t 24)) <|
   .r 11 none (some 26) (.mv (.t 4)) <|
   .r 12 none (some 27) (.ia 1 (.t 25) (.t 26)) <|
   .r 13 none (some 28) (.l1 (.t 27)) <|
   .r 14 none (some 29) (.ia 3 (.t 21) (.t 28)) <|
   .r 15 none (some 30) (.ln 3 (.t 29)) <|
   .e 16 none (some 5) (.al 87 (.agg #[(.int .i64 0),(.int .i64 0),(.slice none 0 0)])) [3,6,10,13,15] <|
   .e 17 none none (.st 3 (.t 5) (.t 30)) [] <|
   .nil) [0,3,4,5]) <|
 .seq (.reg false [.r (some 32) (.fa 2 (.t 5)),
.r (some 33) (.l1 (.t 32)),
.e (some 34) (.call 165 [(.t 0),(.t 33)]),
.r (some 35) (.fa 2 (.t 5)),
.e none (.st 1 (.t 35) (.t 34))] [0,3,4,5]) <|
 .reg false [.r (some 37) (.ln 3 (.t 5)),
.e (some 38) (.bs 87 1 #[(.int .i64 0),(.int .i64 0),(.slice none 0 0)] [(0,3,(.t 37))]),
.e (some 39) (.ap 87 3 40 #[(.int .i64 0),(.int .i64 0),(.slice none 0 0)] (.t 3) (.t 38)),
.r (some 3) (.mv (.t 39))] [0,3,4])) <|
 .reg false [.r (some 14) (.bi .add (.t 4) (.c (.int .i64 1))),
.r (some 4) (.mv (.t 14))] [0,3,4]
def ir166:IR:=.seq (.reg false [] [0]) <|
 .seq (.reg false [.r (some 3) (.mv (.c (.slice none 0 0)))] [0,3]) <|
 .seq (.seq (.reg false [.r (some 4) (.mv (.c (.int .i64 0)))] [0,3,4]) <|
 .block 0 (.loop ir166L1)) <|
 .seq (.reg false [.r (some 2) (.mv (.t 3))] [2]) <|
 .ret
theorem fit166:Fits Tryz.prog 166 1 (hOf Tryz.f166 ir166) ir166 [.t 2] 41:=⟨Tryz.f166,_,rfl,rfl,rfl,by decide,by kernel_rfl,by kernel_rfl⟩
def ir169:IR:=.seq (.reg false [] [0,1]) <|
 .seq (.reg false [.r (some 9) (.nn (.t 0)),
.r (some 10) (.fa 1 (.t 9)),
.r (some 11) (.fa 0 (.t 10)),
.r (some 12) (.l1 (.t 11)),
.r (some 14) (.ia 1 (.t 12) (.t 1)),
.r (some 15) (.l1 (.t 14)),
.r (some 5) (.mv (.t 15))] [0,5]) <|
 .seq (.seq (.reg false [.r (some 18) (.nn (.t 0)),
.r (some 19) (.fa 3 (.t 18)),
.r (some 20) (.l1 (.t 19)),
.r (some 21) (.bi .lss (.t 5) (.t 20))] [0,5,21]) <|
 .cond (.t 21) (.seq (.reg false [.r (some 4) (.mv (.t 5))] [4]) <|
 .ret) (.skip)) <|
 .seq (.reg false [.r (some 24) (.mv (.t 0)),
.r (some 25) (.nn (.t 24)),
.r (some 26) (.fa 4 (.t 25)),
.r (some 27) (.l1 (.t 26)),
.r (some 28) (.mv (.t 5)),
.e (some 29) (.raw ⟨(some 29),(.lookup 160 (.tmp 27) (.tmp 28) true),157, "gens.go:164",#[⟨3,.data⟩,⟨4,.data⟩],none⟩),
.r (some 23) (.mv (.t 29)),
.r (some 30) (.ex 0 (.t 23)),
.r (some 31) (.ex 1 (.t 23)),
.r (some 6) (.mv (.t 30)),
.r (some 7) (.mv (.t 31))] [0,5,6,7]) <|
 .seq (.seq (.reg false [.r (some 33) (.no (.t 7))] [0,5,6,33]) <|
 .cond (.t 33) (.seq (.reg true [.r (some 34) (.mv (.t 0)),
.r (some 35) (.nn (.t 34)),
.r (some 36) (.fa 3 (.t 35)),
.r (some 37) (.l1 (.t 36)),
.r (some 38) (.mv (.t 0)),
.r (some 39) (.nn (.t 38)),
.r (some 40) (.fa 5 (.t 39)),
.r (some 41) (.l1 (.t 40)),
.r (some 42) (.len (.t 41)),
.r (some 43) (.bi .add (.t 37) (.t 42)),
.r (some 6) (.mv (.t 43))] [0,5,6]) <|
 .seq (.reg false [.r (some 44) (.mv (.t 0)),
.r (some 45) (.nn (.t 44)),
.r (some 46) (.fa 4 (.t 45)),
.r (some 47) (.l1 (.t 46)),
.r (some 48) (.mv (.t 5)),
.r (some 49) (.mv (.t 6)),
.e none (.raw ⟨none,(.mapUpdate 160 (.tmp 47) (.tmp 48) (.tmp 49)),0, "gens.go:167",#[⟨3,.data⟩,⟨4,.data⟩,⟨5,.data⟩,⟨0,.phase⟩,⟨1,.phase⟩,⟨2,.phase⟩,⟨3,.phase⟩,⟨4,.phase⟩,⟨5,.phase⟩],none⟩)] [0,5,6]) <|
 .reg false [.r (some 52) (.nn (.t 0)),
.r (some 53) (.fa 5 (.t 52)),
.r (some 54) (.l1 (.t 53)),
.e (some 56) (.bs 3 1 #[(.int .i64 0)] [(0,1,(.t 5))]),
.e (some 57) (.ap 3 1 8 #[(.int .i64 0)] (.t 54) (.t 56)),
.r (some 58) (.nn (.t 0)),
.r (some 59) (.fa 5 (.t 58)),
.e none (.st 1 (.t 59) (.t 57))] [6]) (.skip)) <|
 .seq (.reg false [.r (some 4) (.mv (.t 6))] [4]) <|
 .ret
theorem fit169:Fits Tryz.prog 169 2 (hOf Tryz.f169 ir169) ir169 [.t 4] 61:=⟨Tryz.f169,_,rfl,rfl,rfl,by decide,by kernel_rfl,by kernel_rfl⟩
def ir170L1:IR:=.seq (.seq (.reg false [.r (some 13) (.fa 0 (.t 5)),
.r (some 14) (.l1 (.t 13)),
.r (some 16) (.ia 1 (.t 14) (.t 1)),
.r (some 17) (.l1 (.t 16)),
.r (some 18) (.bi .lss (.t 17) (.c (.int .i64 0)))] [0,1,5,6,7,18]) <|
 .cond (.t 18) (.skip) ((.exit 0))) <|
 .block 1 (.seq (.seq (.reg false [.r (some 20) (.nn (.t 0)),
.r (some 21) (.fa 2 (.t 20)),
.r (some 22) (.l1 (.t 21)),
.r (some 24) (.ia 3 (.t 22) (.t 1)),
.r (some 25) (.fa 0 (.t 24)),
.r (some 26) (.l1 (.t 25)),
.r (some 27) (.bi .neq (.t 26) (.c (.int .i64 5)))] [0,1,5,6,7,27]) <|
 .cond (.t 27) (.seq (.reg false [.r (some 28) (.fa 0 (.t 5)),
.r (some 29) (.l1 (.t 28)),
.r (some 32) (.ia 1 (.t 29) (.t 1)),
.e none (.st 1 (.t 32) (.t 1))] [1,5,7]) <|
 (.exit 0)) (.skip)) <|
 .seq (.seq (.reg false [.r (some 34) (.mv (.t 6)),
.r (some 35) (.mv (.t 1)),
.e (some 36) (.raw ⟨(some 36),(.lookup 160 (.tmp 34) (.tmp 35) true),157, "gens.go:129",#[⟨0,.data⟩,⟨1,.data⟩],none⟩),
.r (some 33) (.mv (.t 36)),
.r (some 37) (.ex 0 (.t 33)),
.r (some 38) (.ex 1 (.t 33)),
.r (some 8) (.mv (.t 37)),
.r (some 9) (.mv (.t 38))] [0,1,5,6,7,8,9]) <|
 .seq (.reg false [.r (some 39) (.mv (.t 9))] [0,1,5,6,7,8,39]) <|
 .cond (.t 39) (.seq (.reg false [.r (some 43) (.sl 1 (.t 7) (some (.t 8)) none none),
.e (some 44) (.call 174 [(.t 0),(.t 43)]),
.r (some 1) (.mv (.t 44))] [1,5,7]) <|
 .seq (.reg false [.r (some 45) (.fa 1 (.t 5)),
.r (some 46) (.l1 (.t 45)),
.r (some 47) (.mv (.t 1)),
.e none (.raw ⟨none,(.mapUpdate 160 (.tmp 46) (.tmp 47) (.const (.int .i64 1))),0, "gens.go:131",#[⟨1,.data⟩,⟨2,.data⟩,⟨0,.phase⟩,⟨1,.phase⟩,⟨2,.phase⟩],none⟩)] [1,5,7]) <|
 .seq (.reg false [.r (some 48) (.fa 0 (.t 5)),
.r (some 49) (.l1 (.t 48)),
.r (some 52) (.ia 1 (.t 49) (.t 1)),
.e none (.st 1 (.t 52) (.t 1))] [1,5,7]) <|
 (.exit 0)) (.skip)) <|
 .seq (.reg false [.r (some 53) (.mv (.t 6)),
.r (some 54) (.mv (.t 1)),
.r (some 55) (.mv (.t 7)),
.r (some 56) (.len (.t 55)),
.e none (.raw ⟨none,(.mapUpdate 160 (.tmp 53) (.tmp 54) (.tmp 56)),0, "gens.go:135",#[⟨0,.data⟩,⟨1,.data⟩,⟨3,.data⟩,⟨0,.phase⟩,⟨1,.phase⟩,⟨2,.phase⟩,⟨3,.phase⟩],none⟩)] [0,1,5,6,7]) <|
 .seq (.reg false [.e (some 59) (.bs 3 1 #[(.int .i64 0)] [(0,1,(.t 1))]),
.e (some 60) (.ap 3 1 8 #[(.int .i64 0)] (.t 7) (.t 59)),
.r (some 7) (.mv (.t 60))] [0,1,5,6,7]) <|
 .reg false [.r (some 62) (.nn (.t 0)),
.r (some 63) (.fa 2 (.t 62)),
.r (some 64) (.l1 (.t 63)),
.r (some 66) (.ia 3 (.t 64) (.t 1)),
.r (some 67) (.fa 2 (.t 66)),
.r (some 68) (.l1 (.t 67)),
.r (some 69) (.ia 1 (.t 68) (.c (.int .i64 0))),
.r (some 70) (.l1 (.t 69)),
.r (some 1) (.mv (.t 70))] [0,1,5,6,7])
def ir170L2:IR:=.seq (.reg false [.r (some 74) (.bi .lss (.t 73) (.t 72))] [1,5,71,72,73,74]) <|
 .seq (.cond (.t 74) (.skip) ((.exit 2))) <|
 .seq (.block 3 (.seq (.reg false [.r (some 75) (.ia 1 (.t 71) (.t 73)),
.r (some 76) (.l1 (.t 75)),
.r (some 11) (.mv (.t 76))] [1,5,11,71,72,73]) <|
 .reg true [.r (some 77) (.fa 0 (.t 5)),
.r (some 78) (.l1 (.t 77)),
.r (some 79) (.mv (.t 11)),
.r (some 80) (.fa 0 (.t 5)),
.r (some 81) (.l1 (.t 80)),
.r (some 82) (.mv (.t 1)),
.r (some 83) (.ia 1 (.t 81) (.t 82)),
.r (some 84) (.l1 (.t 83)),
.r (some 85) (.ia 1 (.t 78) (.t 79)),
.e none (.st 1 (.t 85) (.t 84))] [1,5,71,72,73])) <|
 .reg false [.r (some 86) (.bi .add (.t 73) (.c (.int .i64 1))),
.r (some 73) (.mv (.t 86))] [1,5,71,72,73]
def ir170:IR:=.seq (.reg false [.e (some 5) (.bx 200 (.t 2))] [0,1,5]) <|
 .seq (.reg false [.e (some 12) (.raw ⟨(some 12),(.makeMap 160 none),160, "gens.go:122",#[],none⟩),
.r (some 6) (.mv (.t 12))] [0,1,5,6]) <|
 .seq (.reg false [.r (some 7) (.mv (.c (.slice none 0 0)))] [0,1,5,6,7]) <|
 .seq (.block 0 (.loop ir170L1)) <|
 .seq (.reg false [.r (some 71) (.mv (.t 7)),
.r (some 72) (.len (.t 71)),
.r (some 73) (.mv (.c (.int .i64 0)))] [1,5,71,72,73]) <|
 .block 2 (.loop ir170L2)
theorem fit170:Fits Tryz.prog 170 3 (hOf Tryz.f170 ir170) ir170 [] 87:=⟨Tryz.f170,_,rfl,rfl,rfl,by decide,by kernel_rfl,by kernel_rfl⟩
def ir174:IR:=.seq (.reg false [] [1]) <|
 .seq (.reg false [.e (some 6) (.call 178 [(.t 1)]),
.r (some 4) (.mv (.t 6))] [4]) <|
 .ret
theorem fit174:Fits Tryz.prog 174 2 (hOf Tryz.f174 ir174) ir174 [.t 4] 7:=⟨Tryz.f174,_,rfl,rfl,rfl,by decide,by kernel_rfl,by kernel_rfl⟩
def ir197:IR:=.seq (.reg false [.e (some 3) (.bx 87 (.t 1))] [0,3]) <|
 .seq (.block 0 (.seq (.reg false [.r (some 7) (.ln 3 (.t 3)),
.e (some 8) (.call 204 [(.t 7)]),
.r (some 9) (.no (.t 8)),
.r (some 6) (.mv (.t 9))] [0,3,6]) <|
 .cond (.t 6) (.seq (.reg false [.r (some 4) (.mv (.c (.int .i64 0))),
.r (some 5) (.mv (.c (.int .i64 1)))] [4,5]) <|
 .ret) (.seq (.reg false [.r (some 12) (.fa 2 (.t 3)),
.r (some 13) (.l1 (.t 12)),
.e (some 14) (.call 205 [(.t 0),(.t 13)]),
.r (some 15) (.no (.t 14)),
.r (some 10) (.mv (.t 15))] [0,3,10]) <|
 .cond (.t 10) (.seq (.reg false [.r (some 4) (.mv (.c (.int .i64 0))),
.r (some 5) (.mv (.c (.int .i64 202)))] [4,5]) <|
 .ret) (.seq (.reg true [.r (some 17) (.mv (.t 0)),
.r (some 18) (.nn (.t 17)),
.r (some 19) (.fa 1 (.t 18)),
.r (some 20) (.l1 (.t 19)),
.r (some 21) (.len (.t 20)),
.r (some 22) (.mv (.t 0)),
.r (some 23) (.nn (.t 22)),
.r (some 24) (.fa 0 (.t 23)),
.r (some 25) (.l1 (.t 24)),
.r (some 26) (.bi .eql (.t 21) (.t 25)),
.r (some 16) (.mv (.t 26))] [0,3,16]) <|
 .cond (.t 16) (.seq (.reg false [.r (some 4) (.mv (.c (.int .i64 0))),
.r (some 5) (.mv (.c (.int .i64 201)))] [4,5]) <|
 .ret) (.skip))))) <|
 .seq (.dr (.r 0 none (some 27) (.mv (.t 0)) <|
   .r 1 none (some 28) (.mv (.t 0)) <|
   .r 2 none (some 29) (.nn (.t 28)) <|
   .r 3 none (some 30) (.fa 1 (.t 29)) <|
   .r 4 none (some 31) (.l1 (.t 30)) <|
   .r 5 none (some 32) (.ln 3 (.t 3)) <|
   .e 6 none (some 33) (.call 206 [(.t 32)]) [4] <|
   .e 7 none (some 34) (.bs 235 1 #[(.int .i64 0),(.int .i64 0),(.slice none 0 0)] [(0,3,(.t 33))]) [4] <|
   .e 8 none (some 35) (.ap 235 3 40 #[(.int .i64 0),(.int .i64 0),(.slice none 0 0)] (.t 31) (.t 34)) [] <|
   .r 9 none (some 36) (.nn (.t 27)) <|
   .r 10 none (some 37) (.fa 1 (.t 36)) <|
   .e 11 none none (.st 1 (.t 37) (.t 35)) [] <|
   .nil) [0]) <|
 .seq (.reg false [.r (some 39) (.nn (.t 0)),
.r (some 40) (.fa 1 (.t 39)),
.r (some 41) (.l1 (.t 40)),
.r (some 42) (.len (.t 41)),
.r (some 43) (.bi .sub (.t 42) (.c (.int .i64 1))),
.r (some 4) (.mv (.t 43)),
.r (some 5) (.mv (.c (.int .i64 0)))] [4,5]) <|
 .ret
theorem fit197:Fits Tryz.prog 197 2 (hOf Tryz.f197 ir197) ir197 [.t 4,.t 5] 44:=⟨Tryz.f197,_,rfl,rfl,rfl,by decide,by kernel_rfl,by kernel_rfl⟩
def ir198L1:IR:=.seq (.reg false [.r (some 42) (.bi .lss (.t 41) (.t 40))] [0,6,7,39,40,41,42]) <|
 .seq (.cond (.t 42) (.skip) ((.exit 0))) <|
 .seq (.block 1 (.seq (.reg false [.r (some 44) (.ia 1 (.t 39) (.t 41)),
.r (some 45) (.l1 (.t 44)),
.r (some 8) (.mv (.t 41)),
.r (some 9) (.mv (.t 45))] [0,6,7,8,9,39,40,41]) <|
 .reg false [.e (some 50) (.call 207 [(.t 6),(.t 9)]),
.r (some 51) (.ia 1 (.t 7) (.t 8)),
.e none (.st 1 (.t 51) (.t 50))] [0,6,7,39,40,41])) <|
 .reg false [.r (some 52) (.bi .add (.t 41) (.c (.int .i64 1))),
.r (some 41) (.mv (.t 52))] [0,6,7,39,40,41]
def ir198L2:IR:=.seq (.reg false [.r (some 72) (.bi .lss (.t 71) (.t 70))] [0,6,7,10,69,70,71,72]) <|
 .seq (.cond (.t 72) (.skip) ((.exit 4))) <|
 .seq (.block 5 (.seq (.reg false [.r (some 74) (.ia 1 (.t 69) (.t 71)),
.r (some 75) (.l1 (.t 74)),
.r (some 11) (.mv (.t 71)),
.r (some 12) (.mv (.t 75))] [0,6,7,10,11,12,69,70,71]) <|
 .seq (.reg false [.e (some 78) (.call 207 [(.t 6),(.t 12)]),
.r (some 13) (.mv (.t 78))] [0,6,7,10,11,13,69,70,71]) <|
 .reg false [.r (some 80) (.nn (.t 6)),
.r (some 81) (.fa 1 (.t 80)),
.r (some 82) (.l1 (.t 81)),
.r (some 84) (.ia 3 (.t 82) (.t 10)),
.r (some 85) (.fa 2 (.t 84)),
.r (some 86) (.l1 (.t 85)),
.r (some 89) (.ia 1 (.t 86) (.t 11)),
.e none (.st 1 (.t 89) (.t 13))] [0,6,7,10,69,70,71])) <|
 .reg false [.r (some 90) (.bi .add (.t 71) (.c (.int .i64 1))),
.r (some 71) (.mv (.t 90))] [0,6,7,10,69,70,71]
def ir198L3:IR:=.seq (.seq (.reg false [.r (some 55) (.nn (.t 6)),
.r (some 56) (.fa 1 (.t 55)),
.r (some 57) (.l1 (.t 56)),
.r (some 58) (.len (.t 57)),
.r (some 59) (.bi .lss (.t 10) (.t 58))] [0,6,7,10,59]) <|
 .cond (.t 59) (.skip) ((.exit 2))) <|
 .seq (.block 3 (.seq (.reg false [.r (some 63) (.nn (.t 6)),
.r (some 64) (.fa 1 (.t 63)),
.r (some 65) (.l1 (.t 64)),
.r (some 67) (.ia 3 (.t 65) (.t 10)),
.r (some 68) (.fa 2 (.t 67)),
.r (some 69) (.l1 (.t 68)),
.r (some 70) (.len (.t 69)),
.r (some 71) (.mv (.c (.int .i64 0)))] [0,6,7,10,69,70,71]) <|
 .block 4 (.loop ir198L2))) <|
 .reg false [.r (some 61) (.bi .add (.t 10) (.c (.int .i64 1))),
.r (some 10) (.mv (.t 61))] [0,6,7,10]
def ir198:IR:=.seq (.reg false [] [0,1]) <|
 .seq (.seq (.reg false [.e (some 16) (.call 205 [(.t 0),(.t 1)]),
.r (some 17) (.no (.t 16))] [0,1,17]) <|
 .cond (.t 17) (.seq (.reg false [.r (some 4) (.mv (.c (.slice none 0 0))),
.r (some 5) (.mv (.c (.int .i64 202)))] [4,5]) <|
 .ret) (.skip)) <|
 .seq (.dr (.r 0 none (some 18) (.mv (.t 0)) <|
   .r 1 none (some 19) (.nn (.t 18)) <|
   .r 2 none (some 20) (.fa 1 (.t 19)) <|
   .r 3 none (some 21) (.l1 (.t 20)) <|
   .r 4 none (some 22) (.mv (.t 0)) <|
   .r 5 none (some 23) (.nn (.t 22)) <|
   .r 6 none (some 24) (.fa 1 (.t 23)) <|
   .r 7 none (some 25) (.l1 (.t 24)) <|
   .r 8 none (some 26) (.len (.t 25)) <|
   .r 10 none (some 28) (.mv (.t 0)) <|
   .r 11 none (some 29) (.nn (.t 28)) <|
   .r 12 none (some 30) (.fa 1 (.t 29)) <|
   .r 13 none (some 31) (.l1 (.t 30)) <|
   .r 14 none (some 32) (.len (.t 31)) <|
   .e2 9 (some 27) (.ms 3 1 8 #[(.int .i64 0)] (.t 26) (.t 26)) [3,13] (.e 15 none (some 33) (.ms 3 1 8 #[(.int .i64 0)] (.t 32) (.t 32)) [3,7] <|
   .r 16 none (some 34) (.bd #[(.slice none 0 0),(.slice none 0 0),(.slice none 0 0),(.slice none 0 0),(.slice none 0 0)] [(0,1,(.t 21)),(2,1,(.t 27)),(3,1,(.t 33))]) <|
   .e 17 none (some 35) (.bx 239 (.t 34)) [] <|
   .r 18 none (some 6) (.mv (.t 35)) <|
   .nil) 15 (some 33) (.ms 3 1 8 #[(.int .i64 0)] (.t 32) (.t 32)) [3,7]
   (.e 9 none (some 27) (.ms 3 1 8 #[(.int .i64 0)] (.t 26) (.t 26)) [3,13] <|
   .r 16 none (some 34) (.bd #[(.slice none 0 0),(.slice none 0 0),(.slice none 0 0),(.slice none 0 0),(.slice none 0 0)] [(0,1,(.t 21)),(2,1,(.t 27)),(3,1,(.t 33))]) <|
   .e 17 none (some 35) (.bx 239 (.t 34)) [] <|
   .r 18 none (some 6) (.mv (.t 35)) <|
   .nil)) [0,1,6]) <|
 .seq (.reg false [.r (some 37) (.len (.t 1)),
.e (some 38) (.ms 3 1 8 #[(.int .i64 0)] (.t 37) (.t 37)),
.r (some 7) (.mv (.t 38))] [0,1,6,7]) <|
 .seq (.seq (.reg false [.r (some 39) (.mv (.t 1)),
.r (some 40) (.len (.t 39)),
.r (some 41) (.mv (.c (.int .i64 0)))] [0,6,7,39,40,41]) <|
 .block 0 (.loop ir198L1)) <|
 .seq (.seq (.reg false [.r (some 10) (.mv (.c (.int .i64 0)))] [0,6,7,10]) <|
 .block 2 (.loop ir198L3)) <|
 .seq (.reg false [.r (some 93) (.nn (.t 6)),
.r (some 94) (.fa 1 (.t 93)),
.r (some 95) (.l1 (.t 94)),
.r (some 96) (.nn (.t 0)),
.r (some 97) (.fa 1 (.t 96)),
.e none (.st 1 (.t 97) (.t 95))] [0,7]) <|
 .seq (.reg false [.r (some 99) (.nn (.t 0)),
.r (some 100) (.fa 2 (.t 99)),
.r (some 101) (.l1 (.t 100)),
.r (some 102) (.bi .add (.t 101) (.c (.int .i64 1))),
.r (some 103) (.nn (.t 0)),
.r (some 104) (.fa 2 (.t 103)),
.e none (.st 1 (.t 104) (.t 102))] [7]) <|
 .seq (.reg false [.r (some 4) (.mv (.t 7)),
.r (some 5) (.mv (.c (.int .i64 0)))] [4,5]) <|
 .ret
theorem fit198:Fits Tryz.prog 198 2 (hOf Tryz.f198 ir198) ir198 [.t 4,.t 5] 106:=⟨Tryz.f198,_,rfl,rfl,rfl,by decide,by kernel_rfl,by kernel_rfl⟩
def ir200:IR:=.seq (.reg false [.e (some 4) (.al 87 (.agg #[(.int .i64 0),(.int .i64 0),(.slice none 0 0)]))] [0,1,4]) <|
 .seq (.seq (.reg false [.e (some 9) (.bs 3 1 #[(.int .i64 0)] [(0,1,(.t 1))]),
.e (some 10) (.call 205 [(.t 0),(.t 9)]),
.r (some 11) (.no (.t 10))] [0,1,4,11]) <|
 .cond (.t 11) (.seq (.reg false [.r (some 12) (.bd #[(.int .i64 0),(.int .i64 0),(.slice none 0 0)] []),
.e none (.st 3 (.t 4) (.t 12)),
.r (some 5) (.mv (.c (.int .i64 202)))] [4,5]) <|
 .ret) (.skip)) <|
 .seq (.reg false [.r (some 14) (.nn (.t 0)),
.r (some 15) (.fa 1 (.t 14)),
.r (some 16) (.l1 (.t 15)),
.r (some 18) (.ia 3 (.t 16) (.t 1)),
.r (some 19) (.ln 3 (.t 18)),
.e (some 6) (.al 235 (.agg #[(.int .i64 0),(.int .i64 0),(.slice none 0 0)])),
.e none (.st 3 (.t 6) (.t 19))] [4,6]) <|
 .seq (.dr (.r 0 none (some 20) (.fa 0 (.t 6)) <|
   .r 1 none (some 21) (.fa 0 (.t 20)) <|
   .r 2 none (some 22) (.l1 (.t 21)) <|
   .r 3 none (some 23) (.fa 0 (.t 6)) <|
   .r 4 none (some 24) (.fa 1 (.t 23)) <|
   .r 5 none (some 25) (.l1 (.t 24)) <|
   .r 6 none (some 26) (.fa 2 (.t 6)) <|
   .r 7 none (some 27) (.l1 (.t 26)) <|
   .e 8 none (some 28) (.call 208 [(.t 27)]) [2,5] <|
   .r 9 none (some 29) (.bd #[(.int .i64 0),(.int .i64 0),(.slice none 0 0)] [(0,1,(.t 22)),(1,1,(.t 25)),(2,1,(.t 28))]) <|
   .e 10 none none (.st 3 (.t 4) (.t 29)) [] <|
   .r 11 none (some 5) (.mv (.c (.int .i64 0))) <|
   .nil) [4,5]) <|
 .ret
theorem fit200:Fits Tryz.prog 200 2 (hOf Tryz.f200 ir200) ir200 [.n 4 3,.t 5] 30:=⟨Tryz.f200,_,rfl,rfl,rfl,by decide,by kernel_rfl,by kernel_rfl⟩
def ir201:IR:=.seq (.reg false [] [0,1,2]) <|
 .seq (.block 0 (.seq (.reg false [.r (some 10) (.bi .lss (.t 1) (.c (.int .i64 0))),
.r (some 8) (.mv (.t 10))] [0,1,2,8]) <|
 .cond (.t 8) (.seq (.reg false [.r (some 6) (.mv (.c (.slice none 0 0))),
.r (some 7) (.mv (.c (.int .i64 1)))] [6,7]) <|
 .ret) (.seq (.reg false [.e (some 14) (.call 205 [(.t 0),(.t 2)]),
.r (some 15) (.no (.t 14)),
.r (some 11) (.mv (.t 15))] [0,1,2,11]) <|
 .cond (.t 11) (.seq (.reg false [.r (some 6) (.mv (.c (.slice none 0 0))),
.r (some 7) (.mv (.c (.int .i64 202)))] [6,7]) <|
 .ret) (.seq (.reg true [.r (some 17) (.mv (.t 1)),
.r (some 18) (.mv (.t 0)),
.r (some 19) (.nn (.t 18)),
.r (some 20) (.fa 0 (.t 19)),
.r (some 21) (.l1 (.t 20)),
.r (some 22) (.mv (.t 0)),
.r (some 23) (.nn (.t 22)),
.r (some 24) (.fa 1 (.t 23)),
.r (some 25) (.l1 (.t 24)),
.r (some 26) (.len (.t 25)),
.r (some 27) (.bi .sub (.t 21) (.t 26)),
.r (some 28) (.bi .leq (.t 17) (.t 27)),
.r (some 16) (.mv (.t 28))] [0,1,2,16]) <|
 .cond (.t 16) (.seq (.reg false [.e (some 30) (.call 208 [(.t 2)]),
.r (some 6) (.mv (.t 30)),
.r (some 7) (.mv (.c (.int .i64 0)))] [6,7]) <|
 .ret) (.skip))))) <|
 .seq (.reg false [.e (some 34) (.call 198 [(.t 0),(.t 2)]),
.r (some 35) (.ex 0 (.t 34)),
.r (some 36) (.ex 1 (.t 34)),
.r (some 2) (.mv (.t 35))] [0,1,2]) <|
 .seq (.seq (.reg true [.r (some 37) (.mv (.t 1)),
.r (some 38) (.mv (.t 0)),
.r (some 39) (.nn (.t 38)),
.r (some 40) (.fa 0 (.t 39)),
.r (some 41) (.l1 (.t 40)),
.r (some 42) (.mv (.t 0)),
.r (some 43) (.nn (.t 42)),
.r (some 44) (.fa 1 (.t 43)),
.r (some 45) (.l1 (.t 44)),
.r (some 46) (.len (.t 45)),
.r (some 47) (.bi .sub (.t 41) (.t 46)),
.r (some 48) (.bi .gtr (.t 37) (.t 47))] [2,48]) <|
 .cond (.t 48) (.seq (.reg false [.r (some 6) (.mv (.c (.slice none 0 0))),
.r (some 7) (.mv (.c (.int .i64 201)))] [6,7]) <|
 .ret) (.skip)) <|
 .seq (.reg false [.r (some 6) (.mv (.t 2)),
.r (some 7) (.mv (.c (.int .i64 0)))] [6,7]) <|
 .ret
theorem fit201:Fits Tryz.prog 201 3 (hOf Tryz.f201 ir201) ir201 [.t 6,.t 7] 50:=⟨Tryz.f201,_,rfl,rfl,rfl,by decide,by kernel_rfl,by kernel_rfl⟩
def ir202:IR:=.seq (.reg false [.e (some 5) (.bx 87 (.t 2))] [0,1,5]) <|
 .seq (.block 0 (.seq (.reg false [.e (some 10) (.bs 3 1 #[(.int .i64 0)] [(0,1,(.t 1))]),
.e (some 11) (.call 205 [(.t 0),(.t 10)]),
.r (some 12) (.no (.t 11)),
.r (some 7) (.mv (.t 12))] [0,1,5,7]) <|
 .cond (.t 7) (.seq (.reg false [.r (some 6) (.mv (.c (.int .i64 202)))] [6]) <|
 .ret) (.seq (.reg false [.r (some 14) (.ln 3 (.t 5)),
.e (some 15) (.call 204 [(.t 14)]),
.r (some 16) (.no (.t 15)),
.r (some 13) (.mv (.t 16))] [0,1,5,13]) <|
 .cond (.t 13) (.seq (.reg false [.r (some 6) (.mv (.c (.int .i64 1)))] [6]) <|
 .ret) (.seq (.reg false [.r (some 19) (.fa 2 (.t 5)),
.r (some 20) (.l1 (.t 19)),
.e (some 21) (.call 205 [(.t 0),(.t 20)]),
.r (some 22) (.no (.t 21)),
.r (some 17) (.mv (.t 22))] [0,1,5,17]) <|
 .cond (.t 17) (.seq (.reg false [.r (some 6) (.mv (.c (.int .i64 202)))] [6]) <|
 .ret) (.skip))))) <|
 .seq (.seq (.reg true [.r (some 23) (.fa 2 (.t 5)),
.r (some 24) (.l1 (.t 23)),
.r (some 25) (.len (.t 24)),
.r (some 26) (.bi .eql (.t 25) (.c (.int .i64 0))),
.r (some 27) (.mv (.t 26)),
.gr 27 true (some 28) (.mv (.t 0)),
.gr 27 true (some 29) (.nn (.t 28)),
.gr 27 true (some 30) (.fa 1 (.t 29)),
.gr 27 true (some 31) (.l1 (.t 30)),
.gr 27 true (some 32) (.mv (.t 1)),
.gr 27 true (some 33) (.ia 3 (.t 31) (.t 32)),
.gr 27 true (some 34) (.fa 0 (.t 33)),
.gr 27 true (some 35) (.ln 2 (.t 34)),
.gr 27 true (some 36) (.fa 0 (.t 5)),
.gr 27 true (some 37) (.l1 (.t 36)),
.gr 27 true (some 38) (.fa 1 (.t 5)),
.gr 27 true (some 39) (.l1 (.t 38)),
.gr 27 true (some 40) (.bd #[(.int .i64 0),(.int .i64 0)] [(0,1,(.t 37)),(1,1,(.t 39))]),
.gr 27 true (some 41) (.eqa false [(0,.int),(1,.int)] (.t 35) (.t 40)),
.r (some 42) (.pk (.t 27) (.t 41) (.c (.bool false))),
.r (some 43) (.mv (.t 42)),
.gr 43 true (some 44) (.mv (.t 0)),
.gr 43 true (some 45) (.nn (.t 44)),
.gr 43 true (some 46) (.fa 1 (.t 45)),
.gr 43 true (some 47) (.l1 (.t 46)),
.gr 43 true (some 48) (.mv (.t 1)),
.gr 43 true (some 49) (.ia 3 (.t 47) (.t 48)),
.gr 43 true (some 50) (.fa 2 (.t 49)),
.gr 43 true (some 51) (.l1 (.t 50)),
.gr 43 true (some 52) (.len (.t 51)),
.gr 43 true (some 53) (.bi .eql (.t 52) (.c (.int .i64 0))),
.r (some 54) (.pk (.t 43) (.t 53) (.c (.bool false)))] [0,1,5,54]) <|
 .cond (.t 54) (.seq (.reg false [.r (some 6) (.mv (.c (.int .i64 0)))] [6]) <|
 .ret) (.skip)) <|
 .seq (.dr (.r 0 none (some 55) (.mv (.t 0)) <|
   .r 1 none (some 56) (.nn (.t 55)) <|
   .r 2 none (some 57) (.fa 1 (.t 56)) <|
   .r 3 none (some 58) (.l1 (.t 57)) <|
   .r 4 none (some 59) (.mv (.t 1)) <|
   .r 5 none (some 60) (.ln 3 (.t 5)) <|
   .e 6 none (some 61) (.call 206 [(.t 60)]) [3] <|
   .r 7 none (some 62) (.ia 3 (.t 58) (.t 59)) <|
   .e 8 none none (.st 3 (.t 62) (.t 61)) [] <|
   .nil) []) <|
 .seq (.reg false [.r (some 6) (.mv (.c (.int .i64 0)))] [6]) <|
 .ret
theorem fit202:Fits Tryz.prog 202 3 (hOf Tryz.f202 ir202) ir202 [.t 6] 63:=⟨Tryz.f202,_,rfl,rfl,rfl,by decide,by kernel_rfl,by kernel_rfl⟩
def ir203:IR:=.seq (.reg false [] [0]) <|
 .seq (.reg false [.r (some 4) (.nn (.t 0)),
.r (some 5) (.fa 1 (.t 4)),
.r (some 6) (.l1 (.t 5)),
.r (some 7) (.len (.t 6)),
.r (some 2) (.mv (.t 7))] [2]) <|
 .ret
theorem fit203:Fits Tryz.prog 203 1 (hOf Tryz.f203 ir203) ir203 [.t 2] 8:=⟨Tryz.f203,_,rfl,rfl,rfl,by decide,by kernel_rfl,by kernel_rfl⟩
def ir204:IR:=.seq (.reg false [.e (some 1) (.bx 87 (.t 0))] [1]) <|
 .seq (.reg false [.r (some 4) (.fa 2 (.t 1)),
.r (some 5) (.l1 (.t 4)),
.r (some 6) (.len (.t 5)),
.r (some 3) (.mv (.t 6))] [1,3]) <|
 .seq (.seq (.reg false [.r (some 7) (.fa 0 (.t 1)),
.r (some 8) (.l1 (.t 7))] [1,3,8]) <|
 .block 0 (.seq (.reg false [.r (some 10) (.bi .eql (.t 8) (.c (.int .i64 1))),
.r (some 9) (.mv (.t 10))] [1,3,8,9]) <|
 .cond (.t 9) (.seq (.reg false [.r (some 12) (.bi .eql (.t 3) (.c (.int .i64 0))),
.gr 12 true (some 14) (.fa 1 (.t 1)),
.gr 12 true (some 15) (.l1 (.t 14)),
.gr 12 true (some 16) (.bi .geq (.t 15) (.c (.int .i64 (-4611686018427387904)))),
.r (some 17) (.pk (.t 12) (.t 16) (.c (.bool false))),
.gr 17 true (some 19) (.fa 1 (.t 1)),
.gr 17 true (some 20) (.l1 (.t 19)),
.gr 17 true (some 21) (.bi .leq (.t 20) (.c (.int .i64 4611686018427387903))),
.r (some 22) (.pk (.t 17) (.t 21) (.c (.bool false))),
.r (some 2) (.mv (.t 22))] [2]) <|
 .ret) (.seq (.reg false [.r (some 24) (.bi .eql (.t 8) (.c (.int .i64 2))),
.r (some 23) (.mv (.t 24))] [1,3,8,23]) <|
 .cond (.t 23) (.seq (.reg false [.r (some 26) (.bi .leq (.t 3) (.c (.int .i64 8))),
.gr 26 true (some 28) (.fa 1 (.t 1)),
.gr 26 true (some 29) (.l1 (.t 28)),
.gr 26 true (some 30) (.bi .geq (.t 29) (.c (.int .i64 0))),
.r (some 31) (.pk (.t 26) (.t 30) (.c (.bool false))),
.r (some 2) (.mv (.t 31))] [2]) <|
 .ret) (.seq (.reg false [.r (some 33) (.bi .eql (.t 8) (.c (.int .i64 3))),
.r (some 32) (.mv (.t 33))] [1,3,8,32]) <|
 .cond (.t 32) (.seq (.reg false [.r (some 35) (.bi .eql (.t 3) (.c (.int .i64 2))),
.gr 35 true (some 37) (.fa 1 (.t 1)),
.gr 35 true (some 38) (.l1 (.t 37)),
.gr 35 true (some 39) (.bi .eql (.t 38) (.c (.int .i64 0))),
.r (some 40) (.pk (.t 35) (.t 39) (.c (.bool false))),
.r (some 2) (.mv (.t 40))] [2]) <|
 .ret) (.seq (.seq (.reg false [.r (some 42) (.bi .eql (.t 8) (.c (.int .i64 4))),
.r (some 41) (.mv (.t 42))] [1,3,8,41]) <|
 .cond (.t 41) (.skip) (.reg false [.r (some 43) (.bi .eql (.t 8) (.c (.int .i64 8))),
.r (some 41) (.mv (.t 43))] [1,3,8,41])) <|
 .cond (.t 41) (.seq (.reg false [.r (some 45) (.bi .eql (.t 3) (.c (.int .i64 0))),
.gr 45 true (some 47) (.fa 1 (.t 1)),
.gr 45 true (some 48) (.l1 (.t 47)),
.gr 45 true (some 49) (.bi .geq (.t 48) (.c (.int .i64 0))),
.r (some 50) (.pk (.t 45) (.t 49) (.c (.bool false))),
.r (some 2) (.mv (.t 50))] [2]) <|
 .ret) (.seq (.reg false [.r (some 52) (.bi .eql (.t 8) (.c (.int .i64 5))),
.r (some 51) (.mv (.t 52))] [1,3,8,51]) <|
 .cond (.t 51) (.seq (.reg false [.r (some 54) (.bi .eql (.t 3) (.c (.int .i64 1))),
.gr 54 true (some 56) (.fa 1 (.t 1)),
.gr 54 true (some 57) (.l1 (.t 56)),
.gr 54 true (some 58) (.bi .eql (.t 57) (.c (.int .i64 0))),
.r (some 59) (.pk (.t 54) (.t 58) (.c (.bool false))),
.r (some 2) (.mv (.t 59))] [2]) <|
 .ret) (.seq (.seq (.reg false [.r (some 61) (.bi .eql (.t 8) (.c (.int .i64 6))),
.r (some 60) (.mv (.t 61))] [1,3,8,60]) <|
 .cond (.t 60) (.skip) (.reg false [.r (some 62) (.bi .eql (.t 8) (.c (.int .i64 7))),
.r (some 60) (.mv (.t 62))] [1,3,60])) <|
 .cond (.t 60) (.seq (.reg false [.r (some 64) (.bi .eql (.t 3) (.c (.int .i64 0))),
.gr 64 true (some 66) (.fa 1 (.t 1)),
.gr 64 true (some 67) (.l1 (.t 66)),
.gr 64 true (some 68) (.bi .eql (.t 67) (.c (.int .i64 0))),
.r (some 69) (.pk (.t 64) (.t 68) (.c (.bool false))),
.r (some 2) (.mv (.t 69))] [2]) <|
 .ret) (.skip)))))))) <|
 .seq (.reg false [.r (some 2) (.mv (.c (.bool false)))] [2]) <|
 .ret
theorem fit204:Fits Tryz.prog 204 1 (hOf Tryz.f204 ir204) ir204 [.t 2] 70:=⟨Tryz.f204,_,rfl,rfl,rfl,by decide,by kernel_rfl,by kernel_rfl⟩
def ir205L1:IR:=.seq (.reg false [.r (some 10) (.bi .lss (.t 9) (.t 8))] [0,7,8,9,10]) <|
 .seq (.cond (.t 10) (.skip) ((.exit 0))) <|
 .seq (.block 1 (.seq (.reg false [.r (some 11) (.ia 1 (.t 7) (.t 9)),
.r (some 12) (.l1 (.t 11)),
.r (some 6) (.mv (.t 12))] [0,6,7,8,9]) <|
 .seq (.reg false [.r (some 14) (.bi .lss (.t 6) (.c (.int .i64 0))),
.gr 14 false (some 16) (.mv (.t 6)),
.gr 14 false (some 17) (.mv (.t 0)),
.gr 14 false (some 18) (.nn (.t 17)),
.gr 14 false (some 19) (.fa 1 (.t 18)),
.gr 14 false (some 20) (.l1 (.t 19)),
.gr 14 false (some 21) (.len (.t 20)),
.gr 14 false (some 22) (.bi .geq (.t 16) (.t 21)),
.r (some 23) (.pk (.t 14) (.c (.bool true)) (.t 22))] [0,7,8,9,23]) <|
 .cond (.t 23) (.seq (.reg false [.r (some 4) (.mv (.c (.bool false)))] [4]) <|
 .ret) (.skip))) <|
 .reg false [.r (some 24) (.bi .add (.t 9) (.c (.int .i64 1))),
.r (some 9) (.mv (.t 24))] [0,7,8,9]
def ir205:IR:=.seq (.reg false [] [0,1]) <|
 .seq (.seq (.reg false [.r (some 7) (.mv (.t 1)),
.r (some 8) (.len (.t 7)),
.r (some 9) (.mv (.c (.int .i64 0)))] [0,7,8,9]) <|
 .block 0 (.loop ir205L1)) <|
 .seq (.reg false [.r (some 4) (.mv (.c (.bool true)))] [4]) <|
 .ret
theorem fit205:Fits Tryz.prog 205 2 (hOf Tryz.f205 ir205) ir205 [.t 4] 25:=⟨Tryz.f205,_,rfl,rfl,rfl,by decide,by kernel_rfl,by kernel_rfl⟩
def ir206:IR:=.seq (.reg false [.e (some 1) (.bx 87 (.t 0)),
.e (some 2) (.al 235 (.agg #[(.int .i64 0),(.int .i64 0),(.slice none 0 0)]))] [1,2]) <|
 .seq (.dr (.r 0 none (some 3) (.fa 0 (.t 1)) <|
   .r 1 none (some 4) (.l1 (.t 3)) <|
   .r 2 none (some 5) (.fa 1 (.t 1)) <|
   .r 3 none (some 6) (.l1 (.t 5)) <|
   .r 4 none (some 7) (.bd #[(.int .i64 0),(.int .i64 0)] [(0,1,(.t 4)),(1,1,(.t 6))]) <|
   .r 5 none (some 8) (.fa 2 (.t 1)) <|
   .r 6 none (some 9) (.l1 (.t 8)) <|
   .e 7 none (some 10) (.call 208 [(.t 9)]) [1,3] <|
   .r 8 none (some 11) (.bd #[(.int .i64 0),(.int .i64 0),(.slice none 0 0)] [(0,2,(.t 7)),(2,1,(.t 10))]) <|
   .e 9 none none (.st 3 (.t 2) (.t 11)) [] <|
   .nil) [2]) <|
 .ret
theorem fit206:Fits Tryz.prog 206 1 (hOf Tryz.f206 ir206) ir206 [.n 2 3] 12:=⟨Tryz.f206,_,rfl,rfl,rfl,by decide,by kernel_rfl,by kernel_rfl⟩
def ir207:IR:=.seq (.reg false [] [0,1]) <|
 .seq (.reg false [.e (some 7) (.call 209 [(.t 0),(.t 1)]),
.r (some 1) (.mv (.t 7))] [0,1]) <|
 .seq (.seq (.reg false [.r (some 9) (.nn (.t 0)),
.r (some 10) (.fa 3 (.t 9)),
.r (some 11) (.l1 (.t 10)),
.r (some 13) (.ia 1 (.t 11) (.t 1)),
.r (some 14) (.l1 (.t 13)),
.r (some 15) (.bi .eql (.t 14) (.c (.int .i64 0)))] [0,1,15]) <|
 .cond (.t 15) (.seq (.dr (.r 0 none (some 16) (.mv (.t 0)) <|
   .r 1 none (some 17) (.mv (.t 0)) <|
   .r 2 none (some 18) (.nn (.t 17)) <|
   .r 3 none (some 19) (.fa 1 (.t 18)) <|
   .r 4 none (some 20) (.l1 (.t 19)) <|
   .r 5 none (some 21) (.mv (.t 0)) <|
   .r 6 none (some 22) (.nn (.t 21)) <|
   .r 7 none (some 23) (.fa 0 (.t 22)) <|
   .r 8 none (some 24) (.l1 (.t 23)) <|
   .r 9 none (some 25) (.mv (.t 1)) <|
   .r 10 none (some 26) (.ia 3 (.t 24) (.t 25)) <|
   .r 11 none (some 27) (.fa 0 (.t 26)) <|
   .r 12 none (some 28) (.ln 2 (.t 27)) <|
   .r 13 none (some 29) (.mv (.t 0)) <|
   .r 14 none (some 30) (.nn (.t 29)) <|
   .r 15 none (some 31) (.fa 0 (.t 30)) <|
   .r 16 none (some 32) (.l1 (.t 31)) <|
   .r 17 none (some 33) (.mv (.t 1)) <|
   .r 18 none (some 34) (.ia 3 (.t 32) (.t 33)) <|
   .r 19 none (some 35) (.fa 2 (.t 34)) <|
   .r 20 none (some 36) (.l1 (.t 35)) <|
   .e 21 none (some 37) (.call 208 [(.t 36)]) [4,8,12] <|
   .r 22 none (some 38) (.bd #[(.int .i64 0),(.int .i64 0),(.slice none 0 0)] [(0,2,(.t 28)),(2,1,(.t 37))]) <|
   .e 23 none (some 39) (.bs 235 1 #[(.int .i64 0),(.int .i64 0),(.slice none 0 0)] [(0,3,(.t 38))]) [4] <|
   .e 24 none (some 40) (.ap 235 3 40 #[(.int .i64 0),(.int .i64 0),(.slice none 0 0)] (.t 20) (.t 39)) [] <|
   .r 25 none (some 41) (.nn (.t 16)) <|
   .r 26 none (some 42) (.fa 1 (.t 41)) <|
   .e 27 none none (.st 1 (.t 42) (.t 40)) [] <|
   .nil) [0,1]) <|
 .reg true [.r (some 43) (.mv (.t 0)),
.r (some 44) (.nn (.t 43)),
.r (some 45) (.fa 3 (.t 44)),
.r (some 46) (.l1 (.t 45)),
.r (some 47) (.mv (.t 1)),
.r (some 48) (.mv (.t 0)),
.r (some 49) (.nn (.t 48)),
.r (some 50) (.fa 1 (.t 49)),
.r (some 51) (.l1 (.t 50)),
.r (some 52) (.len (.t 51)),
.r (some 53) (.ia 1 (.t 46) (.t 47)),
.e none (.st 1 (.t 53) (.t 52))] [0,1]) (.skip)) <|
 .seq (.reg false [.r (some 55) (.nn (.t 0)),
.r (some 56) (.fa 3 (.t 55)),
.r (some 57) (.l1 (.t 56)),
.r (some 59) (.ia 1 (.t 57) (.t 1)),
.r (some 60) (.l1 (.t 59)),
.r (some 61) (.bi .sub (.t 60) (.c (.int .i64 1))),
.r (some 4) (.mv (.t 61))] [4]) <|
 .ret
theorem fit207:Fits Tryz.prog 207 2 (hOf Tryz.f207 ir207) ir207 [.t 4] 62:=⟨Tryz.f207,_,rfl,rfl,rfl,by decide,by kernel_rfl,by kernel_rfl⟩
def ir208:IR:=.seq (.reg false [] [0]) <|
 .seq (.reg false [.r (some 5) (.len (.t 0)),
.e (some 6) (.ms 3 1 8 #[(.int .i64 0)] (.t 5) (.t 5)),
.r (some 3) (.mv (.t 6))] [0,3]) <|
 .seq (.reg false [.e (some 9) (.cp 1 (.t 3) (.t 0))] [3]) <|
 .seq (.reg false [.r (some 2) (.mv (.t 3))] [2]) <|
 .ret
theorem fit208:Fits Tryz.prog 208 1 (hOf Tryz.f208 ir208) ir208 [.t 2] 11:=⟨Tryz.f208,_,rfl,rfl,rfl,by decide,by kernel_rfl,by kernel_rfl⟩
def ir209L1:IR:=.seq (.seq (.reg false [.r (some 17) (.nn (.t 0)),
.r (some 18) (.fa 2 (.t 17)),
.r (some 19) (.l1 (.t 18)),
.r (some 21) (.ia 1 (.t 19) (.t 1)),
.r (some 22) (.l1 (.t 21)),
.r (some 23) (.bi .eql (.t 22) (.c (.int .i64 0))),
.gr 23 true (some 25) (.mv (.t 0)),
.gr 23 true (some 26) (.nn (.t 25)),
.gr 23 true (some 27) (.fa 0 (.t 26)),
.gr 23 true (some 28) (.l1 (.t 27)),
.gr 23 true (some 29) (.mv (.t 1)),
.gr 23 true (some 30) (.ia 3 (.t 28) (.t 29)),
.gr 23 true (some 31) (.fa 0 (.t 30)),
.gr 23 true (some 32) (.fa 0 (.t 31)),
.gr 23 true (some 33) (.l1 (.t 32)),
.gr 23 true (some 34) (.bi .eql (.t 33) (.c (.int .i64 5))),
.r (some 35) (.pk (.t 23) (.t 34) (.c (.bool false)))] [0,1,35]) <|
 .cond (.t 35) (.skip) ((.exit 0))) <|
 .block 1 (.seq (.reg false [.r (some 37) (.nn (.t 0)),
.r (some 38) (.fa 2 (.t 37)),
.r (some 39) (.l1 (.t 38)),
.r (some 41) (.ia 1 (.t 39) (.t 1)),
.e none (.st 1 (.t 41) (.c (.int .i64 (-1))))] [0,1]) <|
 .seq (.reg false [.r (some 44) (.nn (.t 0)),
.r (some 45) (.fa 4 (.t 44)),
.r (some 46) (.l1 (.t 45)),
.e (some 48) (.bs 3 1 #[(.int .i64 0)] [(0,1,(.t 1))]),
.e (some 49) (.ap 3 1 8 #[(.int .i64 0)] (.t 46) (.t 48)),
.r (some 50) (.nn (.t 0)),
.r (some 51) (.fa 4 (.t 50)),
.e none (.st 1 (.t 51) (.t 49))] [0,1]) <|
 .reg false [.r (some 53) (.nn (.t 0)),
.r (some 54) (.fa 0 (.t 53)),
.r (some 55) (.l1 (.t 54)),
.r (some 57) (.ia 3 (.t 55) (.t 1)),
.r (some 58) (.fa 2 (.t 57)),
.r (some 59) (.l1 (.t 58)),
.r (some 60) (.ia 1 (.t 59) (.c (.int .i64 0))),
.r (some 61) (.l1 (.t 60)),
.r (some 1) (.mv (.t 61))] [0,1])
def ir209L2:IR:=.seq (.reg false [.r (some 93) (.bi .lss (.t 92) (.t 91))] [0,5,90,91,92,93]) <|
 .seq (.cond (.t 93) (.skip) ((.exit 2))) <|
 .seq (.block 3 (.seq (.reg false [.r (some 94) (.ia 1 (.t 90) (.t 92)),
.r (some 95) (.l1 (.t 94)),
.r (some 7) (.mv (.t 95))] [0,5,7,90,91,92]) <|
 .reg false [.r (some 97) (.nn (.t 0)),
.r (some 98) (.fa 2 (.t 97)),
.r (some 99) (.l1 (.t 98)),
.r (some 102) (.bi .add (.t 5) (.c (.int .i64 1))),
.r (some 103) (.ia 1 (.t 99) (.t 7)),
.e none (.st 1 (.t 103) (.t 102))] [0,5,90,91,92])) <|
 .reg false [.r (some 104) (.bi .add (.t 92) (.c (.int .i64 1))),
.r (some 92) (.mv (.t 104))] [0,5,90,91,92]
def ir209:IR:=.seq (.reg false [] [0,1]) <|
 .seq (.reg false [.r (some 10) (.nn (.t 0)),
.r (some 11) (.fa 4 (.t 10)),
.r (some 12) (.l1 (.t 11)),
.r (some 13) (.sl 1 (.t 12) none (some (.c (.int .i64 0))) none),
.r (some 14) (.nn (.t 0)),
.r (some 15) (.fa 4 (.t 14)),
.e none (.st 1 (.t 15) (.t 13))] [0,1]) <|
 .seq (.block 0 (.loop ir209L1)) <|
 .seq (.reg false [.r (some 5) (.mv (.t 1))] [0,1,5]) <|
 .seq (.seq (.reg false [.r (some 64) (.nn (.t 0)),
.r (some 65) (.fa 2 (.t 64)),
.r (some 66) (.l1 (.t 65)),
.r (some 68) (.ia 1 (.t 66) (.t 1)),
.r (some 69) (.l1 (.t 68)),
.r (some 70) (.bi .gtr (.t 69) (.c (.int .i64 0)))] [0,1,5,70]) <|
 .cond (.t 70) (.reg false [.r (some 72) (.nn (.t 0)),
.r (some 73) (.fa 2 (.t 72)),
.r (some 74) (.l1 (.t 73)),
.r (some 76) (.ia 1 (.t 74) (.t 1)),
.r (some 77) (.l1 (.t 76)),
.r (some 78) (.bi .sub (.t 77) (.c (.int .i64 1))),
.r (some 5) (.mv (.t 78))] [0,1,5]) (.skip)) <|
 .seq (.reg false [.r (some 80) (.nn (.t 0)),
.r (some 81) (.fa 2 (.t 80)),
.r (some 82) (.l1 (.t 81)),
.r (some 85) (.bi .add (.t 5) (.c (.int .i64 1))),
.r (some 86) (.ia 1 (.t 82) (.t 1)),
.e none (.st 1 (.t 86) (.t 85))] [0,5]) <|
 .seq (.seq (.reg false [.r (some 88) (.nn (.t 0)),
.r (some 89) (.fa 4 (.t 88)),
.r (some 90) (.l1 (.t 89)),
.r (some 91) (.len (.t 90)),
.r (some 92) (.mv (.c (.int .i64 0)))] [0,5,90,91,92]) <|
 .block 2 (.loop ir209L2)) <|
 .seq (.reg false [.r (some 4) (.mv (.t 5))] [4]) <|
 .ret
theorem fit209:Fits Tryz.prog 209 2 (hOf Tryz.f209 ir209) ir209 [.t 4] 106:=⟨Tryz.f209,_,rfl,rfl,rfl,by decide,by kernel_rfl,by kernel_rfl⟩
end
section
open Go Go.W Go.RowKit Go.Maps Go.Sort Go.Shelf Go.ChangeMaps Go.MapKept
open Go.WideElems (Fit rd rg)
theorem sortsA (m:Nat):AnyZI.SortsIn Tryz.prog Tryz.sortedA_ren Fence.wide m:=
 ⟨fun blk off cap ss W hH hblk hsz=>callsIn_wide.2 (AnyM.slices_Sort_int Tryz.sortA blk off cap ss W hH hblk hsz),
  fun p cap W=>callsIn_wide.2 (AnyM.slices_Sort_int_none Tryz.sortA p cap W)⟩
theorem keys_ok (w:World) (mb:Option Nat):CallsR Tryz.prog 168 [.map mb] w fun v w'=>v = .func (.func 173) #[] #[.pointer (some ⟨w.heap.size,0,none⟩)]∧w'=w.alloc (.cells #[.map mb] 160):=by
 have:=callsIn_wide.1 (AnyZI.keys_in Tryz.keysA Fence.wide 5 trivial rfl mb w)
 exact this.mono (fun e w' ⟨h1,h2⟩=>⟨_,h1,rfl,h2⟩)
def R0 {H:Type}:Value→Option (DataW H×List MemPlace):=fun _=>some (.nil,[])
theorem keyOf_I {k:Int} (h : -9223372036854775808≤k∧k≤9223372036854775807):keyOf Tryz.prog 3 (I k)=some (.int .i64 k):=by
 have h1:IntKind.i64.min = -9223372036854775808:=rfl
 have h2:IntKind.i64.max=9223372036854775807:=rfl
 have h3:(Lit.int .i64 k).wf=true:=by simp only [Lit.wf,Bool.and_eq_true,decide_eq_true_eq];omega
 simp [keyOf,Tryz.underlying3,mapKey,I,h3]
theorem owns_of {w:World} {b:Nat} {l:List (Int×Int)} (h:MapAt w b l) (hn:(l.map (·.1)).Nodup) (hk:∀ p∈l,-9223372036854775808≤p.1∧p.1≤9223372036854775807) (hl:l.length≤1048576) :
   ∃ D0:DataW Unit,w.ownsMap Tryz.prog 3 R0 b l.length D0∧Maps.size D0=l.length∧(intKeys D0).Perm (l.map (·.1)):=by
 obtain ⟨es,clock,h1,h2,h3,h4⟩:=h
 have hsz:es.size=l.length:=by have:=congrArg List.length h2;simpa using this
 have hat:∀ x∈es.toList,∃ p∈l,x.key=I p.1∧x.val=I p.2:=by
   intro x hx
   obtain ⟨i,hi,rfl⟩:=List.getElem_of_mem hx
   have hil : i < l.length := by have : es.toList.length = es.size := by simp
                                 omega
   have:=congrArg (fun z=>z[i]?) h2
   simp only [List.getElem?_map,List.getElem?_eq_getElem hi,List.getElem?_eq_getElem hil,Option.map_some,Option.some.injEq,Prod.mk.injEq] at this
   exact ⟨_,List.getElem_mem hil,this.1,this.2⟩
 have hrd:∀ x∈es.toList,∃ p∈l,x.key=I p.1∧rd (H:=Unit) Tryz.prog 3 R0 x=some (.int .i64 p.1,.nil):=by
   intro x hx
   obtain ⟨p,hp,e1,e2⟩:=hat x hx
   exact ⟨p,hp,e1,by simp [WideElems.rd,e1,keyOf_I (hk p hp),R0]⟩
 have hkeys:es.toList.map (·.key)=(l.map (·.1)).map I:=by
   have:=congrArg (List.map Prod.fst) h2
   simpa [List.map_map,Function.comp_def] using this
 have hrg:es.toList.map (rg (H:=Unit) Tryz.prog 3 R0)=l.map (fun p=>(Lit.int .i64 p.1,DataW.nil)):=by
   apply List.ext_getElem?
   intro i
   have:=congrArg (fun z=>z[i]?) h2
   simp only [List.getElem?_map] at this ⊢
   cases hx:es.toList[i]? with
   | none=>
     rw [hx] at this
     cases hp:l[i]? with
     | none=>rfl
     | some p=>rw [hp] at this;simp at this
   | some x=>
     rw [hx] at this
     cases hp:l[i]? with
     | none=>rw [hp] at this;simp at this
     | some p=>
       rw [hp] at this
       simp only [Option.map_some,Option.some.injEq,Prod.mk.injEq] at this
       simp [WideElems.rg,WideElems.rd,this.1,keyOf_I (hk p (List.mem_of_getElem? hp)),R0]
 refine ⟨_,⟨es,clock,h1,⟨?_,⟨h3,h4,?_⟩,fun x hx=>?_⟩,Nat.le_of_eq hsz,rfl⟩,?_,?_⟩
 · have:maxLen=9223372036854775807:=by decide
   omega
 · rw [hkeys]
   refine List.Pairwise.map _ ?_ hn
   intro a b hab hh
   exact hab (by simpa [I] using hh)
 · obtain ⟨p,_,_,h5⟩:=hrd x hx
   exact ⟨_,h5⟩
 · rw [hrg]
   have:=(Go.WideShapes.sorted_perm (l.map (fun p=>((Lit.int .i64 p.1,DataW.nil):Lit×DataW Unit)))).length_eq
   simpa [Maps.size] using this
 · rw [hrg]
   have:=(Go.WideShapes.sorted_perm (l.map (fun p=>((Lit.int .i64 p.1,DataW.nil):Lit×DataW Unit)))).map (fun p=>Go.intOf p.1)
   simpa [intKeys,List.map_map,Function.comp_def,Go.intOf] using this
def sortedKeys (l:List (Int×Int)):List Int:=(l.map (·.1)).mergeSort (fun x y=>decide (x≤y))
theorem sorted_ok (w:World) (Bm b:Nat) (l:List (Int×Int)) (hBm:w.heap[Bm]? = some (.cells #[.map (some b)] 160 (0,0))) (h:MapAt w b l) (hn:(l.map (·.1)).Nodup) (hk:∀ p∈l,-9223372036854775808≤p.1∧p.1≤9223372036854775807) (hl:l.length≤1048576) :
   CallsR Tryz.prog 167 [.func (.func 173) #[] #[.pointer (some ⟨Bm,0,none⟩)]] w fun v w'=>Mod (fun _=>False) w w'∧∃ fp,OwnS w' 3 1 v ((sortedKeys l).map I) (sortedKeys l).length fp∧∀ x,fp=some x→w.heap.size≤x:=by
 obtain ⟨D0,hown,hsz,hperm⟩:=owns_of h hn hk hl
 have hlt:Bm < w.heap.size:=lt_of_heap hBm
 have hcell:w.cell? ⟨Bm,0,none⟩=some (.map (some b)):=by rw [cell_of hBm];rfl
 have hseq:SeqGives Fence.wide 2 Tryz.prog 173 #[.pointer (some ⟨Bm,0,none⟩)] encZ (fun ss=>ss.Perm (intKeys D0)) (Maps.size D0) w:=
   AnyZI.keys_gives (ρ:=Tryz.keysA_ren) { Tryz.keysA with} Fence.wide _ trivial rfl (by omega) Bm b l.length D0 w hlt hcell hown
 have hmax : Maps.size D0 ≤ maxLen := by have : maxLen = 9223372036854775807 := by decide
                                         omega
 have cS:=AnyZI.sorted_in Tryz.sortedA Fence.wide 5 trivial trivial trivial trivial rfl (by omega) (sortsA _) (enters_of Tryz.func172 (by kernel_rfl) rfl) 173 #[.pointer (some ⟨Bm,0,none⟩)] trivial (enters_of Tryz.func173 (by kernel_rfl) rfl) _ _ hmax (by omega) _ hseq
 refine (callsIn_wide.1 cS).mono ?_
 rintro e w' ⟨v,ss,rfl,hS,hrow,hnil,hb⟩
 have hm:Mod (fun _=>False) w w':=⟨hb.size,fun i hi _=>hb.block i hi,hb.os,hb.tape,hb.output⟩
 have hss:ss.mergeSort (fun x y=>decide (x≤y))=sortedKeys l:=mergeSort_of_perm_i (hS.trans hperm)
 have hlen:ss.length=(sortedKeys l).length:=by rw [← hss,List.length_mergeSort]
 rw [hss,hlen] at hrow
 have henc:((sortedKeys l).map encZ:List Value)=(sortedKeys l).map I:=rfl
 rw [henc] at hrow
 obtain ⟨h1,h2⟩:=hrow
 rcases h2 with ⟨rfl,h2⟩ | ⟨g,cap,cur,rfl,hg,hh,r1,r2,r3,r4⟩
 · exact ⟨_,rfl,hm,none,⟨h1,.inl ⟨rfl,h2,rfl⟩⟩,fun x hx=>by cases hx⟩
 · refine ⟨_,rfl,hm,some g,⟨h1,.inr ⟨g,cap,cur.toList.drop ((sortedKeys l).length*1),rfl,rfl,?_,?_,r1⟩⟩,fun x hx=>by cases hx;exact hg⟩
   · rw [← r4,List.take_append_drop];exact hh
   · rw [← r4,List.take_append_drop];simpa using Nat.le_of_eq r3.symm
end
section
open Go Go.W
structure Nd where
 kind:Int
 num:Int
 args:List Int
def mayB (k n:Int) (a:Nat):Bool:=
 decide ((k=1∧a=0 ∧ -4611686018427387904≤n∧n≤4611686018427387903)∨(k=2∧a≤8∧0≤n)∨(k=3∧a=2∧n=0)∨((k=4∨k=8)∧a=0∧0≤n) ∨
   (k=5∧a=1∧n=0)∨((k=6∨k=7)∧a=0∧n=0))
def Nd.may (n:Nd):Bool:=mayB n.kind n.num n.args.length
def okPl (len:Nat) (l:List Int):Bool:=l.all fun x=>decide (0≤x)&&decide (x < len)
def nc (p:Nd×Value):List Value:=[I p.1.kind,I p.1.num,p.2]
def flat (ps:List (Nd×Value)):List Value:=ps.flatMap nc
theorem flat_len (ps:List (Nd×Value)):(flat ps).length=ps.length*3:=by
 induction ps with
 | nil=>rfl
 | cons p ps ih=>simp only [flat,List.flatMap_cons,List.length_append] at *;simp only [nc,List.length_cons,List.length_nil] at *;omega
theorem flat_app (ps qs:List (Nd×Value)):flat (ps++qs)=flat ps++flat qs:=by simp [flat]
theorem flat_take_drop (ps:List (Nd×Value)) (i:Nat) (h:i < ps.length):((flat ps).drop (i*3)).take 3=nc ps[i]:=by
 have h1:ps=ps.take i++ps[i]::ps.drop (i+1):=by simp
 have h2:flat ps=flat (ps.take i)++(nc ps[i]++flat (ps.drop (i+1))):=by
   conv=>lhs;rw [h1]
   rw [flat_app];rfl
 have h3:(flat (ps.take i)).length=i*3:=by rw [flat_len];simp;omega
 rw [h2,← h3,List.drop_left]
 exact List.take_left' rfl
theorem flat_at (ps:List (Nd×Value)) (i k:Nat) (h:i < ps.length) (hk:k < 3):(flat ps)[i*3+k]? = (nc ps[i])[k]?:=by
 rw [← flat_take_drop ps i h,List.getElem?_take,if_pos hk,List.getElem?_drop]
theorem flat_set (ps:List (Nd×Value)) (i:Nat) (q:Nd×Value) (h:i < ps.length) (sp':List Value) :
   sp (flat ps++sp').toArray (i*3) (nc q)=(flat (ps.set i q)++sp').toArray:=by
 have h1:ps=ps.take i++ps[i]::ps.drop (i+1):=by simp
 have h2:flat ps=flat (ps.take i)++(nc ps[i]++flat (ps.drop (i+1))):=by
   conv=>lhs;rw [h1]
   rw [flat_app];rfl
 have h3:(flat (ps.take i)).length=i*3:=by rw [flat_len];simp;omega
 have h4:flat (ps.set i q)=flat (ps.take i)++(nc q++flat (ps.drop (i+1))):=by
   rw [List.set_eq_take_append_cons_drop,if_pos h,flat_app];rfl
 unfold sp
 rw [h2,h4]
 congr 1
 simp only [List.append_assoc]
 rw [← h3,List.take_left]
 congr 2
 have h5:(flat (ps.take i)++(nc ps[i]++(flat (ps.drop (i+1))++sp'))).drop ((flat (ps.take i)).length+(nc q).length)=flat (ps.drop (i+1))++sp':=by
   rw [← List.drop_drop,List.drop_left]
   exact List.drop_left' rfl
 exact h5
def Args (w:World) (ps:List (Nd×Value)) (F:Nat→Prop):Prop:=
 ∀ p∈ps,∃ fp,OwnS w 3 1 p.2 (p.1.args.map I) p.1.args.length fp∧∀ b,fp=some b→F b
theorem Args.mod {w w':World} {ps:List (Nd×Value)} {F S:Nat→Prop} (h:Args w ps F) (hm:Mod S w w') (hd:∀ b,F b→¬ S b):Args w' ps F:=by
 intro p hp
 obtain ⟨fp,h1,h2⟩:=h p hp
 exact ⟨fp,h1.mod hm (fun b hb=>hd b (h2 b hb)),h2⟩
theorem Args.weak {w:World} {ps:List (Nd×Value)} {F F':Nat→Prop} (h:Args w ps F) (hf:∀ b,F b→F' b):Args w ps F':=by
 intro p hp
 obtain ⟨fp,h1,h2⟩:=h p hp
 exact ⟨fp,h1,fun b hb=>hf b (h2 b hb)⟩
theorem may_ok (k n:Int) (v:Value) (xs:List Int) (w:World) (hx:Ints w v xs) :
   CallsR Tryz.prog 204 [.agg #[I k,I n,v]] w fun r w'=>r = .bool (mayB k n xs.length)∧Mod (fun _=>False) w w':=by
 obtain ⟨a,c,rfl,hl,_⟩:=hx
 refine fit204.calls rfl ?_
 unfold ir204
 (try simp only [go_sem,simprocAttr])
 refine e_bx rfl ?_
 intro w1 hb hm _
 have hlt:=lt_of_heap hb
 (try simp only [go_sem,simprocAttr,cell_of hb])
 repeat' (first | (refine ir_cond rfl (fun h=>?_) (fun h=>?_)<;>(try simp only [go_sem,simprocAttr,cell_of hb,h])) | (refine wpS_gr rfl (fun h=>?_) (fun h=>?_)<;>(try simp only [go_sem,simprocAttr,cell_of hb,h])))
 all_goals (refine ⟨?_,hm⟩;congr 1;rw [Bool.eq_iff_iff];unfold mayB;simp only [zb1,zb2,zb3,zb4,zb5] at *;omega)
def NewInts (w w':World) (r:Value) (xs:List Int):Prop:=
 ∃ b,r = .slice (some ⟨b,0,none⟩) xs.length xs.length∧w'.heap[b]? = some (.cells (xs.map I).toArray 3 (0,0))∧w.heap.size≤b∧Mod (fun _=>False) w w'
theorem copied_ok (v:Value) (xs:List Int) (w:World) (hx:Ints w v xs) :
   CallsR Tryz.prog 208 [v] w fun r w'=>NewInts w w' r xs:=by
 have hx':=hx
 obtain ⟨a,c,rfl,hl,_⟩:=hx
 refine fit208.calls rfl ?_
 unfold ir208
 (try simp only [go_sem,simprocAttr])
 refine e_ms1 (n:=xs.length) rfl (by omega) (by omega) ?_
 intro w1 hb1 hm1 hs1
 obtain ⟨_,hr,hn⟩:=(hx'.mod hm1 (fun _ _ h=>h)).rd
 (try simp only [go_sem,simprocAttr])
 refine e_cp (cs:=List.replicate xs.length (I 0)) rfl rfl hn (Nat.le_refl _) hr (oneI xs) hb1 (by simp) ?_
 intro w2 hb2 hm2 hs2
 (try simp only [go_sem,simprocAttr])
 exact ⟨_,rfl,by simpa using hb2,Nat.le_refl _,hm1.step hm2 (fun i hi hlt=>by omega)⟩
def HasNodes (w:World) (a:Nat) (n:Nat):Prop:=∃ T sz ba c col,w.heap[a]? = some (.cells #[sz,.slice ba n c,col] T (0,0))
theorem places_ok (a n:Nat) (l:Value) (xs:List Int) (w:World) (ha:HasNodes w a n) (hx:Ints w l xs) :
   CallsR Tryz.prog 205 [.pointer (some ⟨a,0,none⟩),l] w fun v w'=>v = .bool (okPl n xs)∧w=w':=by
 obtain ⟨T,sz,ba,c,col,ha⟩:=ha
 obtain ⟨la,lc,rfl,hl,hx⟩:=hx
 refine fit205.calls rfl ?_
 unfold ir205
 (try simp only [go_sem,simprocAttr])
 refine ir_loop (fun m ρ w'=>∃ k:Nat,m=xs.length - k∧k≤xs.length∧w'=w∧okPl n (xs.take k)=true ∧
   ρ=[(0,.pointer (some ⟨a,0,none⟩)),(7,.slice la xs.length lc),(8,.int .i64 xs.length),(9,.int .i64 k)]) xs.length ⟨0,rfl,by omega,rfl,by simp [okPl],rfl⟩ ?_
 rintro m ρ _ ⟨k,rfl,hk,rfl,hall,rfl⟩
 unfold ir205L1
 (try simp only [go_sem,simprocAttr])
 refine ir_cond rfl (fun h=>?_) (fun h=>?_)
 · have hlt:k < xs.length:=by simpa using h
   obtain ⟨ad,rfl,hc⟩:=hx k hlt
   have c1:(0:Int)≤k∧(k:Int) < xs.length:=by omega
   (try simp only [go_sem,simprocAttr,c1,hc,and_self,Int.toNat_natCast,Nat.mul_one])
   refine wpS_gr rfl (fun hg=>?_) (fun hg=>?_)
   · (try simp only [go_sem,simprocAttr,hg])
     rw [okPl,List.all_eq_false.2 ⟨xs[k],List.getElem_mem _,by simp at hg;simp;omega⟩]
   · (try simp only [go_sem,simprocAttr,hg,cell_of ha])
     refine ir_cond rfl (fun h2=>?_) (fun h2=>?_)
     · (try simp only [go_sem,simprocAttr])
       rw [okPl,List.all_eq_false.2 ⟨xs[k],List.getElem_mem _,by simp at h2;simp;omega⟩]
     · have hw:IntKind.i64.wrap ((k:Int)+1)=((k+1:Nat):Int):=by rw [wrap_in]<;>omega
       (try simp only [go_sem,simprocAttr,hw])
       refine ⟨_,?_,k+1,rfl,hlt,?_,rfl⟩
       · omega
       · unfold okPl at hall ⊢
         rw [List.take_succ_eq_append_getElem hlt,List.all_append,hall]
         simp at hg h2;simp;omega
 · have hk':k=xs.length:=by simp at h;omega
   subst hk'
   (try simp only [go_sem,simprocAttr])
   rw [List.take_length] at hall
   rw [hall]
theorem cellOf_ok (k n:Int) (v:Value) (xs:List Int) (w:World) (hx0:Ints w v xs) :
   CallsR Tryz.prog 206 [.agg #[I k,I n,v]] w fun r w'=>∃ b,r = .agg #[I k,I n,.slice (some ⟨b,0,none⟩) xs.length xs.length] ∧
     w'.heap[b]? = some (.cells (xs.map I).toArray 3 (0,0))∧w.heap.size≤b∧Mod (fun _=>False) w w':=by
 have hx:=hx0
 obtain ⟨a,c,rfl,hl,_⟩:=hx0
 refine fit206.calls rfl ?_
 unfold ir206
 (try simp only [go_sem,simprocAttr])
 refine e_bx rfl ?_
 intro w1 hb1 hm1 hs1
 (try simp only [go_sem,simprocAttr])
 refine e_al ?_
 intro w2 hb2 hm2 hs2
 have hb1':=hm2.at hb1 (fun h=>h)
 (try simp only [go_sem,simprocAttr,cell_of hb1'])
 have hx2:Ints w2.drew (.slice a xs.length c) xs:=(hx.mod (hm1.trans hm2.drew) (fun _ _ h=>h))
 refine e_call (by rfl) ?_
 refine (copied_ok _ xs _ hx2).mono ?_
 rintro r w3 ⟨b,rfl,hb3,hge,hm3⟩
 have hm3:=hm3.of_drew
 have hlt:=lt_of_heap hb1'
 (try simp only [go_sem,simprocAttr])
 refine ⟨hm3.old _ hlt (fun h=>h),?_⟩
 have hb2':=hm3.at hb2 (fun h=>h)
 have hge:w2.heap.size≤b:=hge
 refine e_sta rfl rfl hb2' rfl rfl (by simp [Value.oneCell']) ?_
 intro w4 hb4 hm4 hs4
 have hl2:=lt_of_heap hb2
 (try simp only [go_sem,simprocAttr,ln_of hb4 (off:=0) (n:=3) (by simp)])
 exact ⟨b,rfl,hm4.at hb3 (by omega),by omega,((hm1.trans hm2).trans hm3).step hm4 (fun i hi hlt=>by omega)⟩
theorem Args.mod' {w w':World} {ps:List (Nd×Value)} {F S:Nat→Prop} (h:Args w ps F) (hm:Mod S w w') (hs:∀ b cs fz,S b→w.heap[b]? = some (.cells cs 3 fz)→False):Args w' ps F:=by
 intro p hp
 obtain ⟨fp,h1,h2⟩:=h p hp
 exact ⟨fp,h1.mod' hm hs,h2⟩
theorem Args.app {w:World} {ps qs:List (Nd×Value)} {F:Nat→Prop} (h:Args w ps F) (k:Args w qs F):Args w (ps++qs) F:=by
 intro p hp
 rcases List.mem_append.1 hp with hp | hp
 · exact h p hp
 · exact k p hp
def ArenaAt (Ta Tc:Nat) (w:World) (a:Nat) (size times:Int) (ns:List Nd) (F:Nat→Prop):Prop:=
 ∃ cv fpc ps,w.heap[a]? = some (.cells #[I size,cv,I times] Ta (0,0))∧F a∧OwnS w Tc 3 cv (flat ps) ns.length fpc∧(∀ b,fpc=some b→F b)∧Args w ps F∧ps.map Prod.fst=ns∧(∀ b,F b→b < w.heap.size)
theorem ArenaAt.mod {Ta Tc:Nat} {w w':World} {a:Nat} {size times:Int} {ns:List Nd} {F S:Nat→Prop} (h:ArenaAt Ta Tc w a size times ns F) (hm:Mod S w w') (hd:∀ b,F b→¬ S b) :
   ArenaAt Ta Tc w' a size times ns F:=by
 obtain ⟨cv,fpc,ps,h1,h2,h3,h4,h5,h6,h7⟩:=h
 exact ⟨cv,fpc,ps,hm.at h1 (hd a h2),h2,h3.mod hm (fun b hb=>hd b (h4 b hb)),h4,h5.mod hm hd,h6,fun b hb=>Nat.lt_of_lt_of_le (h7 b hb) hm.size⟩
def Grow (F F':Nat→Prop) (w w':World):Prop:=Mod F w w'∧∀ b,F' b→F b∨w.heap.size≤b
theorem ArenaAt.has {Ta Tc:Nat} {w:World} {a:Nat} {size times:Int} {ns:List Nd} {F:Nat→Prop} (h:ArenaAt Ta Tc w a size times ns F):HasNodes w a ns.length:=by
 obtain ⟨cv,fpc,ps,h1,h2,h3,h4,h5,h6,h7⟩:=h
 obtain ⟨x,c,rfl,_⟩:=h3.val
 exact ⟨Ta,_,x,c,_,h1⟩
theorem used_ok (a:Nat) (size times:Int) (ns:List Nd) (F:Nat→Prop) (w:World) (h:ArenaAt 165 235 w a size times ns F) :
   CallsR Tryz.prog 203 [.pointer (some ⟨a,0,none⟩)] w fun r w'=>r=I ns.length∧w=w':=by
 obtain ⟨T,sz,x,c,col,h1⟩:=h.has
 refine fit203.calls rfl ?_
 unfold ir203
 (try simp only [go_sem,simprocAttr,cell_of h1])
theorem new_ok (size:Int) (w:World) :
   CallsR Tryz.prog 62 [I size] w fun r w'=>(1≤size∧size≤1048576→r = .tuple #[.pointer (some ⟨w.heap.size,0,none⟩),I 0]∧ArenaAt 165 235 w' w.heap.size size 0 [] (· = w.heap.size)∧Mod (fun _=>False) w w'∧w'.heap.size=w.heap.size+1) ∧
     (¬ (1≤size∧size≤1048576)→r = .tuple #[.pointer none,I 200]∧w=w'):=by
 refine fit62.calls rfl ?_
 unfold ir62
 (try simp only [go_sem,simprocAttr])
 refine wpS_gr rfl (fun h=>?_) (fun h=>?_)
 · (try simp only [go_sem,simprocAttr,h])
   have h':size < 1:=by simpa using h
   exact ⟨fun hh=>by omega,fun _=>trivial⟩
 · (try simp only [go_sem,simprocAttr,h])
   have h':¬ size < 1:=by simpa using h
   refine ir_cond rfl (fun h2=>?_) (fun h2=>?_)
   · (try simp only [go_sem,simprocAttr])
     have h2':size > 1048576:=by simpa using h2
     exact ⟨fun hh=>by omega,fun _=>trivial⟩
   · (try simp only [go_sem,simprocAttr])
     have h2':¬ size > 1048576:=by simpa using h2
     refine e_bx rfl ?_
     intro w1 hb1 hm1 hs1
     (try simp only [go_sem,simprocAttr])
     refine ⟨fun _=>⟨⟨_,none,[],hb1,rfl,OwnS.nil w1 235 3,(fun b h=>by cases h),(fun p hp=>by cases hp),rfl,(fun b hb=>by omega)⟩,hm1,hs1⟩,fun hh=>by omega⟩
def addS (size:Int) (ns:List Nd) (nd:Nd):Int×Int×List Nd:=
 if nd.may=false then (0,1,ns) else if okPl ns.length nd.args=false then (0,202,ns) else if (ns.length:Int)=size then (0,201,ns) else (ns.length,0,ns++[nd])
def AddPost (Ta Tc:Nat) (a:Nat) (size times:Int) (F:Nat→Prop) (w:World) (s:Int×Int×List Nd) (r:Value) (w':World):Prop:=
 r = .tuple #[I s.1,I s.2.1]∧∃ F',ArenaAt Ta Tc w' a size times s.2.2 F'∧Grow F F' w w'
theorem flat_one (p:Nd×Value):flat [p]=nc p:=by simp [flat]
theorem add_ok (a:Nat) (size times:Int) (ns:List Nd) (nd:Nd) (v:Value) (F:Nat→Prop) (w:World) (h:ArenaAt 165 235 w a size times ns F) (hle:(ns.length:Int)≤size) (hsz:size≤1048576) (hx0:Ints w v nd.args) :
   CallsR Tryz.prog 197 [.pointer (some ⟨a,0,none⟩),.agg #[I nd.kind,I nd.num,v]] w (AddPost 165 235 a size times F w (addS size ns nd)):=by
 have hx:=hx0
 obtain ⟨va,vc,rfl,hl,_⟩:=hx0
 refine fit197.calls rfl ?_
 unfold ir197
 (try simp only [go_sem,simprocAttr])
 refine e_bx rfl ?_
 intro w1 hb1 hm1 hs1
 have h1:=h.mod hm1 (fun _ _ h=>h)
 have hx1:=hx.mod hm1 (fun _ _ h=>h)
 have hd:vLN w1 3 (.pointer (some ⟨w.heap.size,0,none⟩))=some (.agg #[I nd.kind,I nd.num,.slice va nd.args.length vc]):=ln_of hb1 (off:=0) (n:=3) (by simp)
 have same:∀ w2,Mod (fun _=>False) w1 w2→∃ F',ArenaAt 165 235 w2 a size times ns F'∧Grow F F' w w2:=fun w2 hm2=>
   ⟨F,h1.mod hm2 (fun _ _ h=>h),(hm1.trans hm2).weak (fun _ h=>h.elim),fun b hb=>.inl hb⟩
 (try simp only [go_sem,simprocAttr,hd])
 refine e_call (by rfl) ?_
 refine (may_ok nd.kind nd.num _ nd.args w1 hx1).mono ?_
 rintro r w2 ⟨rfl,hm2⟩
 have hb2:=hm2.at hb1 (fun h=>h)
 (try simp only [go_sem,simprocAttr])
 refine ir_cond rfl (fun hc=>?_) (fun hc=>?_)
 · (try simp only [go_sem,simprocAttr])
   have hc':nd.may=false:=by simpa [Nd.may] using hc
   exact ⟨by simp [addS,hc'],by simpa [addS,hc'] using same w2 hm2⟩
 have hc1:nd.may=true:=by simpa [Nd.may] using hc
 have hx2:=hx1.mod hm2 (fun _ _ h=>h)
 have h2:=h1.mod hm2 (fun _ _ h=>h)
 (try simp only [go_sem,simprocAttr,cell_of hb2])
 refine e_call (by rfl) ?_
 refine (places_ok a ns.length _ nd.args w2 h2.has hx2).mono ?_
 rintro r _ ⟨rfl,rfl⟩
 (try simp only [go_sem,simprocAttr])
 refine ir_cond rfl (fun hc=>?_) (fun hc=>?_)
 · (try simp only [go_sem,simprocAttr])
   have hc':okPl ns.length nd.args=false:=by simpa using hc
   exact ⟨by simp [addS,hc',hc1],by simpa [addS,hc',hc1] using same w2 hm2⟩
 have hc2:okPl ns.length nd.args=true:=by simpa using hc
 obtain ⟨cv,fpc,ps,g1,g2,g3,g4,g5,g6,g7⟩:=h2
 obtain ⟨ca,cc,rfl,hcc,hca⟩:=g3.val
 (try simp only [go_sem,simprocAttr,cell_of g1])
 refine ir_cond rfl (fun hc=>?_) (fun hc=>?_)
 · (try simp only [go_sem,simprocAttr])
   have hc':(ns.length:Int)=size:=by simpa using hc
   exact ⟨by simp [addS,hc',hc1,hc2],by simpa [addS,hc',hc1,hc2] using same w2.drew hm2.drew⟩
 have hc3:¬ (ns.length:Int)=size:=by simpa using hc
 have hd2:vLN w2.drew.drew 3 (.pointer (some ⟨w.heap.size,0,none⟩))=some (.agg #[I nd.kind,I nd.num,.slice va nd.args.length vc]):=ln_of (w:=w2.drew.drew) hb2 (off:=0) (n:=3) (by simp)
 (try simp only [go_sem,simprocAttr,cell_of g1,hd2])
 refine e_call (by rfl) ?_
 refine (cellOf_ok nd.kind nd.num _ nd.args w2.drew.drew hx2).mono ?_
 rintro r w3 ⟨b3,rfl,hb3,hge3,hm3⟩
 have hm3:Mod (fun _=>False) w2 w3:=hm3.of_drew.of_drew
 have hge3:w2.heap.size≤b3:=hge3
 have ga:=hm3.at g1 (fun h=>h)
 have gc:=g3.mod hm3 (fun _ _ h=>h)
 (try simp only [go_sem,simprocAttr])
 refine ⟨hm3.old _ (lt_of_heap g1) (fun h=>h),?_⟩
 refine e_bs (by rfl) (by (try simp only [go_sem,simprocAttr]);rfl) ?_
 intro w4 hb4 hm4 hs4
 (try simp only [go_sem,simprocAttr])
 refine ⟨hm4.old _ (lt_of_heap ga) (fun h=>h),?_⟩
 have ga4:=hm4.at ga (fun h=>h)
 have gc4:=gc.mod hm4 (fun _ _ h=>h)
 have hb4':=hm4.at hb3 (fun h=>h)
 refine e_ap (m:=1) (news:=nc (nd,.slice (some ⟨b3,0,none⟩) nd.args.length nd.args.length)) rfl gc4 rfl (fun h=>by cases h) (rd_block hb4) (by simp [nc,Value.oneCell']) rfl (by omega) (by omega) ?_
 intro v5 w5 fp5 ho5 hm5 hf5
 have hne:fpc≠some a:=own_ne gc4 ga4 (by omega)
 have ga5:=hm5.at ga4 hne
 have hne3:fpc≠some b3:=own_ne gc4 hb4' (by omega)
 have hb5':=hm5.at hb4' hne3
 obtain ⟨va5,vc5,rfl,_⟩:=ho5.val
 (try simp only [go_sem,simprocAttr])
 refine e_st1 (off:=1) rfl rfl ga5 rfl (by simp) ?_
 intro w6 hb6 hm6 hs6
 have hw:IntKind.i64.wrap (((ns.length+1:Nat):Int) - 1)=ns.length:=by rw [wrap_in]<;>omega
 (try simp only [go_sem,simprocAttr,cell_of hb6,hw])
 have la:=lt_of_heap g1
 have hall:Mod F w w6:=(((((hm1.weak (fun _ h=>h.elim)).step hm2 (fun _ h _=>h.elim)).step hm3 (fun _ h _=>h.elim)).step hm4 (fun _ h _=>h.elim)).step hm5 (fun i h _=>g4 i h)).step hm6 (fun i h _=>h ▸ g2)
 have hadd:addS size ns nd=((ns.length:Int),0,ns++[nd]):=by simp [addS,hc1,hc2,hc3]
 refine ⟨by rw [hadd],fun b=>F b∨b=b3∨fp5=some b,?_,hall,?_⟩
 · rw [hadd]
   have hn5:fp5≠some a:=own_ne ho5 ga5 (by omega)
   refine ⟨_,fp5,ps++[(nd,.slice (some ⟨b3,0,none⟩) nd.args.length nd.args.length)],hb6,.inl g2,?_,fun b hb=>.inr (.inr hb),?_,?_,?_⟩
   · rw [flat_app,flat_one]
     simpa using ho5.mod hm6 (fun b hb hh=>hn5 (by rw [hb,hh]))
   · have e1:=((g5.mod' (hm3.trans hm4) (fun _ _ _ h _=>h)).mod' hm5 (fun b cs fz hb hc=>own_kind gc4 hb hc (by omega))).mod' hm6 (fun b cs fz hb hc=>kind_ne ga5 (hb ▸ hc) (by omega))
     refine (e1.weak (fun b hb=>.inl hb)).app ?_
     intro p hp
     simp only [List.mem_cons,List.not_mem_nil,or_false] at hp;subst hp
     refine ⟨some b3,OwnS.of_block (hm6.at hb5' (fun hh=>kind_ne hb5' (hh ▸ ga5) (by omega))) (by simp),fun b hb=>.inr (.inl (by cases hb;rfl))⟩
   · simp [g6]
   · intro b hb
     have:=hm3.size;have:=hm4.size;have:=hm5.size;have:=hm6.size;have:=lt_of_heap hb3
     rcases hb with hb | hb | hb
     · have:=g7 b hb;omega
     · omega
     · have:=ho5.lt hb;omega
 · intro b hb
   have:=hm1.size;have:=hm2.size;have:=hm3.size;have:=hm4.size
   rcases hb with hb | hb | hb
   · exact .inl hb
   · exact .inr (by omega)
   · rcases hf5 b hb with hh | hh
     · exact .inl (g4 b hh)
     · exact .inr (by omega)
end
section
open Go Go.W
theorem ints_block {w:World} {b T:Nat} {xs:List Int} (h:w.heap[b]? = some (.cells (xs.map I).toArray T (0,0))) (hl:xs.length≤17592186044416) :
   Ints w (.slice (some ⟨b,0,none⟩) xs.length xs.length) xs:=by
 refine ⟨some ⟨b,0,none⟩,xs.length,rfl,hl,fun i hi=>⟨_,rfl,?_⟩⟩
 rw [add_at,cell_of h]
 simp [hi]
theorem okPl_one (n:Nat) (x:Int):okPl n [x]=decide (0≤x∧x < n):=by
 simp [okPl]
def NewOwn (w w':World) (v:Value) (xs:List Int):Prop:=∃ fp,OwnS w' 3 1 v (xs.map I) xs.length fp∧∀ b,fp=some b→w.heap.size≤b
def GetPost (w:World) (ns:List Nd) (at':Int) (r:Value) (w':World):Prop:=
 Mod (fun _=>False) w w'∧(∀ i nd,at'=(i:Nat)→ns[i]? = some nd→∃ v,r = .tuple #[.agg #[I nd.kind,I nd.num,v],I 0]∧NewOwn w w' v nd.args) ∧
   (¬ (0≤at'∧at' < ns.length)→r = .tuple #[.agg #[I 0,I 0,.slice none 0 0],I 202])
theorem node_ln {w:World} {b T:Nat} {ps:List (Nd×Value)} {sp':List Value} (h:w.heap[b]? = some (.cells (flat ps++sp').toArray T (0,0))) {i:Nat} (hi:i < ps.length) :
   vLN w 3 (.pointer (some ⟨b,i*3,none⟩))=some (.agg #[I ps[i].1.kind,I ps[i].1.num,ps[i].2]):=by
 have hlen:=flat_len ps
 rw [ln_of h (off:=i*3) (n:=3) (by simp;omega)]
 rw [List.drop_append_of_le_length (by omega),List.take_append_of_le_length (by simp;omega),flat_take_drop ps i hi]
 rfl
theorem node_cell {w:World} {b T:Nat} {ps:List (Nd×Value)} {sp':List Value} (h:w.heap[b]? = some (.cells (flat ps++sp').toArray T (0,0))) {i k:Nat} (hi:i < ps.length) (hk:k < 3) :
   w.cell? ⟨b,i*3+k,none⟩=(nc ps[i])[k]?:=by
 have hlen:=flat_len ps
 rw [cell_of h,← flat_at ps i k hi hk]
 simp only [List.getElem?_toArray]
 rw [List.getElem?_append_left (by omega)]
theorem Args.at {w:World} {ps:List (Nd×Value)} {F:Nat→Prop} (h:Args w ps F) {i:Nat} (hi:i < ps.length) (hl:ps[i].1.args.length≤17592186044416):Ints w ps[i].2 ps[i].1.args:=by
 obtain ⟨fp,h1,_⟩:=h _ (List.getElem_mem hi)
 exact (h1.ints hl).1
theorem get_ok (a:Nat) (size times:Int) (ns:List Nd) (at':Int) (F:Nat→Prop) (w:World) (h:ArenaAt 165 235 w a size times ns F) (hlen:ns.length≤1048576) (hargs:∀ nd∈ns,nd.args.length≤8) :
   CallsR Tryz.prog 200 [.pointer (some ⟨a,0,none⟩),I at'] w (GetPost w ns at'):=by
 refine fit200.calls rfl ?_
 unfold ir200
 (try simp only [go_sem,simprocAttr])
 refine e_al ?_
 intro w1 hb1 hm1 hs1
 (try simp only [go_sem,simprocAttr])
 refine e_bs (by rfl) (by (try simp only [go_sem,simprocAttr]);rfl) ?_
 intro w2 hb2 hm2 hs2
 have hm12:=hm1.trans hm2
 have h2:=h.mod hm12 (fun _ _ h=>h)
 have hx:Ints w2 (.slice (some ⟨w1.heap.size,0,none⟩) 1 1) [at']:=ints_block (xs:=[at']) hb2 (by simp)
 (try simp only [go_sem,simprocAttr])
 refine e_call (by rfl) ?_
 refine (places_ok a ns.length _ [at'] w2 h2.has hx).mono ?_
 rintro r _ ⟨rfl,rfl⟩
 rw [okPl_one]
 have hb1':=hm2.at hb1 (fun h=>h)
 (try simp only [go_sem,simprocAttr])
 refine ir_cond rfl (fun hc=>?_) (fun hc=>?_)
 · have hc':¬ (0≤at'∧at' < ns.length):=by simp at hc;omega
   (try simp only [go_sem,simprocAttr])
   refine e_sta rfl rfl hb1' rfl rfl (by simp [Value.oneCell']) ?_
   intro w3 hb3 hm3 hs3
   (try simp only [go_sem,simprocAttr,ln_of hb3 (off:=0) (n:=3) (by simp)])
   refine ⟨hm12.step hm3 (fun i hi hlt=>by omega),fun i nd he hn=>?_,fun _=>rfl⟩
   exact absurd ⟨by omega,by have:=(List.getElem?_eq_some_iff.1 hn).1;omega⟩ hc'
 · have hc':0≤at'∧at' < ns.length:=by simpa using hc
   obtain ⟨i,rfl⟩:∃ i:Nat,at'=i:=⟨at'.toNat,by omega⟩
   have hi:i < ns.length:=by omega
   obtain ⟨cv,fpc,ps,g1,g2,g3,g4,g5,g6,g7⟩:=h2
   have hps:ps.length=ns.length:=by rw [← g6];simp
   obtain ⟨bc,cc,spc,rfl,rfl,gc,hcc,hcap⟩:=g3.pos (by omega)
   have hi':i < ps.length:=by omega
   have hnd:ps[i].1=ns[i]:=by simp [← g6]
   (try simp only [go_sem,simprocAttr,cell_of g1,hc',Int.toNat_natCast,node_ln gc hi'])
   refine e_al ?_
   intro w3 hb3 hm3 hs3
   (try simp only [go_sem,simprocAttr])
   have hav:=g5.at hi' (by rw [hnd];have:=hargs ns[i] (List.getElem_mem hi);omega)
   obtain ⟨xa,xc,hav1,_,_⟩:=id hav
   rw [hav1]
   refine e_sta rfl rfl hb3 rfl rfl (by simp [Value.oneCell']) ?_
   intro w4 hb4 hm4 hs4
   have hx4:Ints w4 (.slice xa ps[i].1.args.length xc) ps[i].1.args:=by
     rw [hav1] at hav
     refine (hav.mod hm3 (fun _ _ h=>h)).mod hm4 (fun b hb hh=>?_)
     obtain ⟨fp,k1,k2⟩:=g5 _ (List.getElem_mem hi')
     rw [hav1] at k1
     rcases k1.2 with ⟨k3,_,_⟩ | ⟨b',c',sp',k3,k4,k5,_⟩
     · simp only [Value.slice.injEq] at k3;obtain ⟨rfl,_⟩:=k3;simp [vblk] at hb
     · simp only [Value.slice.injEq] at k3;obtain ⟨rfl,_⟩:=k3
       simp only [vblk,Option.some.injEq] at hb;subst hb
       have:=lt_of_heap k5
       omega
   (try simp only [go_sem,simprocAttr,cell_of hb4])
   refine e_call (by rfl) ?_
   refine (copied_ok _ _ w4.drew hx4).mono ?_
   rintro r w5 ⟨b5,rfl,hb5,hge5,hm5⟩
   have hm5:=hm5.of_drew
   have hge5:w4.heap.size≤b5:=hge5
   (try simp only [go_sem,simprocAttr])
   refine ⟨hm5.old _ (lt_of_heap hb4) (fun h=>h),?_⟩
   have hb6:=hm5.at (hm4.at (hm3.at hb1' (fun h=>h)) (by have:=lt_of_heap hb1';omega)) (fun h=>h)
   refine e_sta rfl rfl hb6 rfl rfl (by simp [Value.oneCell']) ?_
   intro w6 hb7 hm6 hs6
   (try simp only [go_sem,simprocAttr,ln_of hb7 (off:=0) (n:=3) (by simp)])
   have l1:=lt_of_heap hb1'
   refine ⟨(((hm12.step hm3 (fun _ h _=>h)).step hm4 (fun j hj hlt=>by omega)).step hm5 (fun _ h _=>h)).step hm6 (fun j hj hlt=>by omega),fun j nd he hn=>?_,fun hh=>absurd hc' hh⟩
   obtain rfl:i=j:=by omega
   have e1:nd=ps[i].1:=by
     rw [hnd];rw [List.getElem?_eq_getElem hi] at hn;exact (Option.some.inj hn).symm
   subst e1
   refine ⟨_,rfl,some b5,OwnS.of_block (hm6.at hb5 (by omega)) (by simp),fun b hb=>by cases hb;have:=hm12.size;omega⟩
def setS (ns:List Nd) (at':Int) (nd:Nd):Int×List Nd:=
 if ¬ (0≤at'∧at' < ns.length) then (202,ns) else if nd.may=false then (1,ns) else if okPl ns.length nd.args=false then (202,ns) else (0,ns.set at'.toNat nd)
def SetPost (Ta Tc:Nat) (a:Nat) (size times:Int) (F:Nat→Prop) (w:World) (s:Int×List Nd) (r:Value) (w':World):Prop:=
 r=I s.1∧∃ F',ArenaAt Ta Tc w' a size times s.2 F'∧Grow F F' w w'
theorem set_self (ns:List Nd) (i:Nat) (nd:Nd) (hi:i < ns.length) (h:ns[i]=nd):ns.set i nd=ns:=by
 subst h;exact List.set_getElem_self hi
theorem set_ok (a:Nat) (size times:Int) (ns:List Nd) (at':Int) (nd:Nd) (v:Value) (F:Nat→Prop) (w:World) (h:ArenaAt 165 235 w a size times ns F) (hlen:ns.length≤1048576)
   (hargs:∀ nd∈ns,nd.args.length≤8) (hx0:Ints w v nd.args) :
   CallsR Tryz.prog 202 [.pointer (some ⟨a,0,none⟩),I at',.agg #[I nd.kind,I nd.num,v]] w (SetPost 165 235 a size times F w (setS ns at' nd)):=by
 have hx:=hx0
 obtain ⟨va,vc,rfl,hl,_⟩:=hx0
 refine fit202.calls rfl ?_
 unfold ir202
 (try simp only [go_sem,simprocAttr])
 refine e_bx rfl ?_
 intro w1 hb1 hm1 hs1
 (try simp only [go_sem,simprocAttr])
 refine e_bs (by rfl) (by (try simp only [go_sem,simprocAttr]);rfl) ?_
 intro w2 hb2 hm2 hs2
 have hm12:=hm1.trans hm2
 have h2:=h.mod hm12 (fun _ _ h=>h)
 have hx1:Ints w2 (.slice (some ⟨w1.heap.size,0,none⟩) 1 1) [at']:=ints_block (xs:=[at']) hb2 (by simp)
 have hx2:=hx.mod hm12 (fun _ _ h=>h)
 have hb1':=hm2.at hb1 (fun h=>h)
 have same:∀ w3,Mod (fun _=>False) w2 w3→∃ F',ArenaAt 165 235 w3 a size times ns F'∧Grow F F' w w3:=fun w3 hm3=>
   ⟨F,h2.mod hm3 (fun _ _ h=>h),(hm12.trans hm3).weak (fun _ h=>h.elim),fun b hb=>.inl hb⟩
 (try simp only [go_sem,simprocAttr])
 refine e_call (by rfl) ?_
 refine (places_ok a ns.length _ [at'] w2 h2.has hx1).mono ?_
 rintro r _ ⟨rfl,rfl⟩
 rw [okPl_one]
 (try simp only [go_sem,simprocAttr])
 refine ir_cond rfl (fun hc=>?_) (fun hc=>?_)
 · have hc':¬ (0≤at'∧at' < ns.length):=by simp at hc;omega
   (try simp only [go_sem,simprocAttr])
   have e:setS ns at' nd=(202,ns):=by unfold setS;rw [if_pos hc']
   rw [e]
   exact ⟨rfl,same w2 (Mod.refl _ _)⟩
 have hc':0≤at'∧at' < ns.length:=by simpa using hc
 obtain ⟨i,rfl⟩:∃ i:Nat,at'=i:=⟨at'.toNat,by omega⟩
 have hi:i < ns.length:=by omega
 have hd:vLN w2 3 (.pointer (some ⟨w.heap.size,0,none⟩))=some (.agg #[I nd.kind,I nd.num,.slice va nd.args.length vc]):=ln_of hb1' (off:=0) (n:=3) (by simp)
 (try simp only [go_sem,simprocAttr,hd])
 refine e_call (by rfl) ?_
 refine (may_ok nd.kind nd.num _ nd.args w2 hx2).mono ?_
 rintro r w3 ⟨rfl,hm3⟩
 have hb3:=hm3.at hb1' (fun h=>h)
 have h3:=h2.mod hm3 (fun _ _ h=>h)
 have hx3:=hx2.mod hm3 (fun _ _ h=>h)
 (try simp only [go_sem,simprocAttr])
 refine ir_cond rfl (fun hm=>?_) (fun hm=>?_)
 · (try simp only [go_sem,simprocAttr])
   have hm':nd.may=false:=by simpa [Nd.may] using hm
   have e:setS ns i nd=(1,ns):=by unfold setS;rw [if_neg (by simpa using hc'),if_pos hm']
   rw [e]
   exact ⟨rfl,same w3 hm3⟩
 have hm1':nd.may=true:=by simpa [Nd.may] using hm
 (try simp only [go_sem,simprocAttr,cell_of hb3])
 refine e_call (by rfl) ?_
 refine (places_ok a ns.length _ nd.args w3 h3.has hx3).mono ?_
 rintro r _ ⟨rfl,rfl⟩
 (try simp only [go_sem,simprocAttr])
 refine ir_cond rfl (fun ho=>?_) (fun ho=>?_)
 · (try simp only [go_sem,simprocAttr])
   have ho':okPl ns.length nd.args=false:=by simpa using ho
   have e:setS ns i nd=(202,ns):=by unfold setS;rw [if_neg (by simpa using hc'),if_neg (by simp [hm1']),if_pos ho']
   rw [e]
   exact ⟨rfl,same w3 hm3⟩
 have ho1:okPl ns.length nd.args=true:=by simpa using ho
 have e:setS ns i nd=(0,ns.set i nd):=by unfold setS;rw [if_neg (by simpa using hc'),if_neg (by simp [hm1']),if_neg (by simp [ho1])];simp
 rw [e]
 obtain ⟨cv,fpc,ps,g1,g2,g3,g4,g5,g6,g7⟩:=h3
 have hps:ps.length=ns.length:=by rw [← g6];simp
 obtain ⟨bc,cc,spc,rfl,rfl,gc,hcc,hcap⟩:=g3.pos (by omega)
 have hi':i < ps.length:=by omega
 have hnd:ps[i].1=ns[i]:=by simp [← g6]
 have hflat:=flat_len ps
 have hav:=g5.at hi' (by rw [hnd];have:=hargs ns[i] (List.getElem_mem hi);omega)
 obtain ⟨xa,xc,hav1,_,_⟩:=id hav
 have c0:w3.cell? ⟨bc,i*3,none⟩=some (I ps[i].1.kind):=by have:=node_cell gc hi' (k:=0) (by omega);simpa [nc] using this
 have c1:w3.cell? ⟨bc,i*3+1,none⟩=some (I ps[i].1.num):=by have:=node_cell gc hi' (k:=1) (by omega);simpa [nc] using this
 have c2:w3.cell? ⟨bc,i*3+2,none⟩=some (.slice xa ps[i].1.args.length xc):=by have:=node_cell gc hi' (k:=2) (by omega);simpa [nc,hav1] using this
 have l2:vLN w3.drew 2 (.pointer (some ⟨bc,i*3,none⟩))=some (.agg #[I ps[i].1.kind,I ps[i].1.num]):=by
   have:=ln_of (w:=w3.drew) gc (off:=i*3) (n:=2) (by simp;omega)
   rw [this,List.drop_append_of_le_length (by omega),List.take_append_of_le_length (by simp;omega)]
   have h3:=flat_take_drop ps i hi'
   have:((flat ps).drop (i*3)).take 2=(nc ps[i]).take 2:=by rw [← h3,List.take_take];rfl
   rw [this]
   rfl
 (try simp only [go_sem,simprocAttr,cell_of hb3])
 refine wpS_cut (fun ρ w'=>w'=w3.drew∧∃ q:Bool,(q=true→ns.set i nd=ns)∧ρ.get 0=some (.pointer (some ⟨a,0,none⟩))∧ρ.get 1=some (I i)∧ρ.get 5=some (.pointer (some ⟨w.heap.size,0,none⟩))∧ρ.get 54=some (.bool q)) ?_ ?_
 · refine wpS_gr rfl (fun hz=>?_) (fun hz=>?_)
   · have hz':nd.args.length=0:=Int.ofNat.inj (eq_of_beq hz)
     (try simp only [go_sem,simprocAttr,cell_of hb3,cell_of g1,hc',Int.toNat_natCast,l2,hz,c2])
     refine wpS_gr rfl (fun ht=>?_) (fun ht=>?_)
     · (try simp only [go_sem,simprocAttr,cell_of hb3,cell_of g1,hc',Int.toNat_natCast,l2,hz,c2,ht])
       refine ⟨_,fun hq=>?_,rfl⟩
       have q1:ps[i].1.kind=nd.kind∧ps[i].1.num=nd.num:=by simpa using ht
       have q2:ps[i].1.args=[]:=by
         have:(ps[i].1.args.length:Int)=0:=by simpa using hq
         exact List.eq_nil_of_length_eq_zero (by omega)
       refine set_self ns i nd hi ?_
       rw [← hnd]
       have e3:nd.args=[]:=List.eq_nil_of_length_eq_zero hz'
       have:∀ x y:Nd,x.kind=y.kind→x.num=y.num→x.args=y.args→x=y:=by intro x y h1 h2 h3;cases x;cases y;simp_all
       exact this _ _ q1.1 q1.2 (by rw [q2,e3])
     · (try simp only [go_sem,simprocAttr,cell_of hb3,hz,ht])
       exact ⟨_,fun hq=>(by cases hq),rfl⟩
   · (try simp only [go_sem,simprocAttr,cell_of hb3,hz])
     exact ⟨_,fun hq=>(by cases hq),rfl⟩
 · rintro ρ _ ⟨rfl,q,hq,r0,r1,r5,r54⟩
   (try simp only [go_sem,simprocAttr,r0,r1,r5,r54])
   refine ir_cond rfl (fun ht=>?_) (fun ht=>?_)
   · (try simp only [go_sem,simprocAttr])
     rw [hq ht]
     exact ⟨rfl,same w3.drew hm3.drew⟩
   · have hd3:vLN w3.drew.drew 3 (.pointer (some ⟨w.heap.size,0,none⟩))=some (.agg #[I nd.kind,I nd.num,.slice va nd.args.length vc]):=ln_of (w:=w3.drew.drew) hb3 (off:=0) (n:=3) (by simp)
     (try simp only [go_sem,simprocAttr,cell_of g1,hd3])
     refine e_call (by rfl) ?_
     refine (cellOf_ok nd.kind nd.num _ nd.args w3.drew.drew hx3).mono ?_
     rintro r w4 ⟨b4,rfl,hb4,hge4,hm4⟩
     have hm4:Mod (fun _=>False) w3 w4:=hm4.of_drew.of_drew
     have hge4:w3.heap.size≤b4:=hge4
     (try simp only [go_sem,simprocAttr,hc',Int.toNat_natCast])
     refine ⟨hm4.old _ (lt_of_heap g1) (fun h=>h),?_⟩
     have gc4:=hm4.at gc (fun h=>h)
     have ga4:=hm4.at g1 (fun h=>h)
     refine e_stg rfl rfl gc4 rfl (by simp;omega) (by simp [Value.oneCell']) ?_
     intro w5 hb5 hm5 hs5
     (try simp only [go_sem,simprocAttr])
     have hne:a≠bc:=fun hh=>kind_ne ga4 (hh ▸ gc4) (by omega)
     have hsp:=flat_set ps i (nd,.slice (some ⟨b4,0,none⟩) nd.args.length nd.args.length) hi' spc
     have lc:=lt_of_heap gc
     have la:=lt_of_heap g1
     have l4:=lt_of_heap hb4
     have h45:=hm4.size;have h55:=hm5.size
     refine ⟨rfl,fun b=>F b∨b=b4,⟨_,some bc,ps.set i (nd,.slice (some ⟨b4,0,none⟩) nd.args.length nd.args.length),hm5.at ga4 hne,.inl g2,?_,fun b hb=>.inl (g4 b hb),?_,?_,?_⟩,?_,?_⟩
     · refine ⟨by rw [flat_len];simp;omega,.inr ⟨bc,cc,spc,by simp,rfl,?_,?_,by simpa using hcc⟩⟩
       · rw [← hsp];exact hb5
       · rw [List.length_append,flat_len,List.length_set,← flat_len,← List.length_append];exact hcap
     · have e1:=(g5.mod' hm4 (fun _ _ _ h _=>h)).mod' hm5 (fun b cs fz hb hc=>kind_ne gc4 (hb ▸ hc) (by omega))
       intro p hp
       rcases List.mem_or_eq_of_mem_set hp with hp | rfl
       · obtain ⟨fp,k1,k2⟩:=e1 p hp
         exact ⟨fp,k1,fun b hb=>.inl (k2 b hb)⟩
       · exact ⟨some b4,OwnS.of_block (hm5.at hb4 (fun hh=>kind_ne hb4 (hh ▸ gc4) (by omega))) (by simp),fun b hb=>.inr (by cases hb;rfl)⟩
     · rw [List.map_set,g6]
     · intro b hb
       rcases hb with hb | hb
       · have:=g7 b hb;omega
       · omega
     · exact (((hm12.trans hm3).weak (fun _ h=>h.elim)).step hm4 (fun _ h _=>h.elim)).step hm5 (fun j hj _=>hj ▸ g4 bc rfl)
     · intro b hb
       have:=(hm12.trans hm3).size
       rcases hb with hb | hb
       · exact .inl hb
       · exact .inr (by omega)
end
section
def fit (f:Nat→Nat):Nat→Nat→Nat
 | 0,x=>x
 | k+1,x=>fit f k (f x)
theorem fit_add (f:Nat→Nat) (a b x:Nat):fit f (a+b) x=fit f a (fit f b x):=by
 induction b generalizing x with
 | zero=>rfl
 | succ b ih=>exact ih (f x)
theorem fit_succ (f:Nat→Nat) (k x:Nat):fit f (k+1) x=f (fit f k x):=by
 rw [Nat.add_comm,fit_add];rfl
theorem fit_lt {f:Nat→Nat} {n:Nat} (hf:∀ x,x < n→f x < n) (k:Nat) {x:Nat} (hx:x < n):fit f k x < n:=by
 induction k generalizing x with
 | zero=>exact hx
 | succ k ih=>exact ih (hf x hx)
theorem nodup_le:∀ (n:Nat) (l:List Nat),l.Nodup→(∀ x∈l,x < n)→l.length≤n:=by
 intro n
 induction n with
 | zero=>
   intro l _ h
   cases l with
   | nil=>simp
   | cons x l=>exact absurd (h x List.mem_cons_self) (by omega)
 | succ n ih=>
   intro l hn h
   have h1:(l.erase n).length≤n:=by
     refine ih _ (hn.erase n) (fun x hx=>?_)
     have h2:=(hn.mem_erase_iff).1 hx
     have:=h x h2.2
     have:=h2.1
     omega
   by_cases hm:n∈l
   · rw [List.length_erase_of_mem hm] at h1;omega
   · rw [List.erase_of_not_mem hm] at h1;omega
theorem pigeon {f:Nat→Nat} {n x:Nat} (hf:∀ x,x < n→f x < n) (hx:x < n):∃ i j,i < j∧j≤n∧fit f i x=fit f j x:=by
 apply Classical.byContradiction
 intro hno
 have hnd:((List.range (n+1)).map (fun k=>fit f k x)).Nodup:=by
   unfold List.Nodup
   rw [List.pairwise_map]
   have hp:(List.range (n+1)).Pairwise (· < ·):=List.pairwise_lt_range
   refine (hp.imp_of_mem ?_)
   intro i j hi hj hij he
   exact hno ⟨i,j,hij,by have:=List.mem_range.1 hj;omega,he⟩
 have:=nodup_le n _ hnd (by
   intro y hy
   obtain ⟨k,_,rfl⟩:=List.mem_map.1 hy
   exact fit_lt hf k hx)
 simp at this
 omega
section
variable {f:Nat→Nat} {n:Nat} (hf:∀ x,x < n→f x < n)
include hf
theorem onRing {x:Nat} (hx:x < n) (m:Nat) (hm:n≤m):∃ d,1≤d∧d≤n∧fit f d (fit f m x)=fit f m x:=by
 obtain ⟨i,j,hij,hj,he⟩:=pigeon hf hx
 refine ⟨j - i,by omega,by omega,?_⟩
 have h1:fit f m x=fit f (m - i) (fit f i x):=by rw [← fit_add];congr 1;omega
 rw [← fit_add,show j - i+m=(m - i)+j by omega,fit_add,← he,← fit_add]
 congr 1;omega
omit hf in
theorem ring_mod {c d:Nat} (hd1:1≤d) (hdn:d≤n) (hc:fit f d c=c):∀ m,∃ k,k≤n∧fit f m c=fit f k c:=by
 intro m
 induction m using Nat.strongRecOn with
 | _ m ih=>
   by_cases hm:m≤n
   · exact ⟨m,hm,rfl⟩
   · obtain ⟨k,hk,he⟩:=ih (m - d) (by omega)
     refine ⟨k,hk,?_⟩
     rw [← he,show m=(m - d)+d by omega,fit_add,hc]
     congr 1;omega
omit hf in
theorem foldmin (l:List Nat):∀ a,(l.foldl min a=a∨l.foldl min a∈l)∧l.foldl min a≤a∧∀ x∈l,l.foldl min a≤x:=by
 induction l with
 | nil=>intro a;simp
 | cons y l ih=>
   intro a
   obtain ⟨h1,h2,h3⟩:=ih (min a y)
   simp only [List.foldl_cons]
   refine ⟨?_,by omega,?_⟩
   · rcases h1 with h1 | h1
     · by_cases hay:a≤y
       · left;rw [h1];omega
       · right;rw [h1,show min a y=y by omega];exact List.mem_cons_self
     · right;exact List.mem_cons_of_mem _ h1
   · intro x hx
     cases hx with
     | head=>omega
     | tail _ hx=>exact h3 x hx
omit hf
def ov (f:Nat→Nat) (n x:Nat):Nat:=((List.range (n+1)).map (fun k=>fit f k (fit f n x))).foldl min (fit f n x)
theorem ov_mem (f:Nat→Nat) (n x:Nat):∃ k,k≤n∧ov f n x=fit f (k+n) x:=by
 have:=(foldmin ((List.range (n+1)).map (fun k=>fit f k (fit f n x))) (fit f n x)).1
 unfold ov
 rcases this with h | h
 · exact ⟨0,by omega,by rw [h];simp⟩
 · obtain ⟨k,hk,he⟩:=List.mem_map.1 h
   exact ⟨k,by have:=List.mem_range.1 hk;omega,by rw [← he,fit_add]⟩
theorem ov_le (f:Nat→Nat) (n x k:Nat) (hk:k≤n):ov f n x≤fit f k (fit f n x):=
 (foldmin ((List.range (n+1)).map (fun k=>fit f k (fit f n x))) (fit f n x)).2.2 _ (List.mem_map.2 ⟨k,List.mem_range.2 (by omega),rfl⟩)
include hf
theorem ov_lt {x:Nat} (hx:x < n):ov f n x < n:=by
 obtain ⟨k,_,h⟩:=ov_mem f n x
 rw [h];exact fit_lt hf _ hx
theorem ov_le' {x:Nat} (hx:x < n) (m:Nat) (hm:n≤m):ov f n x≤fit f m x:=by
 obtain ⟨d,h1,h2,h3⟩:=onRing hf hx n (Nat.le_refl _)
 obtain ⟨k,hk,he⟩:=ring_mod h1 h2 h3 (m - n)
 have:fit f m x=fit f k (fit f n x):=by rw [← he,← fit_add];congr 1;omega
 rw [this];exact ov_le f n x k hk
theorem ov_f {x:Nat} (hx:x < n):ov f n (f x)=ov f n x:=by
 apply Nat.le_antisymm
 · obtain ⟨k,_,h⟩:=ov_mem f n x
   obtain ⟨d,h1,h2,h3⟩:=onRing hf hx (k+n) (by omega)
   rw [h,← h3,← fit_add,show d+(k+n)=(d+(k+n) - 1)+1 by omega]
   exact ov_le' hf (hf x hx) (d+(k+n) - 1) (by omega)
 · obtain ⟨k,_,h⟩:=ov_mem f n (f x)
   rw [h]
   exact ov_le' hf hx (k+n+1) (by omega)
theorem ov_fit {x:Nat} (hx:x < n) (k:Nat):ov f n (fit f k x)=ov f n x:=by
 induction k generalizing x with
 | zero=>rfl
 | succ k ih=>rw [show fit f (k+1) x=fit f k (f x) from rfl,ih (hf x hx),ov_f hf hx]
theorem ov_ov {x:Nat} (hx:x < n):ov f n (ov f n x)=ov f n x:=by
 obtain ⟨k,_,h⟩:=ov_mem f n x
 conv=>lhs;rw [h]
 exact ov_fit hf hx _
theorem ov_eq {x y:Nat} (hx:x < n) (hy:y < n):ov f n x=ov f n y↔∃ a b,fit f a x=fit f b y:=by
 constructor
 · intro h
   obtain ⟨a,_,ha⟩:=ov_mem f n x
   obtain ⟨b,_,hb⟩:=ov_mem f n y
   exact ⟨a+n,b+n,by rw [← ha,← hb,h]⟩
 · rintro ⟨a,b,h⟩
   rw [← ov_fit hf hx a,h,ov_fit hf hy b]
omit hf
theorem fit_fix {t:Nat} (h:f t=t):∀ k,fit f k t=t:=by
 intro k
 induction k with
 | zero=>rfl
 | succ k ih=>rw [fit_succ,ih,h]
theorem ov_fix {t:Nat} (h:f t=t):ov f n t=t:=by
 obtain ⟨k,_,he⟩:=ov_mem f n t
 rw [he,fit_fix h]
end
end
section
open Go Go.W
def ndAt (ns:List Nd) (p:Nat):Nd:=ns.getD p ⟨0,0,[]⟩
def ind (ns:List Nd) (p:Nat):Bool:=decide ((ndAt ns p).kind=5)
def nxt (ns:List Nd) (p:Nat):Nat:=if ind ns p then ((ndAt ns p).args.getD 0 0).toNat else p
def WF (ns:List Nd):Prop:=∀ nd∈ns,nd.may=true∧okPl ns.length nd.args=true
theorem wf_at {ns:List Nd} (h:WF ns) {p:Nat} (hp:p < ns.length):(ndAt ns p).may=true∧okPl ns.length (ndAt ns p).args=true:=by
 have:ndAt ns p=ns[p]:=by simp [ndAt,hp]
 rw [this];exact h _ (List.getElem_mem hp)
theorem wf_ind {ns:List Nd} (h:WF ns) {p:Nat} (hp:p < ns.length) (hi:ind ns p=true):∃ q:Nat,q < ns.length∧(ndAt ns p).args=[(q:Int)]∧nxt ns p=q:=by
 obtain ⟨h1,h2⟩:=wf_at h hp
 have hk:(ndAt ns p).kind=5:=by simpa [ind] using hi
 simp only [Nd.may,mayB,hk,decide_eq_true_eq] at h1
 have hl:(ndAt ns p).args.length=1:=by omega
 obtain ⟨x,hx⟩:=List.length_eq_one_iff.1 hl
 rw [hx] at h2
 rw [okPl_one] at h2
 simp only [decide_eq_true_eq] at h2
 refine ⟨x.toNat,by omega,by rw [hx];congr 1;omega,by simp [nxt,hi,hx]⟩
theorem wf_nxt_lt {ns:List Nd} (h:WF ns):∀ p,p < ns.length→nxt ns p < ns.length:=by
 intro p hp
 cases hi:ind ns p with
 | true=>obtain ⟨q,h1,_,h2⟩:=wf_ind h hp hi;rw [h2];exact h1
 | false=>simp [nxt,hi,hp]
theorem nxt_fix {ns:List Nd} {p:Nat} (hi:ind ns p=false):nxt ns p=p:=by simp [nxt,hi]
theorem wf_args_le {ns:List Nd} (h:WF ns):∀ nd∈ns,nd.args.length≤8:=by
 intro nd hn
 have:=(h nd hn).1
 simp only [Nd.may,mayB,decide_eq_true_eq] at this
 omega
def over (ns:List Nd) (p:Nat):Nat:=ov (nxt ns) ns.length p
structure KI (ns:List Nd) (l:List Int):Prop where
 len:l.length=ns.length
 rep:∀ i,i < ns.length→l.getD i 0≠0→∃ e:Nat,l.getD i 0=e+1∧e < ns.length∧over ns e=over ns i∧l.getD e 0=e+1∧(ind ns e=true→ind ns (over ns i)=true)
 shut:∀ i,i < ns.length→l.getD i 0≠0→l.getD (nxt ns i) 0≠0
 one:∀ i j,i < ns.length→j < ns.length→l.getD i 0≠0→l.getD j 0≠0→over ns i=over ns j→l.getD i 0=l.getD j 0
theorem ki_fit {ns:List Nd} (hw:WF ns) {l:List Int} (h:KI ns l) {i:Nat} (hi:i < ns.length) (hk:l.getD i 0≠0):∀ k,l.getD (fit (nxt ns) k i) 0≠0:=by
 intro k
 induction k with
 | zero=>exact hk
 | succ k ih=>rw [fit_succ];exact h.shut _ (fit_lt (wf_nxt_lt hw) k hi) ih
theorem ki_start (ns:List Nd):KI ns (List.replicate ns.length 0):=by
 have h0:∀ i,(List.replicate ns.length (0:Int)).getD i 0=0:=by intro i;simp [List.getElem?_replicate];split<;>rfl
 refine ⟨by simp,fun i _ h=>absurd (h0 i) h,fun i _ h=>absurd (h0 i) h,fun i j _ _ h=>absurd (h0 i) h⟩
theorem ki_pass {ns:List Nd} (hw:WF ns) {l l':List Int} (h:KI ns l) {p0 k e:Nat} (hp:p0 < ns.length)
   (hun:∀ j,j < k→ind ns (fit (nxt ns) j p0)=true∧l.getD (fit (nxt ns) j p0) 0=0)
   (hend:(e=fit (nxt ns) k p0∧l.getD e 0=0∧((ind ns e=false)∨∃ j,j < k∧e=fit (nxt ns) j p0))∨(l.getD (fit (nxt ns) k p0) 0=e+1))
   (hl:l'.length=ns.length) (hl':∀ i,i < ns.length→l'.getD i 0=if (∃ j,j≤k∧i=fit (nxt ns) j p0) then (e:Int)+1 else l.getD i 0) :
   KI ns l'∧l'.getD p0 0=e+1∧(∀ i,i < ns.length→l.getD i 0≠0→l'.getD i 0=l.getD i 0):=by
 have hf:=(wf_nxt_lt hw)
 have onway:∀ j,over ns (fit (nxt ns) j p0)=over ns p0:=fun j=>ov_fit hf hp j
 have hxlt:∀ j,fit (nxt ns) j p0 < ns.length:=fun j=>fit_lt hf j hp
 have agree:∀ i,i < ns.length→l.getD i 0≠0→over ns i=over ns p0→l.getD i 0=e+1:=by
   intro i hi hk ho
   rcases hend with ⟨he,h0,hor⟩ | hkn
   · exfalso
     obtain ⟨a,b,hab⟩:=(ov_eq hf hi (hxlt k)).1 (ho.trans (onway k).symm)
     have hka:=ki_fit hw h hi hk a
     rw [hab] at hka
     rcases hor with hni | ⟨j,hj,hej⟩
     · rw [← he,fit_fix (nxt_fix hni) b] at hka
       exact hka h0
     ·
       have hring:∀ b,∃ j',j' < k∧fit (nxt ns) b (fit (nxt ns) k p0)=fit (nxt ns) j' p0:=by
         intro b
         have hper:fit (nxt ns) (k - j) (fit (nxt ns) j p0)=fit (nxt ns) j p0:=by
           rw [← fit_add,show k - j+j=k by omega,← he,hej]
         induction b with
         | zero=>exact ⟨j,hj,by show fit (nxt ns) k p0=_;rw [← he,hej]⟩
         | succ b ihb=>
           obtain ⟨j',hj',hb⟩:=ihb
           rw [fit_succ,hb,← fit_succ (nxt ns)]
           by_cases hlast:j'+1 < k
           · exact ⟨j'+1,hlast,rfl⟩
           · have:j'+1=k:=by omega
             rw [this]
             exact ⟨j,hj,by rw [← he,hej]⟩
       obtain ⟨j',hj',hb⟩:=hring b
       rw [hb] at hka
       exact hka (hun j' hj').2
   · rw [← hkn]
     exact h.one _ _ hi (hxlt k) hk (by rw [hkn];omega) (ho.trans (onway k).symm)
 have keep:∀ i,i < ns.length→l.getD i 0≠0→l'.getD i 0=l.getD i 0:=by
   intro i hi hk
   rw [hl' i hi]
   split
   · rename_i hex
     obtain ⟨j,_,rfl⟩:=hex
     exact (agree _ hi hk (onway j)).symm
   · rfl
 have elt:e < ns.length∧over ns e=over ns p0∧l'.getD e 0=e+1∧(ind ns e=true→ind ns (over ns p0)=true):=by
   rcases hend with ⟨he,h0,hor⟩ | hkn
   · refine ⟨by rw [he];exact hxlt k,by rw [he];exact onway k,?_,?_⟩
     · rw [hl' e (by rw [he];exact hxlt k),if_pos ⟨k,Nat.le_refl _,he⟩]
     · intro hi
       rcases hor with hni | ⟨j,hj,hej⟩
       · rw [hni] at hi;cases hi
       ·
         obtain ⟨q,_,hq⟩:=ov_mem (nxt ns) ns.length p0
         have hallind:∀ m,ind ns (fit (nxt ns) m p0)=true:=by
           intro m
           have:∃ j',j' < k∧fit (nxt ns) m p0=fit (nxt ns) j' p0:=by
             induction m with
             | zero=>exact ⟨0,by omega,rfl⟩
             | succ m ihm=>
               obtain ⟨j',hj',hm⟩:=ihm
               rw [fit_succ,hm,← fit_succ (nxt ns)]
               by_cases hlast:j'+1 < k
               · exact ⟨j'+1,hlast,rfl⟩
               · have:j'+1=k:=by omega
                 rw [this]
                 exact ⟨j,hj,by rw [← he,hej]⟩
           obtain ⟨j',hj',hm⟩:=this
           rw [hm];exact (hun j' hj').1
         show ind ns (ov (nxt ns) ns.length p0)=true
         rw [hq];exact hallind _
   · obtain ⟨e',h1,h2,h3,h4,h5⟩:=h.rep _ (hxlt k) (by rw [hkn];omega)
     have:e'=e:=by omega
     subst this
     refine ⟨h2,h3.trans (onway k),by rw [keep _ h2 (by rw [h4];omega)];exact h4,?_⟩
     intro hi
     have:=h5 hi
     rwa [onway k] at this
 refine ⟨⟨hl,?_,?_,?_⟩,?_,keep⟩
 · intro i hi hk
   rw [hl' i hi] at hk
   by_cases hex:∃ j,j≤k∧i=fit (nxt ns) j p0
   · obtain ⟨j,hj,rfl⟩:=hex
     refine ⟨e,by rw [hl' _ hi,if_pos ⟨j,hj,rfl⟩],elt.1,elt.2.1.trans (onway j).symm,elt.2.2.1,fun hh=>by rw [onway j];exact elt.2.2.2 hh⟩
   · rw [if_neg hex] at hk
     obtain ⟨e',h1,h2,h3,h4,h5⟩:=h.rep i hi hk
     exact ⟨e',by rw [hl' i hi,if_neg hex,h1],h2,h3,by rw [keep e' h2 (by rw [h4];omega),h4],h5⟩
 · intro i hi hk
   rw [hl' i hi] at hk
   rw [hl' _ (hf i hi)]
   by_cases hex2:∃ j,j≤k∧nxt ns i=fit (nxt ns) j p0
   · rw [if_pos hex2];omega
   · rw [if_neg hex2]
     by_cases hex:∃ j,j≤k∧i=fit (nxt ns) j p0
     · obtain ⟨j,hj,rfl⟩:=hex
       by_cases hjk:j < k
       · exact absurd ⟨j+1,by omega,by rw [fit_succ]⟩ hex2
       · have:j=k:=by omega
         subst this
         rcases hend with ⟨he,h0,hor⟩ | hkn
         · rcases hor with hni | ⟨j',hj',hej⟩
           · exact absurd ⟨j,Nat.le_refl _,by rw [← he];exact nxt_fix hni⟩ hex2
           · exact absurd ⟨j'+1,by omega,by rw [← he,hej,fit_succ]⟩ hex2
         · exact h.shut _ hi (by rw [hkn];omega)
     · rw [if_neg hex] at hk
       exact h.shut i hi hk
 · intro i j hi hj hki hkj ho
   have val:∀ i,i < ns.length→l'.getD i 0≠0→over ns i=over ns p0→l'.getD i 0=e+1:=by
     intro i hi hk ho
     rw [hl' i hi] at hk ⊢
     split
     · rfl
     · rename_i hex;rw [if_neg hex] at hk;exact agree i hi hk ho
   by_cases hpo:over ns i=over ns p0
   · rw [val i hi hki hpo,val j hj hkj (ho ▸ hpo)]
   · have hni:∀ i,over ns i≠over ns p0→¬ ∃ j,j≤k∧i=fit (nxt ns) j p0:=by
       rintro i hne ⟨j,_,rfl⟩;exact hne (onway j)
     rw [hl' i hi,if_neg (hni i hpo)] at hki ⊢
     rw [hl' j hj,if_neg (hni j (ho ▸ hpo))] at hkj ⊢
     exact h.one i j hi hj hki hkj ho
 · rw [hl' p0 hp,if_pos ⟨0,by omega,rfl⟩]
end
section
open Go Go.W
def FromAt (Tc:Nat) (w:World) (cf:Value) (ns:List Nd) (F:Nat→Prop):Prop:=
 ∃ fpc ps,OwnS w Tc 3 cf (flat ps) ns.length fpc∧(∀ b,fpc=some b→F b)∧Args w ps F∧ps.map Prod.fst=ns∧∀ b,F b→b < w.heap.size
theorem FromAt.mod {Tc:Nat} {w w':World} {cf:Value} {ns:List Nd} {F S:Nat→Prop} (h:FromAt Tc w cf ns F) (hm:Mod S w w') (hd:∀ b,F b→¬ S b):FromAt Tc w' cf ns F:=by
 obtain ⟨fpc,ps,h1,h2,h3,h4,h5⟩:=h
 exact ⟨fpc,ps,h1.mod hm (fun b hb=>hd b (h2 b hb)),h2,h3.mod hm hd,h4,fun b hb=>Nat.lt_of_lt_of_le (h5 b hb) hm.size⟩
theorem from_at {Tc:Nat} {w:World} {cf:Value} {ns:List Nd} {F:Nat→Prop} (h:FromAt Tc w cf ns F) (hargs:∀ nd∈ns,nd.args.length≤8) {i:Nat} (hi:i < ns.length) :
   ∃ bc cc v,cf = .slice (some ⟨bc,0,none⟩) ns.length cc∧w.cell? ⟨bc,i*3,none⟩=some (I (ndAt ns i).kind)∧w.cell? ⟨bc,i*3+1,none⟩=some (I (ndAt ns i).num) ∧
     w.cell? ⟨bc,i*3+2,none⟩=some v∧Ints w v (ndAt ns i).args∧(∀ b,vblk v=some b→F b)∧vLN w 2 (.pointer (some ⟨bc,i*3,none⟩))=some (.agg #[I (ndAt ns i).kind,I (ndAt ns i).num]):=by
 obtain ⟨fpc,ps,h1,h2,h3,h4,h5⟩:=h
 have hps:ps.length=ns.length:=by rw [← h4];simp
 obtain ⟨bc,cc,spc,rfl,rfl,gc,hcc,hcap⟩:=h1.pos (by omega)
 have hi':i < ps.length:=by omega
 have hnd:ps[i].1=ndAt ns i:=by
   have e1:ndAt ns i=ns[i]:=by simp [ndAt,hi]
   rw [e1];simp [← h4]
 have hflat:=flat_len ps
 have hle:ps[i].1.args.length≤17592186044416:=by
   have:=hargs ns[i] (List.getElem_mem hi)
   rw [hnd];simp only [ndAt,List.getD_eq_getElem?_getD,List.getElem?_eq_getElem hi,Option.getD_some];omega
 have hav:=h3.at hi' hle
 refine ⟨bc,cc,ps[i].2,rfl,?_,?_,?_,hnd ▸ hav,?_,?_⟩
 · have:=node_cell gc hi' (k:=0) (by omega);rw [← hnd];simpa [nc] using this
 · have:=node_cell gc hi' (k:=1) (by omega);rw [← hnd];simpa [nc] using this
 · have:=node_cell gc hi' (k:=2) (by omega);simpa [nc] using this
 · intro b hb
   obtain ⟨fp,k1,k2⟩:=h3 _ (List.getElem_mem hi')
   refine k2 b ?_
   rcases k1.2 with ⟨k3,_,_⟩ | ⟨b',c',sp',k3,k4,_,_⟩
   · rw [k3] at hb;cases hb
   · rw [k3] at hb;cases hb;exact k4
 · have:=ln_of (w:=w) gc (off:=i*3) (n:=2) (by simp;omega)
   rw [this,List.drop_append_of_le_length (by omega),List.take_append_of_le_length (by simp;omega)]
   have h3:=flat_take_drop ps i hi'
   have:((flat ps).drop (i*3)).take 2=(nc ps[i]).take 2:=by rw [← h3,List.take_take];rfl
   rw [this,← hnd]
   rfl
theorem own_cut {w:World} {T sz:Nat} {a:Option Addr} {n c:Nat} {xs:List Value} {fp:Option Nat} (h:OwnS w T sz (.slice a n c) xs n fp):OwnS w T sz (.slice a 0 c) [] 0 fp:=by
 refine ⟨by simp,?_⟩
 rcases h.2 with ⟨h1,h2,h3⟩ | ⟨b,c',sp',h1,h2,h3,h4,h5⟩
 · cases h1;exact .inl ⟨rfl,rfl,h3⟩
 · cases h1
   exact .inr ⟨b,c,xs++sp',rfl,h2,by simpa using h3,by simpa using h4,Nat.zero_le _⟩
def PW (w:World) (bm bo:Nat) (cf to mv pa:Value) (n:Nat) (l path:List Int) (pfp:Option Nat):Prop:=
 w.heap[bm]? = some (.cells #[cf,to,.slice (some ⟨bo,0,none⟩) n n,mv,pa] 239 (0,0))∧w.heap[bo]? = some (.cells (l.map I).toArray 3 (0,0))∧OwnS w 3 1 pa (path.map I) path.length pfp∧pfp≠some bo
def PassPost (ns:List Nd) (w:World) (bm bo:Nat) (cf to mv:Value) (l:List Int) (pfp:Option Nat) (p0:Nat) (r:Value) (w':World):Prop:=
 ∃ (e:Nat) (l':List Int) (pa':Value) (path':List Int) (pfp':Option Nat),r=I e∧KI ns l'∧l'.getD p0 0=e+1∧(∀ i,i < ns.length→l.getD i 0≠0→l'.getD i 0=l.getD i 0) ∧
   PW w' bm bo cf to mv pa' ns.length l' path' pfp'∧Mod (fun b=>b=bm∨b=bo∨pfp=some b) w w'∧(∀ b,pfp'=some b→pfp=some b∨w.heap.size≤b)∧path'.length≤1048576
theorem ints_at {w:World} {b T:Nat} {l:List Int} (h:w.heap[b]? = some (.cells (l.map I).toArray T (0,0))) {i:Nat} (hi:i < l.length):w.cell? ⟨b,i,none⟩=some (I (l.getD i 0)):=by
 rw [cell_of h];simp [hi]
def onWay (ns:List Nd) (p0 k i:Nat):Prop:=∃ j,j < k∧i=fit (nxt ns) j p0
theorem getD_set (l:List Int) (i j:Nat) (v:Int) (hi:i < l.length):(l.set i v).getD j 0=if i=j then v else l.getD j 0:=by
 simp only [List.getD_eq_getElem?_getD,List.getElem?_set]
 split
 · rename_i h;subst h;simp [hi]
 · rfl
theorem map_set (l:List Int) (i:Nat) (v:Int):(l.map I).set i (I v)=(l.set i v).map I:=by simp [List.map_set]
theorem count_set (l:List Int) (i:Nat) (hi:i < l.length) (h0:l.getD i 0=0):(l.set i (-1)).count 0+1=l.count 0:=by
 have h1:l[i]=0:=by simpa [hi] using h0
 have hpos:0 < l.count 0:=List.count_pos_iff.2 (h1 ▸ List.getElem_mem hi)
 rw [List.count_set hi,h1]
 simp
 omega
theorem pass_ok (ns:List Nd) (hw:WF ns) (hn:ns.length≤1048576) (w:World) (bm bo:Nat) (cf to mv pa:Value) (l path:List Int) (pfp:Option Nat) (F:Nat→Prop)
   (hfr:FromAt 235 w cf ns F) (hd:∀ b,F b→¬ (b=bm∨b=bo∨pfp=some b)) (hp:PW w bm bo cf to mv pa ns.length l path pfp) (hk:KI ns l) (p0:Nat) (hp0:p0 < ns.length) :
   CallsR Tryz.prog 209 [.pointer (some ⟨bm,0,none⟩),I p0] w (PassPost ns w bm bo cf to mv l pfp p0):=by
 have hargs:=wf_args_le hw
 have hf:=wf_nxt_lt hw
 have hlt:∀ j,fit (nxt ns) j p0 < ns.length:=fun j=>fit_lt hf j hp0
 obtain ⟨m1,m2,m3,m4⟩:=hp
 obtain ⟨xa,xc,rfl,hxc,_⟩:=m3.val
 have m3':=own_cut m3
 refine fit209.calls rfl ?_
 unfold ir209
 have z1:(0:Int)≤0∧(0:Int)≤xc:=by omega
 have z2:(if xc=0 then xa else Option.map (fun x=>x) xa)=xa:=by cases xa<;>simp
 (try simp only [go_sem,simprocAttr,cell_of m1,z1,z2,and_self,Int.toNat_zero,Nat.sub_zero,Nat.sub_self])
 refine e_st1 (off:=4) rfl rfl m1 rfl (by simp) ?_
 intro w1 hb1 hm1 hs1
 have hbmo:bm≠bo:=fun h=>by subst h;exact kind_ne m2 m1 (by omega)
 have n2:=hm1.at m2 (fun h=>hbmo h.symm)
 have n3:=m3'.mod hm1 (fun b hb hh=>own_kind m3' hb (hh ▸ m1) (by omega))
 (try simp only [go_sem,simprocAttr])
 refine ir_loop (fun m ρ w'=>∃ (k:Nat) (lk:List Int) (pa:Value) (pk:Option Nat),m=lk.count 0∧lk.length=ns.length∧k+lk.count 0=l.count 0 ∧
   (∀ i,i < ns.length→(onWay ns p0 k i→lk.getD i 0 = -1)∧(¬ onWay ns p0 k i→lk.getD i 0=l.getD i 0)) ∧
   (∀ j,j < k→ind ns (fit (nxt ns) j p0)=true∧l.getD (fit (nxt ns) j p0) 0=0) ∧
   PW w' bm bo cf to mv pa ns.length lk ((List.range k).map (fun j=>(fit (nxt ns) j p0:Int))) pk∧Mod (fun b=>b=bm∨b=bo∨pfp=some b) w w'∧(∀ b,pk=some b→pfp=some b∨w.heap.size≤b) ∧
   ρ=[(0,.pointer (some ⟨bm,0,none⟩)),(1,I (fit (nxt ns) k p0:Nat))]) (l.count 0)
   ⟨0,l,_,pfp,rfl,hk.len,by omega,fun i hi=>⟨fun ⟨j,hj,_⟩=>by omega,fun _=>rfl⟩,fun j hj=>by omega,⟨hb1,n2,n3,m4⟩,hm1.weak (fun b hb=>.inl hb),fun b hb=>.inl hb,rfl⟩ ?_
 rintro m ρ w2 ⟨k,lk,pk,pkf,rfl,hkl,hkc,hkv,hkn,⟨p1,p2,p3,p4⟩,hm2,hpk,rfl⟩
 unfold ir209L1
 have hfr2:=hfr.mod hm2 hd
 obtain ⟨bc,cc,v,rfl,c0,c1,c2,cx,cb,cl⟩:=from_at hfr2 hargs (hlt k)
 have hx:=ints_at p2 (i:=fit (nxt ns) k p0) (by rw [hkl];exact hlt k)
 have b1:(0:Int)≤(fit (nxt ns) k p0:Nat)∧((fit (nxt ns) k p0:Nat):Int) < ns.length:=by have:=hlt k;omega
 have hkx:lk.getD (fit (nxt ns) k p0) 0=0∨lk.getD (fit (nxt ns) k p0) 0≠0:=by omega
 (try simp only [go_sem,simprocAttr,zb4,zb6,cell_of p1,b1,hx])
 refine wpS_cut (fun ρ w'=>w2=w'∧∃ q:Bool,(q=true→lk.getD (fit (nxt ns) k p0) 0=0∧ind ns (fit (nxt ns) k p0)=true)∧(q=false→lk.getD (fit (nxt ns) k p0) 0≠0∨ind ns (fit (nxt ns) k p0)=false) ∧
     ρ.get 0=some (.pointer (some ⟨bm,0,none⟩))∧ρ.get 1=some (I (fit (nxt ns) k p0:Nat))∧ρ.get 35=some (.bool q)) ?_ ?_
 · refine wpS_gr rfl (fun hz=>?_) (fun hz=>?_)
   · (try simp only [go_sem,simprocAttr,zb4,zb6,cell_of p1,b1,hz,c0])
     have hz':lk.getD (fit (nxt ns) k p0) 0=0:=by simpa using hz
     exact ⟨_,fun h=>⟨hz',h⟩,fun h=>.inr h,rfl⟩
   · (try simp only [go_sem,simprocAttr,zb4,zb6,hz])
     have hz':lk.getD (fit (nxt ns) k p0) 0≠0:=by simpa using hz
     exact ⟨_,fun h=>(by cases h),fun _=>.inl hz',rfl⟩
 rintro ρ _ ⟨rfl,q,hq1,hq2,r0,r1,r35⟩
 (try simp only [go_sem,simprocAttr,r0,r1,r35])
 refine ir_cond rfl (fun hq=>?_) (fun hq=>?_)
 · obtain ⟨hz,hi⟩:=hq1 hq
   obtain ⟨q',hq',ha,hnx⟩:=wf_ind hw (hlt k) hi
   (try simp only [go_sem,simprocAttr,zb4,zb6,cell_of p1,b1])
   refine e_st1 (off:=fit (nxt ns) k p0) rfl rfl p2 rfl (by simp;rw [hkl];exact hlt k) ?_
   intro w3 hb3 hm3 hs3
   rw [map_set] at hb3
   have hcount:=count_set lk (fit (nxt ns) k p0) (by rw [hkl];exact hlt k) hz
   have hkn':k+1≤ns.length:=by
     have:=List.count_le_length (a:=(0:Int)) (l:=l)
     rw [hk.len] at this;omega
   have q1:=hm3.at p1 hbmo
   have q3:=p3.mod hm3 (fun b hb hh=>p4 (hh ▸ hb))
   obtain ⟨ya,yc,rfl,_,_⟩:=p3.val
   (try simp only [go_sem,simprocAttr,cell_of q1])
   refine e_bs (by rfl) (by (try simp only [go_sem,simprocAttr]);rfl) ?_
   intro w4 hb4 hm4 hs4
   have q4:=q3.mod hm4 (fun _ _ h=>h)
   (try simp only [go_sem,simprocAttr])
   refine e_ap (m:=1) (news:=[I (fit (nxt ns) k p0:Nat)]) rfl q4 rfl (fun h=>by cases h) (rd_block hb4) (by simp [Value.oneCell']) rfl (by simp;omega) (by simp;omega) ?_
   intro v5 w5 fp5 ho5 hm5 hf5
   (try simp only [go_sem,simprocAttr])
   have q14:=hm4.at q1 (fun h=>h)
   have q15:=hm5.at q14 (own_ne q4 q14 (by omega))
   have hb5:=hm5.at (hm4.at hb3 (fun h=>h)) p4
   refine e_st1 (off:=4) rfl rfl q15 (by obtain ⟨_,_,rfl,_⟩:=ho5.val;rfl) (by simp) ?_
   intro w6 hb6 hm6 hs6
   have hF:∀ b,F b→b < w.heap.size:=by obtain ⟨_,_,_,_,_,_,h⟩:=hfr;exact h
   have hdk:∀ b,F b→pkf≠some b:=fun b hb hh=>by
     have h1:=hF b hb
     rcases hpk b hh with h2 | h2
     · exact hd b hb (.inr (.inr h2))
     · omega
   have hm26:Mod (fun b=>b=bm∨b=bo∨pkf=some b) w2 w6:=(((hm3.weak (fun b hb=>.inr (.inl hb))).step hm4 (fun _ h _=>h.elim)).step hm5 (fun b hb _=>.inr (.inr hb))).step hm6 (fun b hb _=>.inl hb)
   have hfr6:=hfr2.mod hm26 (fun b hb hh=>by
     rcases hh with hh | hh | hh
     · exact hd b hb (.inl hh)
     · exact hd b hb (.inr (.inl hh))
     · exact hdk b hb hh)
   obtain ⟨bc',cc',v',hbc,d0,d1,d2,dx,db,dl⟩:=from_at hfr6 hargs (hlt k)
   cases hbc
   rw [ha] at dx
   obtain ⟨xb,xd,rfl,_,hxx⟩:=dx
   obtain ⟨ad,rfl,had⟩:=hxx 0 (by simp)
   have had':w6.cell? ad=some (I (q':Nat)):=by rw [add_zero'] at had;exact had
   have z3:(0:Int)≤0∧(0:Int) < ((1:Nat):Int):=by omega
   (try simp only [go_sem,simprocAttr,zb4,zb6,cell_of hb6,b1,d2,z3,had'])
   have hway:∀ i,onWay ns p0 (k+1) i↔onWay ns p0 k i∨i=fit (nxt ns) k p0:=by
     intro i
     constructor
     · rintro ⟨j,hj,rfl⟩
       rcases Nat.lt_or_ge j k with h | h
       · exact .inl ⟨j,h,rfl⟩
       · obtain rfl:j=k:=by omega
         exact .inr rfl
     · rintro (⟨j,hj,rfl⟩ | rfl)
       · exact ⟨j,by omega,rfl⟩
       · exact ⟨k,by omega,rfl⟩
   have hnotway:¬ onWay ns p0 k (fit (nxt ns) k p0):=fun h=>by
     have:=(hkv _ (hlt k)).1 h
     omega
   refine ⟨_,?_,k+1,lk.set (fit (nxt ns) k p0) (-1),v5,fp5,rfl,by simp [hkl],by omega,?_,?_,⟨hb6,hm6.at hb5 (fun h=>hbmo h.symm),?_,?_⟩,?_,?_,?_⟩
   · omega
   · intro i hi'
     rw [getD_set _ _ _ _ (by rw [hkl];exact hlt k),hway]
     refine ⟨?_,?_⟩
     · rintro (h | h)
       · split
         · rfl
         · exact (hkv i hi').1 h
       · rw [if_pos h.symm]
     · intro h
       rw [if_neg (fun hh=>h (.inr hh.symm))]
       exact (hkv i hi').2 (fun hh=>h (.inl hh))
   · intro j hj
     rcases Nat.lt_or_ge j k with h | h
     · exact hkn j h
     · obtain rfl:j=k:=by omega
       exact ⟨hi,by rw [← (hkv _ (hlt j)).2 hnotway];exact hz⟩
   · have:=ho5.mod hm6 (fun b hb hh=>own_kind ho5 hb (hh ▸ q15) (by omega))
     rw [List.range_succ]
     simpa using this
   · intro hh
     rcases hf5 bo hh with h1 | h1
     · exact p4 h1
     · have:=lt_of_heap p2
       have:=hm3.size;have:=hm4.size
       omega
   · refine hm2.step hm26 (fun b hb hlt'=>?_)
     rcases hb with h | h | h
     · exact .inl h
     · exact .inr (.inl h)
     · rcases hpk b h with h | h
       · exact .inr (.inr h)
       · omega
   · intro b hb
     rcases hf5 b hb with h1 | h1
     · exact hpk b h1
     · have:=hm2.size;have:=hm3.size;have:=hm4.size
       exact .inr (by omega)
   · rw [fit_succ,hnx]
 · have hz:=hq2 hq
   have hxn:onWay ns p0 k (fit (nxt ns) k p0)∨¬ onWay ns p0 k (fit (nxt ns) k p0):=Classical.em _
   (try simp only [go_sem,simprocAttr,zb4,zb6,cell_of p1,b1,hx])
   refine ir_then (fun ρ w'=>w2=w'∧∃ e:Nat,((e=fit (nxt ns) k p0∧l.getD e 0=0∧((ind ns e=false)∨∃ j,j < k∧e=fit (nxt ns) j p0))∨(l.getD (fit (nxt ns) k p0) 0=e+1))∧e < ns.length ∧
     ρ.get 0=some (.pointer (some ⟨bm,0,none⟩))∧ρ.get 1=some (I (fit (nxt ns) k p0:Nat))∧ρ.get 5=some (I e)) ?_ ?_
   · refine ir_cond rfl (fun hg=>?_) (fun hg=>?_)
     · have hg':lk.getD (fit (nxt ns) k p0) 0 > 0:=by simpa using hg
       have hno:¬ onWay ns p0 k (fit (nxt ns) k p0):=fun h=>by have:=(hkv _ (hlt k)).1 h;omega
       have hlk:=(hkv _ (hlt k)).2 hno
       obtain ⟨e,he,hen,_⟩:=hk.rep _ (hlt k) (by omega)
       have hwr:IntKind.i64.wrap (lk.getD (fit (nxt ns) k p0) 0 - 1)=e:=by rw [hlk,he,wrap_in]<;>omega
       (try simp only [go_sem,simprocAttr,zb4,zb6,cell_of p1,b1,hx,hwr])
       exact ⟨e,.inr he,hen,rfl⟩
     · have hg':¬ lk.getD (fit (nxt ns) k p0) 0 > 0:=by simpa using hg
       (try simp only [go_sem,simprocAttr])
       refine ⟨fit (nxt ns) k p0,.inl ⟨rfl,?_,?_⟩,hlt k,rfl⟩
       · rcases hxn with h | h
         · obtain ⟨j,hj,he⟩:=h
           rw [he];exact (hkn j hj).2
         · have hlk:=(hkv _ (hlt k)).2 h
           rcases Classical.em (l.getD (fit (nxt ns) k p0) 0=0) with h0 | h0
           · exact h0
           · obtain ⟨e,he,_⟩:=hk.rep _ (hlt k) h0
             omega
       · rcases hxn with h | h
         · exact .inr h
         · left
           rcases hz with hz | hz
           · exfalso
             have hlk:=(hkv _ (hlt k)).2 h
             obtain ⟨e,he,_⟩:=hk.rep _ (hlt k) (by omega)
             omega
           · exact hz
   rintro ρ _ ⟨rfl,e,hend,hen,r0,r1,r5⟩
   have hwe:IntKind.i64.wrap ((e:Int)+1)=((e:Int)+1):=by rw [wrap_in]<;>omega
   (try simp only [go_sem,simprocAttr,zb4,zb6,r0,r1,r5,cell_of p1,b1,hwe])
   refine e_st1 (off:=fit (nxt ns) k p0) rfl rfl p2 rfl (by simp;rw [hkl];exact hlt k) ?_
   intro w3 hb3 hm3 hs3
   rw [map_set] at hb3
   have q1:=hm3.at p1 hbmo
   have q3:=p3.mod hm3 (fun b hb hh=>p4 (hh ▸ hb))
   obtain ⟨ya,yc,rfl,_,_⟩:=p3.val
   (try simp only [go_sem,simprocAttr,zb4,zb6,cell_of q1])
   have hpl:((List.range k).map (fun j=>(fit (nxt ns) j p0:Int))).length=k:=by simp
   have hkn':k≤ns.length:=by
     have:=List.count_le_length (a:=(0:Int)) (l:=l)
     rw [hk.len] at this;omega
   refine ir_loop (fun m ρ w'=>∃ (t:Nat) (l2:List Int),m=k - t∧t≤k∧l2.length=ns.length∧(∀ i,i < ns.length→(i=fit (nxt ns) k p0∨onWay ns p0 t i→l2.getD i 0=e+1)∧(¬ (i=fit (nxt ns) k p0∨onWay ns p0 t i)→l2.getD i 0=lk.getD i 0)) ∧
     PW w' bm bo (.slice (some ⟨bc,0,none⟩) ns.length cc) to mv (.slice ya ((List.range k).map (fun j=>(fit (nxt ns) j p0:Int))).length yc) ns.length l2 ((List.range k).map (fun j=>(fit (nxt ns) j p0:Int))) pkf∧Mod (· = bo) w2 w' ∧
     ρ=[(0,.pointer (some ⟨bm,0,none⟩)),(5,I e),(90,.slice ya ((List.range k).map (fun j=>(fit (nxt ns) j p0:Int))).length yc),(91,I ((List.range k).map (fun j=>(fit (nxt ns) j p0:Int))).length),(92,I t)]) k
     ⟨0,lk.set (fit (nxt ns) k p0) (e+1),rfl,by omega,by simp [hkl],?_,⟨q1,hb3,q3,p4⟩,hm3,rfl⟩ ?_
   · intro i hi
     rw [getD_set _ _ _ _ (by rw [hkl];exact hlt k)]
     refine ⟨?_,?_⟩
     · rintro (h | ⟨j,hj,_⟩)
       · rw [if_pos h.symm]
       · omega
     · intro h;rw [if_neg (fun hh=>h (.inl hh.symm))]
   rintro m ρ w4 ⟨t,l2,rfl,htk,hl2,hv2,⟨o1,o2,o3,o4⟩,hm4,rfl⟩
   unfold ir209L2
   have o1':=o1
   have o3':=o3
   rw [hpl] at o1 o3
   rw [hpl]
   (try simp only [go_sem,simprocAttr])
   refine ir_cond rfl (fun hc=>?_) (fun hc=>?_)
   · have hc':t < k:=by simpa using hc
     obtain ⟨⟨xb,xd,hxe,_,hxx⟩,_⟩:=o3'.ints (by rw [hpl];omega)
     cases hxe
     obtain ⟨ad,rfl,had⟩:=hxx t (by rw [hpl];exact hc')
     have b2:(0:Int)≤(t:Nat)∧(t:Int) < (k:Nat):=by omega
     have b3:(0:Int)≤(fit (nxt ns) t p0:Nat)∧((fit (nxt ns) t p0:Nat):Int) < ns.length:=by have:=hlt t;omega
     have had':w4.cell? (ad.add t)=some (I (fit (nxt ns) t p0:Nat)):=by rw [had];simp
     (try simp only [go_sem,simprocAttr,zb4,zb6,b2,had',cell_of o1,b3,hwe])
     refine e_st1 (off:=fit (nxt ns) t p0) rfl rfl o2 rfl (by simp;rw [hl2];exact hlt t) ?_
     intro w5 hb5 hm5 hs5
     rw [map_set] at hb5
     have hwt:IntKind.i64.wrap ((t:Int)+1)=((t+1:Nat):Int):=by rw [wrap_in]<;>omega
     (try simp only [go_sem,simprocAttr,hwt])
     refine ⟨_,?_,t+1,l2.set (fit (nxt ns) t p0) (e+1),rfl,by omega,by simp [hl2],?_,⟨hm5.at o1 hbmo,hb5,?_,o4⟩,hm4.trans hm5,rfl⟩
     · omega
     · intro i hi
       rw [getD_set _ _ _ _ (by rw [hl2];exact hlt t)]
       have hway:onWay ns p0 (t+1) i↔onWay ns p0 t i∨i=fit (nxt ns) t p0:=by
         constructor
         · rintro ⟨j,hj,rfl⟩
           rcases Nat.lt_or_ge j t with h | h
           · exact .inl ⟨j,h,rfl⟩
           · obtain rfl:j=t:=by omega
             exact .inr rfl
         · rintro (⟨j,hj,rfl⟩ | rfl)
           · exact ⟨j,by omega,rfl⟩
           · exact ⟨t,by omega,rfl⟩
       rw [hway]
       refine ⟨?_,?_⟩
       · intro h
         split
         · rfl
         · rename_i hne
           rcases h with h | h | h
           · exact (hv2 i hi).1 (.inl h)
           · exact (hv2 i hi).1 (.inr h)
           · exact absurd h.symm hne
       · intro h
         rw [if_neg (fun hh=>h (.inr (.inr hh.symm)))]
         exact (hv2 i hi).2 (fun hh=>h (hh.elim .inl (fun h=>.inr (.inl h))))
     · have:=o3.mod hm5 (fun b hb hh=>o4 (hh ▸ hb))
       simpa using this
   · have hc':t=k:=by simp at hc;omega
     subst hc'
     (try simp only [go_sem,simprocAttr])
     obtain ⟨g1,g2,g3⟩:=ki_pass hw hk (l':=l2) (e:=e) hp0 hkn hend hl2 (by
       intro i hi
       obtain ⟨a1,a2⟩:=hv2 i hi
       split
       · rename_i hex
         obtain ⟨j,hj,he⟩:=hex
         refine a1 ?_
         rcases Nat.lt_or_ge j t with h | h
         · exact .inr ⟨j,h,he⟩
         · left;rw [he];congr 1;omega
       · rename_i hex
         have hno:¬ onWay ns p0 t i:=fun ⟨j,hj,he⟩=>hex ⟨j,by omega,he⟩
         rw [a2 (fun h=>by
           rcases h with h | h
           · exact hex ⟨t,Nat.le_refl _,h⟩
           · exact hno h)]
         exact (hkv i hi).2 hno)
     refine ⟨e,l2,_,_,pkf,rfl,g1,g2,g3,⟨o1',o2,o3',o4⟩,hm2.step hm4 (fun b hb _=>.inr (.inl hb)),hpk,by rw [hpl];omega⟩
end
section
open Go Go.W
def meet (ns:List Nd) (out:List Nat) (p:Nat):List Nat:=if over ns p∈out then out else out++[over ns p]
def meets (ns:List Nd) (out:List Nat) (l:List Int):List Nat:=l.foldl (fun o (p:Int)=>meet ns o p.toNat) out
def reach (ns:List Nd):Nat→Nat→List Nat→List Nat
 | 0,_,out=>out
 | f+1,i,out=>match out[i]? with
   | some x=>reach ns f (i+1) (meets ns out (ndAt ns x).args)
   | none=>out
def reached (ns:List Nd) (roots:List Int):List Nat:=reach ns (ns.length+1) 0 (meets ns [] roots)
def num (ns:List Nd) (out:List Nat) (p:Int):Int:=out.idxOf (over ns p.toNat)
def moveNd (ns:List Nd) (out:List Nat) (x:Nat):Nd:=⟨(ndAt ns x).kind,(ndAt ns x).num,(ndAt ns x).args.map (num ns out)⟩
def colNs (ns:List Nd) (roots:List Int):List Nd:=(reached ns roots).map (moveNd ns (reached ns roots))
def colRoots (ns:List Nd) (roots:List Int):List Int:=roots.map (num ns (reached ns roots))
def Met (ns:List Nd) (out:List Nat):Prop:=out.Nodup∧∀ x∈out,x < ns.length∧over ns x=x
theorem met_nil (ns:List Nd):Met ns []:=⟨List.nodup_nil,fun x h=>by cases h⟩
theorem met_len {ns:List Nd} {out:List Nat} (h:Met ns out):out.length≤ns.length:=nodup_le _ _ h.1 (fun x hx=>(h.2 x hx).1)
theorem met_meet {ns:List Nd} (hw:WF ns) {out:List Nat} (h:Met ns out) {p:Nat} (hp:p < ns.length):Met ns (meet ns out p):=by
 unfold meet
 split
 · exact h
 · rename_i hn
   refine ⟨?_,?_⟩
   · rw [List.nodup_append]
     refine ⟨h.1,by simp,?_⟩
     intro a ha b hb hab
     simp at hb
     exact hn (hb ▸ hab ▸ ha)
   · intro x hx
     rcases List.mem_append.1 hx with hx | hx
     · exact h.2 x hx
     · simp at hx;subst hx
       exact ⟨ov_lt (wf_nxt_lt hw) hp,ov_ov (wf_nxt_lt hw) hp⟩
theorem mem_meet (ns:List Nd) (out:List Nat) (p:Nat):over ns p∈meet ns out p:=by
 unfold meet;split
 · assumption
 · simp
theorem meet_pre (ns:List Nd) (out:List Nat) (p:Nat):out <+: meet ns out p:=by
 unfold meet;split
 · exact List.prefix_rfl
 · exact List.prefix_append _ _
theorem meets_pre (ns:List Nd) (l:List Int):∀ out,out <+: meets ns out l:=by
 induction l with
 | nil=>intro out;exact List.prefix_rfl
 | cons a l ih=>intro out;exact (meet_pre ns out a.toNat).trans (ih _)
theorem reach_pre (ns:List Nd):∀ f i out,out <+: reach ns f i out:=by
 intro f
 induction f with
 | zero=>intro i out;exact List.prefix_rfl
 | succ f ih=>
   intro i out
   unfold reach
   split
   · exact (meets_pre ns _ _).trans (ih _ _)
   · exact List.prefix_rfl
theorem idx_pre {a b:List Nat} (h:a <+: b) {x:Nat} (hx:x∈a):b.idxOf x=a.idxOf x:=by
 obtain ⟨t,rfl⟩:=h
 rw [List.idxOf_append,if_pos hx]
theorem reach_end (ns:List Nd) (f i:Nat) (out:List Nat) (h:out.length≤i):reach ns f i out=out:=by
 cases f with
 | zero=>rfl
 | succ f=>simp [reach,List.getElem?_eq_none h]
theorem reach_step (ns:List Nd) (f i:Nat) (out:List Nat) (h:i < out.length):reach ns (f+1) i out=reach ns f (i+1) (meets ns out (ndAt ns out[i]).args):=by
 simp [reach,h]
theorem met_meets {ns:List Nd} (hw:WF ns):∀ (l:List Int) {out:List Nat},Met ns out→okPl ns.length l=true→Met ns (meets ns out l):=by
 intro l
 induction l with
 | nil=>intro out h _;exact h
 | cons a l ih=>
   intro out h ho
   simp only [okPl,List.all_cons,Bool.and_eq_true,decide_eq_true_eq] at ho
   exact ih (met_meet hw h (by omega)) (by simpa [okPl] using ho.2)
structure MI (ns:List Nd) (l md:List Int) (out:List Nat):Prop where
 len:md.length=ns.length
 met:Met ns out
 old:∀ i,i < ns.length→md.getD i 0≠0→∃ j:Nat,md.getD i 0=j+1∧out[j]? = some (over ns i)∧l.getD i 0=i+1
 all:∀ (j x:Nat),out[j]? = some x→∃ e:Nat,e < ns.length∧md.getD e 0=j+1∧l.getD e 0=e+1
theorem mi_start (ns:List Nd) (l:List Int):MI ns l (List.replicate ns.length 0) []:=by
 have h0:∀ i,(List.replicate ns.length (0:Int)).getD i 0=0:=by intro i;simp [List.getElem?_replicate];split<;>rfl
 exact ⟨by simp,met_nil ns,fun i _ h=>absurd (h0 i) h,fun j x h=>by simp at h⟩
theorem mi_over {ns:List Nd} {l l' md:List Int} {out:List Nat} (h:MI ns l md out) (hm:∀ i,i < ns.length→l.getD i 0≠0→l'.getD i 0=l.getD i 0):MI ns l' md out:=by
 refine ⟨h.len,h.met,?_,?_⟩
 · intro i hi hk
   obtain ⟨j,h1,h2,h3⟩:=h.old i hi hk
   exact ⟨j,h1,h2,by rw [hm i hi (by omega)];exact h3⟩
 · intro j x hx
   obtain ⟨e,h1,h2,h3⟩:=h.all j x hx
   exact ⟨e,h1,h2,by rw [hm e h1 (by omega)];exact h3⟩
theorem idx_of {out:List Nat} (hn:out.Nodup) {j x:Nat} (h:out[j]? = some x):out.idxOf x=j:=by
 obtain ⟨hj,hx⟩:=List.getElem?_eq_some_iff.1 h
 subst hx
 exact hn.idxOf_getElem j hj
theorem mi_had {ns:List Nd} (hw:WF ns) {l md:List Int} {out:List Nat} (hk:KI ns l) (h:MI ns l md out) {p e:Nat} (hp:p < ns.length) (he:l.getD p 0=e+1) (hm:md.getD e 0≠0) :
   over ns p∈out∧meet ns out p=out∧md.getD e 0=(out.idxOf (over ns p):Nat)+1:=by
 obtain ⟨e',h1,h2,h3,h4,_⟩:=hk.rep p hp (by omega)
 obtain rfl:e'=e:=by omega
 obtain ⟨j,k1,k2,k3⟩:=h.old _ h2 hm
 rw [h3] at k2
 have hin:over ns p∈out:=List.mem_of_getElem? k2
 refine ⟨hin,by simp [meet,hin],?_⟩
 rw [idx_of h.met.1 k2];exact k1
theorem mi_new {ns:List Nd} (hw:WF ns) {l md:List Int} {out:List Nat} (hk:KI ns l) (h:MI ns l md out) {p e:Nat} (hp:p < ns.length) (he:l.getD p 0=e+1) (hm:md.getD e 0=0) :
   over ns p∉out∧meet ns out p=out++[over ns p]∧MI ns l (md.set e ((out.length:Int)+1)) (meet ns out p)∧e < ns.length∧over ns e=over ns p∧(ind ns e=true→ind ns (over ns p)=true):=by
 obtain ⟨e',h1,h2,h3,h4,h5⟩:=hk.rep p hp (by omega)
 obtain rfl:e'=e:=by omega
 have hno:over ns p∉out:=by
   intro hin
   obtain ⟨j,hj⟩:=List.getElem?_of_mem hin
   obtain ⟨i,k1,k2,k3⟩:=h.all j _ hj
   obtain ⟨j',q1,q2,q3⟩:=h.old i k1 (by omega)
   have:j'=j:=by omega
   subst this
   rw [hj] at q2
   have hov:over ns i=over ns e':=by rw [h3];exact (Option.some.inj q2).symm
   have:=hk.one i e' k1 h2 (by omega) (by omega) hov
   have:i=e':=by omega
   subst this
   omega
 have hmeet:meet ns out p=out++[over ns p]:=by simp [meet,hno]
 refine ⟨hno,hmeet,⟨by simp [h.len],met_meet hw h.met hp,?_,?_⟩,h2,h3,h5⟩
 · intro i hi hi0
   have hel:e' < md.length:=by rw [h.len];exact h2
   by_cases hie:e'=i
   · subst hie
     refine ⟨out.length,by simp [hel],?_,h4⟩
     rw [hmeet,h3];simp
   · have hg:(md.set e' ((out.length:Int)+1)).getD i 0=md.getD i 0:=by simp [List.getElem?_set,hie]
     rw [hg] at hi0 ⊢
     obtain ⟨j,q1,q2,q3⟩:=h.old i hi hi0
     refine ⟨j,q1,?_,q3⟩
     rw [hmeet,List.getElem?_append_left (List.getElem?_eq_some_iff.1 q2).1]
     exact q2
 · intro j x hx
   have hel:e' < md.length:=by rw [h.len];exact h2
   rw [hmeet] at hx
   rcases Nat.lt_or_ge j out.length with hj | hj
   · rw [List.getElem?_append_left hj] at hx
     obtain ⟨i,k1,k2,k3⟩:=h.all j x hx
     have hie:e'≠i:=by rintro rfl;omega
     exact ⟨i,k1,by simp only [List.getD_eq_getElem?_getD,List.getElem?_set,if_neg hie] at k2 ⊢;exact k2,k3⟩
   · have:j=out.length:=by
       have:=(List.getElem?_eq_some_iff.1 hx).1
       simp at this;omega
     subst this
     exact ⟨e',h2,by simp [hel],h4⟩
theorem same_nd {ns:List Nd} (hw:WF ns) {e x:Nat} (he:e < ns.length) (ho:over ns e=x) (hi:ind ns e=true→ind ns x=true) :
   (ndAt ns e).kind=(ndAt ns x).kind∧(ndAt ns e).num=(ndAt ns x).num∧(ndAt ns e).args.map (fun a:Int=>over ns a.toNat)=(ndAt ns x).args.map (fun a:Int=>over ns a.toNat):=by
 cases hie:ind ns e with
 | false=>
   have:over ns e=e:=ov_fix (nxt_fix hie)
   rw [this] at ho;subst ho
   exact ⟨rfl,rfl,rfl⟩
 | true=>
   have hix:=hi hie
   have hx:x < ns.length:=ho ▸ ov_lt (wf_nxt_lt hw) he
   have hxx:over ns x=x:=by rw [← ho];exact ov_ov (wf_nxt_lt hw) he
   obtain ⟨q,a1,a2,a3⟩:=wf_ind hw he hie
   obtain ⟨q',b1,b2,b3⟩:=wf_ind hw hx hix
   have k1:(ndAt ns e).kind=5:=by simpa [ind] using hie
   have k2:(ndAt ns x).kind=5:=by simpa [ind] using hix
   have m1:=(wf_at hw he).1
   have m2:=(wf_at hw hx).1
   simp only [Nd.may,mayB,k1,k2,decide_eq_true_eq] at m1 m2
   refine ⟨by rw [k1,k2],by omega,?_⟩
   rw [a2,b2]
   have e1:over ns q=x:=by rw [← a3];exact (ov_f (wf_nxt_lt hw) he).trans ho
   have e2:over ns q'=x:=by rw [← b3];exact (ov_f (wf_nxt_lt hw) hx).trans hxx
   simp [e1,e2]
end
section
open Go Go.W
def cpv (t:Nd×Nat):Nd×Value:=(t.1,.slice (some ⟨t.2,0,none⟩) t.1.args.length t.1.args.length)
structure ToAt (w:World) (to:Value) (ts:List (Nd×Nat)) (tfp:Option Nat):Prop where
 own:OwnS w 235 3 to (flat (ts.map cpv)) ts.length tfp
 row:∀ t∈ts,w.heap[t.2]? = some (.cells (t.1.args.map I).toArray 3 (0,0))
 nodup:(ts.map Prod.snd).Nodup
theorem ToAt.mod {w w':World} {to:Value} {ts:List (Nd×Nat)} {tfp:Option Nat} {S:Nat→Prop} (h:ToAt w to ts tfp) (hm:Mod S w w') (h1:∀ b,tfp=some b→¬ S b) (h2:∀ t∈ts,¬ S t.2):ToAt w' to ts tfp:=
 ⟨h.own.mod hm h1,fun t ht=>hm.at (h.row t ht) (h2 t ht),h.nodup⟩
structure MW (w:World) (X:Nat→Prop) (bm bo bd:Nat) (cf to pa:Value) (n:Nat) (l md path:List Int) (ts:List (Nd×Nat)) (tfp pfp:Option Nat):Prop where
 cells:w.heap[bm]? = some (.cells #[cf,to,.slice (some ⟨bo,0,none⟩) n n,.slice (some ⟨bd,0,none⟩) n n,pa] 239 (0,0))
 over:w.heap[bo]? = some (.cells (l.map I).toArray 3 (0,0))
 moved:w.heap[bd]? = some (.cells (md.map I).toArray 3 (0,0))
 path:OwnS w 3 1 pa (path.map I) path.length pfp
 to:ToAt w to ts tfp
 od:bo≠bd
 po:pfp≠some bo
 pd:pfp≠some bd
 tr:∀ t∈ts,t.2≠bo∧t.2≠bd∧pfp≠some t.2
 X1:¬ X bm∧¬ X bo∧¬ X bd
 X2:∀ b,pfp=some b→¬ X b
 X3:∀ b,tfp=some b→¬ X b
 X4:∀ t∈ts,¬ X t.2
 X5:∀ b,X b→b < w.heap.size
def MovePost (ns:List Nd) (w:World) (X:Nat→Prop) (bm bo bd:Nat) (cf:Value) (out:List Nat) (ts:List (Nd×Nat)) (p:Nat) (r:Value) (w':World):Prop:=
 ∃ (l' md' path':List Int) (to' pa':Value) (ts':List (Nd×Nat)) (tfp' pfp':Option Nat),r=I ((meet ns out p).idxOf (over ns p))∧KI ns l'∧MI ns l' md' (meet ns out p) ∧
   MW w' X bm bo bd cf to' pa' ns.length l' md' path' ts' tfp' pfp'∧Mod (fun b=>¬ X b) w w' ∧
   ((ts'=ts∧meet ns out p=out)∨∃ e b,ts'=ts++[(ndAt ns e,b)]∧meet ns out p=out++[over ns p]∧e < ns.length∧over ns e=over ns p∧(ind ns e=true→ind ns (over ns p)=true))
theorem move_ok (ns:List Nd) (hw:WF ns) (hn:ns.length≤1048576) (w:World) (X:Nat→Prop) (bm bo bd:Nat) (cf to pa:Value) (l md path:List Int) (ts:List (Nd×Nat)) (tfp pfp:Option Nat) (F:Nat→Prop) (out:List Nat)
   (hfr:FromAt 235 w cf ns F) (hFX:∀ b,F b→X b) (hm:MW w X bm bo bd cf to pa ns.length l md path ts tfp pfp) (hk:KI ns l) (hi:MI ns l md out) (hts:ts.length=out.length) (p:Nat) (hp:p < ns.length) :
   CallsR Tryz.prog 207 [.pointer (some ⟨bm,0,none⟩),I p] w (MovePost ns w X bm bo bd cf out ts p):=by
 have hargs:=wf_args_le hw
 refine fit207.calls rfl ?_
 unfold ir207
 (try simp only [go_sem,simprocAttr])
 refine e_call (by rfl) ?_
 have hbmo:bm≠bo:=fun h=>by have h1:=hm.cells;subst h;exact kind_ne hm.over h1 (by omega)
 have hbmd:bm≠bd:=fun h=>by have h1:=hm.cells;subst h;exact kind_ne hm.moved h1 (by omega)
 refine (pass_ok ns hw hn w bm bo cf to _ pa l path pfp F hfr (fun b hb hh=>?_) ⟨hm.cells,hm.over,hm.path,hm.po⟩ hk p hp).mono ?_
 · have:=hFX b hb
   rcases hh with rfl | rfl | hh
   · exact hm.X1.1 this
   · exact hm.X1.2.1 this
   · exact hm.X2 b hh this
 rintro r w1 ⟨e,l1,pa1,path1,pfp1,rfl,hk1,hle,hmono,⟨p1,p2,p3,p4⟩,hm1,hpf,hpl⟩
 have hi1:=mi_over hi hmono
 have hm1X:Mod (fun b=>¬ X b) w w1:=hm1.weak (fun b hb=>by
   rcases hb with rfl | rfl | hb
   · exact hm.X1.1
   · exact hm.X1.2.1
   · exact hm.X2 b hb)
 have hfr1:=hfr.mod hm1X (fun b hb h=>h (hFX b hb))
 have hmd1:=hm1.at hm.moved (fun h=>by
   rcases h with h | h | h
   · exact hbmd h.symm
   · exact hm.od h.symm
   · exact hm.pd h)
 have hto1:=hm.to.mod hm1 (fun b hb hh=>by
   have k0:=hm.to.own
   rcases hh with rfl | rfl | hh
   · exact own_kind k0 hb hm.cells (by omega)
   · exact own_kind k0 hb hm.over (by omega)
   · rcases hm.path.2 with ⟨_,_,h⟩ | ⟨b',c',sp',_,h,h',_⟩
     · rw [h] at hh;cases hh
     · rw [h] at hh;cases hh;exact own_kind k0 hb h' (by omega)) (fun t ht hh=>by
   have:=hm.tr t ht
   rcases hh with h | h | h
   · have k1:=hm.to.row t ht
     rw [h] at k1
     exact kind_ne k1 hm.cells (by omega)
   · exact this.1 h
   · exact this.2.2 h)
 have hrep:=hk1.rep p hp (by omega)
 obtain ⟨e',g1,g2,_⟩:=hrep
 obtain rfl:e'=e:=by omega
 have hsz1:=hm1.size
 have hpd1:pfp1≠some bd:=fun h=>by
   rcases hpf bd h with h | h
   · exact hm.pd h
   · have:=lt_of_heap hm.moved;omega
 have htr1:∀ t∈ts,t.2≠bo∧t.2≠bd∧pfp1≠some t.2:=fun t ht=>⟨(hm.tr t ht).1,(hm.tr t ht).2.1,fun h=>by
   rcases hpf t.2 h with h | h
   · exact (hm.tr t ht).2.2 h
   · have:=lt_of_heap (hm.to.row t ht);omega⟩
 have hX2:∀ b,pfp1=some b→¬ X b:=fun b hb hx=>by
   rcases hpf b hb with h | h
   · exact hm.X2 b h hx
   · have:=hm.X5 b hx;omega
 have hmd:=ints_at hmd1 (i:=e') (by rw [hi.len];exact g2)
 have b1:(0:Int)≤(e':Nat)∧((e':Nat):Int) < ns.length:=by omega
 (try simp only [go_sem,simprocAttr,zb4,zb6,cell_of p1,b1,hmd])
 refine ir_then (fun ρ w2=>∃ (md':List Int) (to':Value) (ts':List (Nd×Nat)) (tfp':Option Nat),MI ns l1 md' (meet ns out p)∧md'.getD e' 0=((meet ns out p).idxOf (over ns p):Nat)+1 ∧
    MW w2 X bm bo bd cf to' pa1 ns.length l1 md' path1 ts' tfp' pfp1∧Mod (fun b=>¬ X b) w w2∧((ts'=ts∧meet ns out p=out)∨∃ e b,ts'=ts++[(ndAt ns e,b)]∧meet ns out p=out++[over ns p]∧e < ns.length∧over ns e=over ns p∧(ind ns e=true→ind ns (over ns p)=true)) ∧
    ρ.get 0=some (.pointer (some ⟨bm,0,none⟩))∧ρ.get 1=some (I e')) ?_ ?_
 · refine ir_cond rfl (fun hc=>?_) (fun hc=>?_)
   · have hc':md.getD e' 0=0:=by simpa using hc
     obtain ⟨n1,n2,n3,n4,n5,n6⟩:=mi_new hw hk1 hi1 hp hle hc'
     obtain ⟨bc,cc,v,rfl,c0,c1,c2,cx,cb,cl⟩:=from_at hfr1 hargs g2
     have cl':vLN w1.drew 2 (.pointer (some ⟨bc,e'*3,none⟩))=some (.agg #[I (ndAt ns e').kind,I (ndAt ns e').num]):=cl
     (try simp only [go_sem,simprocAttr,zb4,zb6,cell_of p1,b1,c2,cl'])
     refine e_call (by rfl) ?_
     obtain ⟨xa,xc,rfl,_,_⟩:=id cx
     refine (copied_ok _ (ndAt ns e').args w1.drew cx).mono ?_
     rintro r w3 ⟨b3,rfl,hb3,hge3,hm3⟩
     have hm3:Mod (fun _=>False) w1 w3:=hm3.of_drew
     have hge3:w1.heap.size≤b3:=hge3
     (try simp only [go_sem,simprocAttr])
     refine ⟨⟨hm3.old _ (World.block_lt_of_cell? _ _ c0) (fun h=>h),hm3.old _ (lt_of_heap p1) (fun h=>h)⟩,?_⟩
     refine e_bs (by rfl) (by (try simp only [go_sem,simprocAttr]);rfl) ?_
     intro w4 hb4 hm4 hs4
     (try simp only [go_sem,simprocAttr])
     refine ⟨hm4.old _ (Nat.lt_of_lt_of_le (lt_of_heap p1) hm3.size) (fun h=>h),?_⟩
     have hm34:Mod (fun _=>False) w1 w4:=hm3.trans hm4
     have t4:=hto1.mod hm34 (fun _ _ h=>h) (fun _ _ h=>h)
     have p14:=hm34.at p1 (fun h=>h)
     have hb34:=hm4.at hb3 (fun h=>h)
     have hmlen:=met_len hi.met
     have hmlen':=met_len n3.met
     rw [n2] at hmlen'
     simp only [List.length_append,List.length_cons,List.length_nil] at hmlen'
     obtain ⟨ta,tc,htoe,_,_⟩:=t4.own.val
     refine e_ap (m:=1) (news:=nc (cpv (ndAt ns e',b3))) rfl t4.own rfl (fun h=>by cases h) (rd_block hb4) (by simp [nc,cpv,Value.oneCell']) rfl (by omega) (by omega) ?_
     intro v5 w5 fp5 ho5 hm5 hf5
     have htb:tfp≠some bm:=own_ne t4.own p14 (by omega)
     have p15:=hm5.at p14 htb
     have htb3:tfp≠some b3:=own_ne t4.own hb34 (by omega)
     have hb35:=hm5.at hb34 htb3
     obtain ⟨va5,vc5,rfl,_⟩:=ho5.val
     (try simp only [go_sem,simprocAttr])
     refine e_st1 (off:=1) rfl rfl p15 rfl (by simp) ?_
     intro w6 hb6 hm6 hs6
     (try simp only [go_sem,simprocAttr])
     have hm16:Mod (fun b=>b=bm∨tfp=some b) w1 w6:=((hm34.weak (fun _ h=>h.elim)).step hm5 (fun b hb _=>.inr hb)).step hm6 (fun b hb _=>.inl hb)
     have hno:∀ b,b=bm∨tfp=some b→∀ cs fz,w1.heap[b]? = some (.cells cs 3 fz)→False:=by
       rintro b (rfl | hb) cs fz hc
       · exact kind_ne p1 hc (by omega)
       · exact own_kind hto1.own hb hc (by omega)
     have hmd6:=hm16.at hmd1 (fun h=>hno _ h _ _ hmd1)
     (try simp only [go_sem,simprocAttr,zb4,zb6,cell_of hb6,b1])
     refine e_st1 (off:=e') rfl rfl hmd6 rfl (by simp;rw [hi.len];exact g2) ?_
     intro w7 hb7 hm7 hs7
     have hm7:Mod (· = bd) w6 w7:=hm7.of_drew
     rw [map_set] at hb7
     (try simp only [go_sem,simprocAttr])
     have hm7':∀ b,b≠bd→∀ o,w6.heap[b]? = some o→w7.heap[b]? = some o:=fun b hb o ho=>hm7.at ho hb
     have hall:Mod (fun b=>¬ X b) w w7:=(hm1X.step hm16 (fun b hb _ hx=>by
       rcases hb with rfl | hb
       · exact hm.X1.1 hx
       · exact hm.X3 b hb hx)).step hm7 (fun b hb _ hx=>by rw [hb] at hx;exact hm.X1.2.2 hx)
     have hs16:=hm16.size;have hs34:=hm3.size;have hs14:=hm34.size
     have hlen:(ts.length:Int)+1=(out.length:Int)+1:=by omega
     refine ⟨md.set e' ((out.length:Int)+1),.slice va5 (ts.length+1) vc5,ts++[(ndAt ns e',b3)],fp5,n3,?_,⟨?_,?_,?_,?_,⟨?_,?_,?_⟩,hm.od,p4,hpd1,?_,hm.X1,hX2,?_,?_,?_⟩,hall,.inr ⟨e',b3,rfl,n2,n4,n5,n6⟩⟩
     · rw [getD_set _ _ _ _ (by rw [hi.len];exact g2),if_pos rfl,n2,List.idxOf_append,if_neg n1]
       simp
     · refine hm7' bm hbmd _ ?_
       simpa using hb6
     · exact hm7' bo hm.od _ (hm16.at p2 (fun h=>hno _ h _ _ p2))
     · rw [← hlen];simpa using hb7
     · refine (p3.mod hm16 (fun b hb hh=>?_)).mod hm7 (fun b hb hh=>hpd1 (hh ▸ hb))
       rcases p3.2 with ⟨_,_,h⟩ | ⟨b',c',sp',_,h,h',_⟩
       · rw [h] at hb;cases hb
       · rw [h] at hb;cases hb;exact hno _ hh _ _ h'
     · have h1:=(ho5.mod hm6 (fun b hb hh=>own_kind ho5 hb (hh ▸ p15) (by omega)))
       have h2:=h1.mod hm7 (fun b hb hh=>own_kind h1 hb (hh ▸ hmd6) (by omega))
       simpa [flat_app,flat_one] using h2
     · intro t ht
       rcases List.mem_append.1 ht with ht | ht
       · exact hm7' t.2 (hm.tr t ht).2.1 _ (hm16.at (hto1.row t ht) (fun h=>hno _ h _ _ (hto1.row t ht)))
       · simp only [List.mem_cons,List.not_mem_nil,or_false] at ht;subst ht
         refine hm7' b3 ?_ _ (hm6.at hb35 (fun hh=>kind_ne hb35 (hh ▸ p15) (by omega)))
         have:=lt_of_heap hmd1;omega
     · rw [List.map_append,List.nodup_append]
       refine ⟨hto1.nodup,by simp,?_⟩
       intro a ha b hb hab
       obtain ⟨t,ht,rfl⟩:=List.mem_map.1 ha
       have:=lt_of_heap (hto1.row t ht)
       simp at hb;omega
     · intro t ht
       rcases List.mem_append.1 ht with ht | ht
       · exact htr1 t ht
       · simp only [List.mem_cons,List.not_mem_nil,or_false] at ht;subst ht
         have:=lt_of_heap hmd1;have:=lt_of_heap p2
         refine ⟨by show b3≠bo;omega,by show b3≠bd;omega,fun h=>?_⟩
         have:b3 < w1.heap.size:=p3.lt h
         omega
     · intro b hb hx
       have:=hm.X5 b hx
       rcases hf5 b hb with h | h
       · exact hm.X3 b h hx
       · omega
     · intro t ht hx
       rcases List.mem_append.1 ht with ht | ht
       · exact hm.X4 t ht hx
       · simp only [List.mem_cons,List.not_mem_nil,or_false] at ht;subst ht
         have:=hm.X5 _ hx
         have:b3 < w.heap.size:=this
         omega
     · intro b hx
       have:=hm.X5 b hx;have:=hall.size;omega
   · have hc':md.getD e' 0≠0:=by simpa using hc
     obtain ⟨n1,n2,n3⟩:=mi_had hw hk1 hi1 hp hle hc'
     (try simp only [go_sem,simprocAttr])
     refine ⟨md,to,ts,tfp,by rw [n2];exact hi1,by rw [n2];exact n3,⟨p1,p2,hmd1,p3,hto1,hm.od,p4,hpd1,htr1,hm.X1,hX2,hm.X3,hm.X4,fun b hx=>?_⟩,hm1X,.inl ⟨rfl,n2⟩⟩
     have:=hm.X5 b hx;omega
 · rintro ρ w2 ⟨md',to',ts',tfp',k1,k2,k3,k4,k5,r0,r1⟩
   have hmd2:=ints_at k3.moved (i:=e') (by rw [k1.len];exact g2)
   have hlen:=met_len k1.met
   have hmem:=List.idxOf_lt_length_iff.2 (mem_meet ns out p)
   have hwr:IntKind.i64.wrap (md'.getD e' 0 - 1)=((meet ns out p).idxOf (over ns p):Nat):=by rw [k2,wrap_in]<;>omega
   (try simp only [go_sem,simprocAttr,zb4,zb6,r0,r1,cell_of k3.cells,b1,hmd2,hwr])
   exact ⟨l1,md',path1,to',pa1,ts',tfp',pfp1,rfl,hk1,k1,k3,k4,k5⟩
end
section
open Go Go.W
structure Rel (ns:List Nd) (outF out:List Nat) (ts:List (Nd×Nat)) (i k:Nat):Prop where
 len:ts.length=out.length
 nd:∀ (j x:Nat),out[j]? = some x→∃ nd b,ts[j]? = some (nd,b)∧nd.kind=(ndAt ns x).kind∧nd.num=(ndAt ns x).num∧nd.args.length=(ndAt ns x).args.length ∧
   ∀ (t:Nat) (a a0:Int),nd.args[t]? = some a→(ndAt ns x).args[t]? = some a0→if j < i∨(j=i∧t < k) then a=num ns outF a0 else (0≤a∧a < ns.length∧over ns a.toNat=over ns a0.toNat)
theorem rel_nil (ns:List Nd) (outF:List Nat):Rel ns outF [] [] 0 0:=⟨rfl,fun j x h=>by simp at h⟩
theorem rel_app {ns:List Nd} (hw:WF ns) {outF out:List Nat} {ts:List (Nd×Nat)} {i k:Nat} (h:Rel ns outF out ts i k) (hi:i≤out.length) (hik:i=out.length→k=0) {e x b:Nat}
   (he:e < ns.length) (ho:over ns e=x) (hind:ind ns e=true→ind ns x=true):Rel ns outF (out++[x]) (ts++[(ndAt ns e,b)]) i k:=by
 refine ⟨by simp [h.len],?_⟩
 intro j y hy
 rcases Nat.lt_or_ge j out.length with hj | hj
 · rw [List.getElem?_append_left hj] at hy
   obtain ⟨nd,b',h1,h2⟩:=h.nd j y hy
   exact ⟨nd,b',by rw [List.getElem?_append_left (by rw [h.len];exact hj)];exact h1,h2⟩
 · have hjl:j=out.length:=by
     have:=(List.getElem?_eq_some_iff.1 hy).1
     simp at this;omega
   subst hjl
   have hyx:y=x:=by simpa using hy.symm
   subst hyx
   obtain ⟨s1,s2,s3⟩:=same_nd hw he ho hind
   have hl:(ndAt ns e).args.length=(ndAt ns y).args.length:=by have:=congrArg List.length s3;simpa using this
   refine ⟨ndAt ns e,b,by rw [← h.len];simp,s1,s2,hl,?_⟩
   intro t a a0 ha ha0
   rw [if_neg (by
     rintro (hh | ⟨hh,hk⟩)
     · omega
     · have:=hik hh.symm;omega)]
   have hok:=(wf_at hw he).2
   have hmem:a∈(ndAt ns e).args:=List.mem_of_getElem? ha
   have:=(List.all_eq_true.1 hok) a hmem
   simp at this
   refine ⟨this.1,this.2,?_⟩
   have h3:=congrArg (fun l=>l[t]?) s3
   simp [ha,ha0] at h3
   exact h3
theorem rel_next {ns:List Nd} {outF out:List Nat} {ts:List (Nd×Nat)} {i k x:Nat} (h:Rel ns outF out ts i k) (hx:out[i]? = some x) (hk:(ndAt ns x).args.length≤k):Rel ns outF out ts (i+1) 0:=by
 refine ⟨h.len,?_⟩
 intro j y hy
 obtain ⟨nd,b,h1,h2,h3,h4,h5⟩:=h.nd j y hy
 refine ⟨nd,b,h1,h2,h3,h4,?_⟩
 intro t a a0 ha ha0
 have:=h5 t a a0 ha ha0
 by_cases hji:j=i
 · subst hji
   rw [hx] at hy;cases hy
   have ht:t < (ndAt ns x).args.length:=(List.getElem?_eq_some_iff.1 ha0).1
   rw [if_pos (.inr ⟨rfl,by omega⟩)] at this
   rw [if_pos (.inl (by omega))]
   exact this
 · by_cases hlt:j < i
   · rw [if_pos (.inl hlt)] at this
     rw [if_pos (.inl (by omega))];exact this
   · rw [if_neg (by omega)] at this
     rw [if_neg (by omega)];exact this
theorem rel_set {ns:List Nd} {outF out:List Nat} {ts:List (Nd×Nat)} {i k x b:Nat} {nd:Nd} {a0:Int} (h:Rel ns outF out ts i k) (hx:out[i]? = some x) (ht:ts[i]? = some (nd,b)) (ha0:(ndAt ns x).args[k]? = some a0) :
   Rel ns outF out (ts.set i (⟨nd.kind,nd.num,nd.args.set k (num ns outF a0)⟩,b)) i (k+1):=by
 refine ⟨by simp [h.len],?_⟩
 intro j y hy
 obtain ⟨nd',b',h1,h2,h3,h4,h5⟩:=h.nd j y hy
 by_cases hji:i=j
 · subst hji
   rw [hx] at hy;cases hy
   rw [ht] at h1;cases h1
   have hi:i < ts.length:=(List.getElem?_eq_some_iff.1 ht).1
   refine ⟨⟨nd.kind,nd.num,nd.args.set k (num ns outF a0)⟩,b,by rw [List.getElem?_set,if_pos rfl,if_pos hi],h2,h3,by simpa using h4,?_⟩
   intro t a a1 ha ha1
   simp only [List.getElem?_set] at ha
   split at ha
   · rename_i hkt
     subst hkt
     rw [if_pos (.inr ⟨rfl,by omega⟩)]
     split at ha
     · rw [ha0] at ha1;cases ha1;exact (Option.some.inj ha).symm
     · cases ha
   · rename_i hkt
     have:=h5 t a a1 ha ha1
     by_cases htk:t < k
     · rw [if_pos (.inr ⟨rfl,htk⟩)] at this
       rw [if_pos (.inr ⟨rfl,by omega⟩)];exact this
     · rw [if_neg (by omega)] at this
       rw [if_neg (by omega)];exact this
 · refine ⟨nd',b',by rw [List.getElem?_set,if_neg hji];exact h1,h2,h3,h4,?_⟩
   intro t a a1 ha ha1
   have:=h5 t a a1 ha ha1
   by_cases hlt:j < i
   · rw [if_pos (.inl hlt)] at this
     rw [if_pos (.inl hlt)];exact this
   · rw [if_neg (by omega)] at this
     rw [if_neg (by omega)];exact this
theorem rel_done {ns:List Nd} {outF:List Nat} {ts:List (Nd×Nat)} {i:Nat} (h:Rel ns outF outF ts i 0) (hi:outF.length≤i):ts.map Prod.fst=outF.map (moveNd ns outF):=by
 apply List.ext_getElem?
 intro j
 rcases Nat.lt_or_ge j outF.length with hj | hj
 · obtain ⟨nd,b,h1,h2,h3,h4,h5⟩:=h.nd j outF[j] (by simp [hj])
   simp only [List.getElem?_map,h1,Option.map_some,List.getElem?_eq_getElem hj]
   congr 1
   have:nd.args=(ndAt ns outF[j]).args.map (num ns outF):=by
     apply List.ext_getElem?
     intro t
     rcases Nat.lt_or_ge t nd.args.length with ht | ht
     · have e1:nd.args[t]? = some nd.args[t]:=List.getElem?_eq_getElem ht
       have e2:(ndAt ns outF[j]).args[t]? = some ((ndAt ns outF[j]).args[t]'(by omega)):=List.getElem?_eq_getElem (by omega)
       have:=h5 t _ _ e1 e2
       rw [if_pos (.inl (by omega))] at this
       rw [e1,List.getElem?_map,e2,Option.map_some,this]
     · rw [List.getElem?_eq_none ht,List.getElem?_eq_none (by simp;omega)]
   obtain ⟨k1,n1,a1⟩:=nd
   simp only [moveNd]
   simp only at h2 h3 this
   rw [h2,h3,this]
 · rw [List.getElem?_eq_none (by simp [h.len];exact hj),List.getElem?_eq_none (by simpa using hj)]
theorem meets_app (ns:List Nd) (a b:List Int) (out:List Nat):meets ns out (a++b)=meets ns (meets ns out a) b:=by simp [meets]
theorem meets_take (ns:List Nd) (l:List Int) (out:List Nat) {k:Nat} {a:Int} (h:l[k]? = some a):meets ns out (l.take (k+1))=meet ns (meets ns out (l.take k)) a.toNat:=by
 obtain ⟨hk,rfl⟩:=List.getElem?_eq_some_iff.1 h
 rw [List.take_succ_eq_append_getElem hk,meets_app];rfl
theorem meets_take_pre (ns:List Nd) (l:List Int) (out:List Nat) (k:Nat):meets ns out (l.take k) <+: meets ns out l:=by
 conv=>rhs;rw [← List.take_append_drop k l,meets_app]
 exact meets_pre ns _ _
theorem meet_over (ns:List Nd) (out:List Nat) {p q:Nat} (h:over ns p=over ns q):meet ns out p=meet ns out q:=by simp [meet,h]
end
section
open Go Go.W
def ColPost (Ta Tc:Nat) (a:Nat) (size times:Int) (F:Nat→Prop) (w:World) (ns:List Nd) (roots:List Int) (r:Value) (w':World):Prop:=
 (okPl ns.length roots=false→r = .tuple #[.slice none 0 0,I 202]∧Mod (fun _=>False) w w') ∧
 (okPl ns.length roots=true→∃ v fp F',r = .tuple #[v,I 0]∧OwnS w' 3 1 v ((colRoots ns roots).map I) (colRoots ns roots).length fp ∧
   ArenaAt Ta Tc w' a size (IntKind.i64.wrap (times+1)) (colNs ns roots) F'∧Grow F F' w w'∧∀ b,fp=some b→w.heap.size≤b∧¬ F' b)
theorem MW.modX {w w':World} {X S:Nat→Prop} {bm bo bd:Nat} {cf to pa:Value} {n:Nat} {l md path:List Int} {ts:List (Nd×Nat)} {tfp pfp:Option Nat} (h:MW w X bm bo bd cf to pa n l md path ts tfp pfp)
   (hm:Mod S w w') (hs:∀ b,S b→X b):MW w' X bm bo bd cf to pa n l md path ts tfp pfp:=
 ⟨hm.at h.cells (fun hh=>h.X1.1 (hs _ hh)),hm.at h.over (fun hh=>h.X1.2.1 (hs _ hh)),hm.at h.moved (fun hh=>h.X1.2.2 (hs _ hh)),h.path.mod hm (fun b hb hh=>h.X2 b hb (hs _ hh)),
   h.to.mod hm (fun b hb hh=>h.X3 b hb (hs _ hh)) (fun t ht hh=>h.X4 t ht (hs _ hh)),h.od,h.po,h.pd,h.tr,h.X1,h.X2,h.X3,h.X4,fun b hb=>Nat.lt_of_lt_of_le (h.X5 b hb) hm.size⟩
theorem fill_next (f:Int→Int) (l:List Int) (z:Value) (k:Nat) (hk:k < l.length) :
   (((l.take k).map f).map I++List.replicate (l.length - k) z).set k (I (f l[k]))=((l.take (k+1)).map f).map I++List.replicate (l.length - (k+1)) z:=by
 have h1:(((l.take k).map f).map I).length=k:=by simp;omega
 rw [List.set_append,if_neg (by omega),h1,Nat.sub_self,show l.length - k=(l.length - (k+1))+1 by omega,List.replicate_succ,List.set_cons_zero,List.take_succ_eq_append_getElem hk]
 simp only [List.map_append,List.map_cons,List.map_nil,List.append_assoc,List.cons_append,List.nil_append]
theorem to_at {w:World} {to:Value} {ts:List (Nd×Nat)} {tfp:Option Nat} (h:ToAt w to ts tfp) {i b:Nat} {nd:Nd} (hi:ts[i]? = some (nd,b)) :
   ∃ tb tc,to = .slice (some ⟨tb,0,none⟩) ts.length tc∧w.cell? ⟨tb,i*3+2,none⟩=some (.slice (some ⟨b,0,none⟩) nd.args.length nd.args.length)∧w.heap[b]? = some (.cells (nd.args.map I).toArray 3 (0,0)):=by
 obtain ⟨hlt,he⟩:=List.getElem?_eq_some_iff.1 hi
 obtain ⟨tb,tc,sp',rfl,rfl,h3,_,_⟩:=h.own.pos (by omega)
 refine ⟨tb,tc,rfl,?_,?_⟩
 · have:=node_cell h3 (i:=i) (k:=2) (by simpa using hlt) (by omega)
   rw [this]
   simp [nc,cpv,he]
 · have:=h.row _ (List.getElem_mem hlt)
   rw [he] at this;exact this
theorem map_set_same {α β:Type} (f:α→β) (l:List α) (i:Nat) (y x:α) (hx:l[i]? = some x) (h:f y=f x):(l.set i y).map f=l.map f:=by
 apply List.ext_getElem?
 intro j
 simp only [List.getElem?_map,List.getElem?_set]
 split
 · rename_i hij;subst hij
   rw [if_pos (List.getElem?_eq_some_iff.1 hx).1,hx];simp [h]
 · rfl
theorem MW.set {w w':World} {X:Nat→Prop} {bm bo bd:Nat} {cf to pa:Value} {n:Nat} {l md path:List Int} {ts:List (Nd×Nat)} {tfp pfp:Option Nat} (h:MW w X bm bo bd cf to pa n l md path ts tfp pfp)
   {i b:Nat} {nd:Nd} (hi:ts[i]? = some (nd,b)) {xs:List Int} (hl:xs.length=nd.args.length) (hm:Mod (· = b) w w') (hb:w'.heap[b]? = some (.cells (xs.map I).toArray 3 (0,0))) :
   MW w' X bm bo bd cf to pa n l md path (ts.set i (⟨nd.kind,nd.num,xs⟩,b)) tfp pfp:=by
 have hmem:=List.mem_of_getElem? hi
 obtain ⟨hlt,he⟩:=List.getElem?_eq_some_iff.1 hi
 have hrow:=h.to.row _ hmem
 have htr:=h.tr _ hmem
 have hsnd:(ts.set i (⟨nd.kind,nd.num,xs⟩,b)).map Prod.snd=ts.map Prod.snd:=map_set_same _ _ _ _ _ hi rfl
 have hflat:flat ((ts.set i (⟨nd.kind,nd.num,xs⟩,b)).map cpv)=flat (ts.map cpv):=by
   simp only [flat,List.flatMap_map]
   have:(ts.set i (⟨nd.kind,nd.num,xs⟩,b)).map (fun t=>nc (cpv t))=ts.map (fun t=>nc (cpv t)):=map_set_same _ _ _ _ _ hi (by simp [nc,cpv,hl])
   rw [List.flatMap_def,List.flatMap_def,this]
 have hset:∀ t,t∈ts.set i (⟨nd.kind,nd.num,xs⟩,b)→t=(⟨nd.kind,nd.num,xs⟩,b)∨(t∈ts∧t.2≠b):=by
   intro t ht
   obtain ⟨j,hj⟩:=List.getElem?_of_mem ht
   rw [List.getElem?_set] at hj
   split at hj
   · first
       | exact .inl (Option.some.inj hj).symm
       | (split at hj
          · exact .inl (Option.some.inj hj).symm
          · cases hj)
   · rename_i hij
     refine .inr ⟨List.mem_of_getElem? hj,fun hh=>?_⟩
     obtain ⟨hjl,hje⟩:=List.getElem?_eq_some_iff.1 hj
     have h1:(ts.map Prod.snd)[i]'(by simpa using hlt)=(ts.map Prod.snd)[j]'(by simpa using hjl):=by simp [he,hje,hh]
     exact hij ((List.getElem_inj h.to.nodup).1 h1)
 refine ⟨hm.at h.cells (fun hh=>by subst hh;exact kind_ne hrow h.cells (by omega)),hm.at h.over (fun hh=>htr.1 hh.symm),hm.at h.moved (fun hh=>htr.2.1 hh.symm),h.path.mod hm (fun b' hb' hh=>htr.2.2 (by rw [hb',hh])),
   ⟨?_,?_,by rw [hsnd];exact h.to.nodup⟩,h.od,h.po,h.pd,?_,h.X1,h.X2,h.X3,?_,fun b hb=>Nat.lt_of_lt_of_le (h.X5 b hb) hm.size⟩
 · rw [hflat]
   simpa using h.to.own.mod hm (fun b' hb' hh=>own_kind h.to.own hb' (hh ▸ hrow) (by omega))
 · intro t ht
   rcases hset t ht with rfl | ⟨h1,h2⟩
   · exact hb
   · exact hm.at (h.to.row t h1) h2
 · intro t ht
   rcases hset t ht with rfl | ⟨h1,h2⟩
   · exact htr
   · exact h.tr t h1
 · intro t ht
   rcases hset t ht with rfl | ⟨h1,h2⟩
   · have:=h.X4 _ hmem
     exact this
   · exact h.X4 t h1
def CI (ns:List Nd) (outF:List Nat) (w w':World) (bm bo bd bu:Nat) (cf:Value) (out:List Nat) (i k:Nat) (bi:Option Nat) (us:List Value):Prop:=
 ∃ l md path to pa ts tfp pfp,MW w' (fun b=>b < w.heap.size∨b=bu) bm bo bd cf to pa ns.length l md path ts tfp pfp∧KI ns l∧MI ns l md out∧Rel ns outF out ts i k ∧
   (∀ b,bi=some b→∃ nd,ts[i]? = some (nd,b))∧Mod (fun _=>False) w w'∧w'.heap[bu]? = some (.cells us.toArray 3 (0,0))∧w.heap.size≤bu
theorem ci_move {ns:List Nd} (hw:WF ns) (hn:ns.length≤1048576) {outF:List Nat} {w w':World} {bm bo bd bu:Nat} {cf:Value} {out:List Nat} {i k:Nat} {bi:Option Nat} {us:List Value} {F:Nat→Prop}
   (hfr:FromAt 235 w cf ns F) (h:CI ns outF w w' bm bo bd bu cf out i k bi us) (hi:i≤out.length) (hik:i=out.length→k=0) {p:Nat} (hp:p < ns.length) (hpre:meet ns out p <+: outF) :
   CallsR Tryz.prog 207 [.pointer (some ⟨bm,0,none⟩),I p] w' (fun r w2=>r=I (outF.idxOf (over ns p):Nat)∧CI ns outF w w2 bm bo bd bu cf (meet ns out p) i k bi us):=by
 obtain ⟨l,md,path,to,pa,ts,tfp,pfp,h1,h2,h3,h4,h5,h6,h7,h8⟩:=h
 have hF:∀ b,F b→b < w.heap.size:=by obtain ⟨_,_,_,_,_,_,h⟩:=hfr;exact h
 refine (move_ok ns hw hn w' _ bm bo bd cf to pa l md path ts tfp pfp F out (hfr.mod h6 (fun _ _ h=>h)) (fun b hb=>.inl (hF b hb)) h1 h2 h3 h4.len p hp).mono ?_
 rintro r w2 ⟨l',md',path',to',pa',ts',tfp',pfp',rfl,k1,k2,k3,k4,k5⟩
 refine ⟨by rw [idx_pre hpre (mem_meet ns out p)],l',md',path',to',pa',ts',tfp',pfp',k3,k1,k2,?_,?_,h6.step k4 (fun b hb hlt=>hb (.inl hlt)),k4.at h7 (fun hh=>hh (.inr rfl)),h8⟩
 · rcases k5 with ⟨rfl,e⟩ | ⟨e,b,rfl,e1,e2,e3,e4⟩
   · rw [e];exact h4
   · rw [e1];exact rel_app hw h4 hi hik e2 e3 e4
 · intro b hb
   obtain ⟨nd,hnd⟩:=h5 b hb
   rcases k5 with ⟨rfl,e⟩ | ⟨e,b,rfl,e1,e2,e3,e4⟩
   · exact ⟨nd,hnd⟩
   · exact ⟨nd,by rw [List.getElem?_append_left (List.getElem?_eq_some_iff.1 hnd).1];exact hnd⟩
theorem col_ok (a:Nat) (size times:Int) (ns:List Nd) (F:Nat→Prop) (w:World) (v:Value) (roots:List Int) (h:ArenaAt 165 235 w a size times ns F) (hn:ns.length≤1048576) (hw:WF ns) (hx:Ints w v roots) :
   CallsR Tryz.prog 198 [.pointer (some ⟨a,0,none⟩),v] w (ColPost 165 235 a size times F w ns roots):=by
 have hh:=h.has
 have hx0:=hx
 obtain ⟨va,vc,rfl,hxl,_⟩:=hx0
 refine fit198.calls rfl ?_
 unfold ir198
 (try simp only [go_sem,simprocAttr])
 refine e_call (by rfl) ?_
 refine (places_ok a ns.length _ roots w hh hx).mono ?_
 rintro r _ ⟨rfl,rfl⟩
 (try simp only [go_sem,simprocAttr])
 refine ir_cond rfl (fun hc=>?_) (fun hc=>?_)
 · have hc':okPl ns.length roots=false:=by simpa using hc
   (try simp only [go_sem,simprocAttr])
   exact ⟨fun _=>⟨rfl,Mod.refl _ _⟩,fun h=>by rw [hc'] at h;cases h⟩
 have hc':okPl ns.length roots=true:=by simpa using hc
 obtain ⟨cv,fpc,ps,g1,g2,g3,g4,g5,g6,g7⟩:=id h
 have hFa:a < w.heap.size:=lt_of_heap g1
 have hfr:FromAt 235 w cv ns F:=⟨fpc,ps,g3,g4,g5,g6,g7⟩
 obtain ⟨ca,cc,rfl,_,_⟩:=g3.val
 (try simp only [go_sem,simprocAttr,cell_of g1])
 refine wpD_cut (fun ρ w'=>∃ bo bd bm,ρ.get 0=some (.pointer (some ⟨a,0,none⟩))∧ρ.get 1=some (.slice va roots.length vc)∧ρ.get 6=some (.pointer (some ⟨bm,0,none⟩)) ∧
   w'.heap[bm]? = some (.cells #[.slice ca ns.length cc,.slice none 0 0,.slice (some ⟨bo,0,none⟩) ns.length ns.length,.slice (some ⟨bd,0,none⟩) ns.length ns.length,.slice none 0 0] 239 (0,0)) ∧
   w'.heap[bo]? = some (.cells (List.replicate ns.length (I 0)).toArray 3 (0,0))∧w'.heap[bd]? = some (.cells (List.replicate ns.length (I 0)).toArray 3 (0,0))∧bo≠bd∧w.heap.size≤bo∧w.heap.size≤bd∧w.heap.size≤bm ∧
   Mod (fun _=>False) w w') ?_ ?_
 · rw [wpD_e2]
   refine ⟨?_,?_⟩
   · refine e_ms1 (n:=ns.length) rfl (by omega) (by omega) ?_
     intro w1 hb1 hm1 hs1
     have hm1:Mod (fun _=>False) w w1:=hm1.of_drew
     have hs1:w1.heap.size=w.heap.size+1:=hs1
     (try simp only [go_sem,simprocAttr])
     have ka:=hm1.old a hFa (fun h=>h)
     refine ⟨by simp only [drew_heap,ka,and_self,implies_true],?_⟩
     refine e_ms1 (n:=ns.length) rfl (by omega) (by omega) ?_
     intro w2 hb2 hm2 hs2
     have ka2:=hm2.old a (by omega) (fun h=>h)
     (try simp only [go_sem,simprocAttr])
     refine ⟨by simp only [drew_heap,ka2,and_self,implies_true],?_⟩
     refine e_bx rfl ?_
     intro w3 hb3 hm3 hs3
     (try simp only [go_sem,simprocAttr])
     refine ⟨w.heap.size,w1.heap.size,w2.heap.size,?_⟩
     have hm23:=hm2.trans hm3
     refine ⟨rfl,hb3,hm23.at hb1 (fun h=>h),hm3.at hb2 (fun h=>h),?_,?_,?_,?_,(hm1.trans hm2).trans hm3⟩
     all_goals omega
   · refine e_ms1 (n:=ns.length) rfl (by omega) (by omega) ?_
     intro w1 hb1 hm1 hs1
     have hm1:Mod (fun _=>False) w w1:=hm1.of_drew
     have hs1:w1.heap.size=w.heap.size+1:=hs1
     (try simp only [go_sem,simprocAttr])
     have ka:=hm1.old a hFa (fun h=>h)
     refine ⟨by simp only [drew_heap,ka,and_self,implies_true],?_⟩
     refine e_ms1 (n:=ns.length) rfl (by omega) (by omega) ?_
     intro w2 hb2 hm2 hs2
     have ka2:=hm2.old a (by omega) (fun h=>h)
     (try simp only [go_sem,simprocAttr])
     refine ⟨by simp only [drew_heap,ka2,and_self,implies_true],?_⟩
     refine e_bx rfl ?_
     intro w3 hb3 hm3 hs3
     (try simp only [go_sem,simprocAttr])
     refine ⟨w1.heap.size,w.heap.size,w2.heap.size,?_⟩
     have hm23:=hm2.trans hm3
     refine ⟨rfl,hb3,hm3.at hb2 (fun h=>h),hm23.at hb1 (fun h=>h),?_,?_,?_,?_,(hm1.trans hm2).trans hm3⟩
     all_goals omega
 rintro ρ w3 ⟨bo,bd,bm,r0,r1,r6,m1,m2,m3,mod,mo,md,mm,hm3⟩
 (try simp only [go_sem,simprocAttr,r0,r1,r6])
 refine e_ms1 (n:=roots.length) rfl (by omega) (by omega) ?_
 intro w4 hb4 hm4 hs4
 have hm4w:=hm3.trans hm4
 have hm4w:=hm3.trans hm4
 have hokr:∀ (k:Nat) (hk:k < roots.length),0≤roots[k]∧roots[k] < ns.length:=fun k hk=>by
   have:=(List.all_eq_true.1 hc') roots[k] (List.getElem_mem hk)
   simpa using this
 have hbu:w.heap.size≤w3.heap.size:=hm3.size
 have hrep0:List.replicate ns.length (I 0)=(List.replicate ns.length (0:Int)).map I:=by simp
 have hne:∀ b o,w3.heap[b]? = some o→b≠w3.heap.size:=fun b o h=>by have:=lt_of_heap h;omega
 have hci0:CI ns (reached ns roots) w w4 bm bo bd w3.heap.size (.slice ca ns.length cc) [] 0 0 none (List.replicate roots.length (I 0)):=by
   refine ⟨List.replicate ns.length 0,List.replicate ns.length 0,[],.slice none 0 0,.slice none 0 0,[],none,none,?_,ki_start ns,mi_start ns _,rel_nil ns _,(fun b h=>by cases h),hm4w,hb4,hbu⟩
   have n1:=hne _ _ m1;have n2:=hne _ _ m2;have n3:=hne _ _ m3
   refine ⟨hm4.at m1 (fun h=>h),by rw [← hrep0];exact hm4.at m2 (fun h=>h),by rw [← hrep0];exact hm4.at m3 (fun h=>h),OwnS.nil _ _ _,⟨OwnS.nil _ _ _,(fun t h=>by cases h),List.nodup_nil⟩,mod,(fun h=>by cases h),(fun h=>by cases h),(fun t h=>by cases h),?_,(fun b h=>by cases h),(fun b h=>by cases h),(fun t h=>by cases h),?_⟩
   · omega
   · intro b hb;omega
 (try simp only [go_sem,simprocAttr])
 refine ir_loop (fun m ρ w'=>∃ k:Nat,m=roots.length - k∧k≤roots.length∧CI ns (reached ns roots) w w' bm bo bd w3.heap.size (.slice ca ns.length cc) (meets ns [] (roots.take k)) 0 0 none (((roots.take k).map (num ns (reached ns roots))).map I++List.replicate (roots.length - k) (I 0)) ∧
   ρ=[(0,.pointer (some ⟨a,0,none⟩)),(6,.pointer (some ⟨bm,0,none⟩)),(7,.slice (some ⟨w3.heap.size,0,none⟩) roots.length roots.length),(39,.slice va roots.length vc),(40,I roots.length),(41,I k)]) roots.length
   ⟨0,rfl,by omega,by simpa [meets] using hci0,rfl⟩ ?_
 rintro m ρ w5 ⟨k,rfl,hk,hci,rfl⟩
 unfold ir198L1
 (try simp only [go_sem,simprocAttr])
 refine ir_cond rfl (fun hlt=>?_) (fun hlt=>?_)
 · have hlt':k < roots.length:=by simpa using hlt
   have hx5:Ints w5 (.slice va roots.length vc) roots:=by
     obtain ⟨_,_,_,_,_,_,_,_,_,_,_,_,_,hm,_⟩:=hci
     exact hx.mod hm (fun _ _ h=>h)
   obtain ⟨_,_,hve,_,hxx⟩:=id hx5
   cases hve
   obtain ⟨ad,rfl,had⟩:=hxx k hlt'
   have b1:(0:Int)≤k∧(k:Int) < roots.length:=by omega
   have hr:=hokr k hlt'
   have hrn:roots[k]=((roots[k].toNat:Nat):Int):=by omega
   rw [hrn] at had
   (try simp only [go_sem,simprocAttr,zb4,zb6,b1,had])
   have hpre:meet ns (meets ns [] (roots.take k)) roots[k].toNat <+: reached ns roots:=by
     rw [← meets_take ns roots [] (a:=roots[k]) (by simp [hlt'])]
     exact (meets_take_pre ns roots [] (k+1)).trans (reach_pre ns _ _ _)
   refine e_call (by rfl) ?_
   refine (ci_move hw hn hfr hci (by omega) (fun _=>rfl) (by omega) hpre).mono ?_
   rintro r w6 ⟨rfl,l,md,path,to,pa,ts,tfp,pfp,q1,q2,q3,q4,q5,q6,q7,q8⟩
   (try simp only [go_sem,simprocAttr,zb4,zb6,b1])
   refine e_st1 (off:=k) rfl rfl q7 rfl (by simp;omega) ?_
   intro w7 hb7 hm7 hs7
   have hwt:IntKind.i64.wrap ((k:Int)+1)=((k+1:Nat):Int):=by rw [wrap_in]<;>omega
   (try simp only [go_sem,simprocAttr,hwt])
   refine ⟨_,?_,k+1,rfl,by omega,⟨l,md,path,to,pa,ts,tfp,pfp,q1.modX hm7 (fun b hb=>.inr hb),q2,?_,?_,q5,q6.step hm7 (fun b hb hlt=>by omega),?_,q8⟩,rfl⟩
   · omega
   · rw [meets_take ns roots [] (a:=roots[k]) (by simp [hlt'])];exact q3
   · rw [meets_take ns roots [] (a:=roots[k]) (by simp [hlt'])];exact q4
   · rw [hb7]
     congr 3
     exact fill_next (num ns (reached ns roots)) roots (I 0) k hlt'
 · have hlt':k=roots.length:=by simp at hlt;omega
   subst hlt'
   (try simp only [go_sem,simprocAttr])
   have husl:((roots.take roots.length).map (num ns (reached ns roots))).map I++List.replicate (roots.length - roots.length) (I 0)=(colRoots ns roots).map I:=by simp [colRoots]
   rw [husl,List.take_length] at hci
   refine ir_loop (fun m ρ w'=>∃ (i f:Nat) (out:List Nat),m=ns.length+1 - i∧f+i=ns.length+1∧i≤out.length∧reach ns f i out=reached ns roots ∧
     CI ns (reached ns roots) w w' bm bo bd w3.heap.size (.slice ca ns.length cc) out i 0 none ((colRoots ns roots).map I) ∧
     ρ=[(0,.pointer (some ⟨a,0,none⟩)),(6,.pointer (some ⟨bm,0,none⟩)),(7,.slice (some ⟨w3.heap.size,0,none⟩) roots.length roots.length),(10,I i)]) (ns.length+1)
     ⟨0,ns.length+1,_,rfl,rfl,Nat.zero_le _,rfl,hci,rfl⟩ ?_
   rintro m ρ w6 ⟨i,f,out,rfl,hfi,hio,hrch,hci6,rfl⟩
   unfold ir198L3
   obtain ⟨l,md',path,to,pa,ts,tfp,pfp,q1,q2,q3,q4,q5,q6,q7,q8⟩:=id hci6
   obtain ⟨ta,tc,rfl,_,_⟩:=q1.to.own.val
   have hmetl:=met_len q3.met
   (try simp only [go_sem,simprocAttr,zb4,zb6,cell_of q1.cells])
   refine ir_cond rfl (fun hlt=>?_) (fun hlt=>?_)
   · have hlt':i < ts.length:=by simpa using hlt
     have hilt:i < out.length:=by rw [← q4.len];exact hlt'
     have hxo:out[i]? = some out[i]:=by simp [hilt]
     obtain ⟨nd,b,t1,t2,t3,t4,t5⟩:=q4.nd i out[i] hxo
     obtain ⟨tb,tc',hte,tcell,trow⟩:=to_at q1.to t1
     cases hte
     have b1:(0:Int)≤i∧(i:Int) < ts.length:=by omega
     (try simp only [go_sem,simprocAttr,zb4,zb6,cell_of q1.cells,b1,tcell])
     have hAlen:nd.args.length=(ndAt ns out[i]).args.length:=t4
     have hA8:nd.args.length≤8:=by
       rw [t4]
       have hx:=q3.met.2 out[i] (List.getElem_mem hilt)
       have hm:=(wf_at hw hx.1).1
       simp only [Nd.may,mayB,decide_eq_true_eq] at hm
       omega
     obtain ⟨f,rfl⟩:∃ f',f=f'+1:=⟨f - 1,by omega⟩
     have hstep:=reach_step ns f i out hilt
     rw [hstep] at hrch
     have hpreF:meets ns out (ndAt ns out[i]).args <+: reached ns roots:=by rw [← hrch];exact reach_pre ns _ _ _
     have hx5:=out[i]
     refine ir_loop (fun m ρ w'=>∃ k:Nat,m=nd.args.length - k∧k≤nd.args.length∧CI ns (reached ns roots) w w' bm bo bd w3.heap.size (.slice ca ns.length cc) (meets ns out ((ndAt ns out[i]).args.take k)) i k (some b) ((colRoots ns roots).map I) ∧
       ρ=[(0,.pointer (some ⟨a,0,none⟩)),(6,.pointer (some ⟨bm,0,none⟩)),(7,.slice (some ⟨w3.heap.size,0,none⟩) roots.length roots.length),(10,I i),(69,.slice (some ⟨b,0,none⟩) nd.args.length nd.args.length),(70,I nd.args.length),(71,I k)]) nd.args.length
       ⟨0,rfl,Nat.zero_le _,⟨l,md',path,_,pa,ts,tfp,pfp,q1,q2,q3,q4,(fun b' hb'=>by cases hb';exact ⟨nd,t1⟩),q6,q7,q8⟩,rfl⟩ ?_
     rintro m ρ w7 ⟨k,rfl,hk,hci7,rfl⟩
     have houtk:out <+: meets ns out ((ndAt ns out[i]).args.take k):=meets_pre ns _ _
     have hoklen:=houtk.length_le
     have hxk:(meets ns out ((ndAt ns out[i]).args.take k))[i]? = some out[i]:=by
       obtain ⟨tl,htl⟩:=houtk
       rw [← htl,List.getElem?_append_left hilt];exact hxo
     unfold ir198L2
     (try simp only [go_sem,simprocAttr])
     refine ir_cond rfl (fun hkl=>?_) (fun hkl=>?_)
     · have hkl':k < nd.args.length:=by simpa using hkl
       obtain ⟨l2,md2,path2,to2,pa2,ts2,tfp2,pfp2,u1,u2,u3,u4,u5,u6,u7,u8⟩:=id hci7
       obtain ⟨nd2,v1⟩:=u5 b rfl
       obtain ⟨nd2',b2',v1',v2,v3,v4,v5⟩:=u4.nd i out[i] hxk
       rw [v1] at v1';cases v1'
       have hkl2:k < nd2.args.length:=by omega
       have hA0:(ndAt ns out[i]).args[k]? = some ((ndAt ns out[i]).args[k]'(by omega)):=List.getElem?_eq_getElem (by omega)
       obtain ⟨a1,ha1⟩:∃ a1,nd2.args[k]? = some a1:=⟨_,List.getElem?_eq_getElem hkl2⟩
       obtain ⟨a0,ha0⟩:∃ a0,(ndAt ns out[i]).args[k]? = some a0:=⟨_,hA0⟩
       have hraw:=v5 k a1 a0 ha1 ha0
       rw [if_neg (by omega)] at hraw
       obtain ⟨r1',r2',r3'⟩:=hraw
       obtain ⟨_,_,_,_,trow2⟩:=to_at u1.to v1
       have hcell:w7.cell? ⟨b,k,none⟩=some (I ((a1.toNat:Nat):Int)):=by
         rw [cell_of trow2]
         have:((a1.toNat:Nat):Int)=a1:=by omega
         rw [this]
         simp [ha1]
       have b2:(0:Int)≤k∧(k:Int) < nd.args.length:=by omega
       (try simp only [go_sem,simprocAttr,zb4,zb6,b2,hcell])
       have hmk:meet ns (meets ns out ((ndAt ns out[i]).args.take k)) a1.toNat=meets ns out ((ndAt ns out[i]).args.take (k+1)):=by
         rw [meets_take ns _ _ ha0];exact meet_over ns _ r3'
       refine e_call (by rfl) ?_
       refine (ci_move hw hn hfr hci7 (by omega) (fun hh=>by omega) (by omega) (by rw [hmk];exact (meets_take_pre ns _ _ _).trans hpreF)).mono ?_
       rintro r w8 ⟨rfl,hci8⟩
       rw [hmk] at hci8
       obtain ⟨l3,md3,path3,to3,pa3,ts3,tfp3,pfp3,x1,x2,x3,x4,x5,x6,x7,x8⟩:=hci8
       obtain ⟨nd3,y1⟩:=x5 b rfl
       obtain ⟨tb3,tc3,rfl,tcell3,trow3⟩:=to_at x1.to y1
       have hx3k:(meets ns out ((ndAt ns out[i]).args.take (k+1)))[i]? = some out[i]:=by
         obtain ⟨tl,htl⟩:=meets_pre ns ((ndAt ns out[i]).args.take (k+1)) out
         rw [← htl,List.getElem?_append_left hilt];exact hxo
       obtain ⟨nd3',b3',y1',y2,y3,y4,y5⟩:=x4.nd i out[i] hx3k
       rw [y1] at y1';cases y1'
       have hilt3:i < ts3.length:=(List.getElem?_eq_some_iff.1 y1).1
       have b3:(0:Int)≤i∧(i:Int) < ts3.length:=by omega
       have b4:(0:Int)≤k∧(k:Int) < nd3.args.length:=by omega
       (try simp only [go_sem,simprocAttr,zb4,zb6,cell_of x1.cells,b3,tcell3,b4])
       refine e_st1 (off:=k) rfl rfl trow3 rfl (by simp;omega) ?_
       intro w9 hb9 hm9 hs9
       rw [map_set] at hb9
       have hwt:IntKind.i64.wrap ((k:Int)+1)=((k+1:Nat):Int):=by rw [wrap_in]<;>omega
       (try simp only [go_sem,simprocAttr,hwt])
       have hnum:((reached ns roots).idxOf (over ns a1.toNat):Int)=num ns (reached ns roots) a0:=by simp [num,r3']
       rw [hnum] at hb9
       have hXb:=x1.X4 _ (List.mem_of_getElem? y1)
       have hXb':¬ (b < w.heap.size∨b=w3.heap.size):=hXb
       refine ⟨_,?_,k+1,rfl,by omega,⟨l3,md3,path3,_,pa3,ts3.set i (⟨nd3.kind,nd3.num,nd3.args.set k (num ns (reached ns roots) a0)⟩,b),tfp3,pfp3,x1.set y1 (by simp) hm9 hb9,x2,x3,rel_set x4 hx3k y1 ha0,?_,x6.step hm9 (fun b' hb' hlt=>by omega),hm9.at x7 (fun hh=>by omega),x8⟩,rfl⟩
       · omega
       · intro b' hb'
         cases hb'
         exact ⟨_,by rw [List.getElem?_set,if_pos rfl,if_pos hilt3]⟩
     · have hkl':k=nd.args.length:=by simp at hkl;omega
       have hwi:IntKind.i64.wrap ((i:Int)+1)=((i+1:Nat):Int):=by rw [wrap_in]<;>omega
       (try simp only [go_sem,simprocAttr,hwi])
       have htk:(ndAt ns out[i]).args.take k=(ndAt ns out[i]).args:=List.take_of_length_le (by omega)
       rw [htk] at hci7 hxk hoklen
       obtain ⟨l2,md2,path2,to2,pa2,ts2,tfp2,pfp2,u1,u2,u3,u4,u5,u6,u7,u8⟩:=hci7
       refine ⟨_,?_,i+1,f,meets ns out (ndAt ns out[i]).args,rfl,by omega,by omega,hrch,⟨l2,md2,path2,to2,pa2,ts2,tfp2,pfp2,u1,u2,u3,rel_next u4 hxk (by omega),(fun b h=>by cases h),u6,u7,u8⟩,rfl⟩
       omega
   · have hlt':¬ i < ts.length:=by simpa using hlt
     have hie:out.length≤i:=by rw [← q4.len];omega
     rw [reach_end ns f i out hie] at hrch
     subst hrch
     have hdone:=rel_done q4 hie
     have g16:=q6.at g1 (fun h=>h)
     (try simp only [go_sem,simprocAttr,zb4,zb6,cell_of q1.cells,cell_of g16])
     refine e_st1 (off:=1) rfl rfl g16 rfl (by simp) ?_
     intro w7 hb7 hm7 hs7
     (try simp only [go_sem,simprocAttr,cell_of hb7])
     refine e_st1 (off:=2) rfl rfl hb7 rfl (by simp) ?_
     intro w8 hb8 hm8 hs8
     (try simp only [go_sem,simprocAttr])
     refine ⟨fun h=>(by rw [hc'] at h;cases h),fun _=>⟨_,some w3.heap.size,fun b=>b=a∨tfp=some b∨∃ t∈ts,t.2=b,rfl,?_,?_,?_,?_⟩⟩
     · have hne1:w3.heap.size≠a:=by omega
       have:=OwnS.of_block (sz:=1) (n:=roots.length) (hm8.at (hm7.at q7 hne1) hne1) (by simp [colRoots])
       have hl:(colRoots ns roots).length=roots.length:=by simp [colRoots]
       rw [hl];exact this
     · have hts:ts.length=(colNs ns roots).length:=by rw [colNs,← hdone];simp
       have htne:∀ b,tfp=some b→¬ b=a:=fun b hb hh=>q1.X3 b hb (.inl (by omega))
       have hrne:∀ t∈ts,¬ t.2=a:=fun t ht hh=>q1.X4 t ht (.inl (by omega))
       have hs8:w8.heap.size=w6.heap.size:=hs8.trans hs7
       have hrow:∀ t∈ts,w8.heap[t.2]? = some (.cells (t.1.args.map I).toArray 3 (0,0)):=fun t ht=>hm8.at (hm7.at (q1.to.row t ht) (hrne t ht)) (hrne t ht)
       refine ⟨.slice ta ts.length tc,tfp,ts.map cpv,by simpa using hb8,.inl rfl,?_,(fun b hb=>.inr (.inl hb)),?_,?_,?_⟩
       · rw [← hts]
         exact (q1.to.own.mod hm7 htne).mod hm8 htne
       · intro p hp
         obtain ⟨t,ht,rfl⟩:=List.mem_map.1 hp
         exact ⟨some t.2,OwnS.of_block (hrow t ht) (by simp [cpv]),fun b hb=>.inr (.inr ⟨t,ht,by cases hb;rfl⟩)⟩
       · rw [List.map_map,colNs,← hdone];rfl
       · intro b hb
         rcases hb with rfl | hb | ⟨t,ht,rfl⟩
         · have:=q6.size;omega
         · have:=q1.to.own.lt hb;omega
         · exact lt_of_heap (hrow t ht)
     · refine ⟨((q6.weak (fun _ h=>h.elim)).step hm7 (fun b hb _=>hb ▸ g2)).step hm8 (fun b hb _=>hb ▸ g2),?_⟩
       rintro b (rfl | hb | ⟨t,ht,rfl⟩)
       · exact .inl g2
       · have:=q1.X3 b hb;exact .inr (by omega)
       · have:=q1.X4 t ht;exact .inr (by omega)
     · intro b hb
       cases hb
       refine ⟨hbu,?_⟩
       rintro (hh | hb | ⟨t,ht,hh⟩)
       · omega
       · exact q1.X3 _ hb (.inr rfl)
       · exact q1.X4 t ht (.inr hh)
end
section
open Go Go.W
structure RoomR where
 out:Option (List Int)
 err:Int
 ns:List Nd
 times:Int
def roomS (size times:Int) (ns:List Nd) (n:Int) (roots:List Int):RoomR:=
 if n < 0 then ⟨none,1,ns,times⟩ else if okPl ns.length roots=false then ⟨none,202,ns,times⟩ else if n≤size - ns.length then ⟨some roots,0,ns,times⟩
 else if n > size - (colNs ns roots).length then ⟨none,201,colNs ns roots,IntKind.i64.wrap (times+1)⟩ else ⟨some (colRoots ns roots),0,colNs ns roots,IntKind.i64.wrap (times+1)⟩
def RoomPost (Ta Tc:Nat) (a:Nat) (size:Int) (F:Nat→Prop) (w:World) (s:RoomR) (r:Value) (w':World):Prop:=
 ∃ F',ArenaAt Ta Tc w' a size s.times s.ns F'∧Grow F F' w w'∧(s.out=none→r = .tuple #[.slice none 0 0,I s.err]) ∧
   (∀ l,s.out=some l→∃ v fp,r = .tuple #[v,I s.err]∧OwnS w' 3 1 v (l.map I) l.length fp∧∀ b,fp=some b→w.heap.size≤b∧¬ F' b)
theorem col_len {ns:List Nd} (hw:WF ns) (roots:List Int) (ho:okPl ns.length roots=true):(colNs ns roots).length≤ns.length:=by
 have key:∀ f i out,Met ns out→Met ns (reach ns f i out):=by
   intro f
   induction f with
   | zero=>intro i out h;exact h
   | succ f ih=>
     intro i out h
     unfold reach
     split
     · rename_i x hx
       exact ih _ _ (met_meets hw _ h (wf_at hw (h.2 x (List.mem_of_getElem? hx)).1).2)
     · exact h
 have:=met_len (key (ns.length+1) 0 _ (met_meets hw roots (met_nil ns) ho))
 simpa [colNs,reached] using this
theorem room_ok (a:Nat) (size times:Int) (ns:List Nd) (F:Nat→Prop) (w:World) (n:Int) (v:Value) (roots:List Int) (h:ArenaAt 165 235 w a size times ns F) (hn:ns.length≤1048576) (hs0:0≤size) (hs:size≤1048576) (hw:WF ns) (hx:Ints w v roots) :
   CallsR Tryz.prog 201 [.pointer (some ⟨a,0,none⟩),I n,v] w (RoomPost 165 235 a size F w (roomS size times ns n roots)):=by
 have hx0:=hx
 obtain ⟨va,vc,rfl,hxl,_⟩:=hx0
 have same:∀ w',Mod (fun _=>False) w w'→∃ F',ArenaAt 165 235 w' a size times ns F'∧Grow F F' w w':=fun w' hm=>
   ⟨F,h.mod hm (fun _ _ h=>h),hm.weak (fun _ h=>h.elim),fun b hb=>.inl hb⟩
 refine fit201.calls rfl ?_
 unfold ir201
 (try simp only [go_sem,simprocAttr])
 refine ir_cond rfl (fun hc=>?_) (fun hc=>?_)
 · have hc':n < 0:=by simpa using hc
   (try simp only [go_sem,simprocAttr])
   have e:roomS size times ns n roots=⟨none,1,ns,times⟩:=by unfold roomS;rw [if_pos hc']
   rw [e]
   exact ⟨F,h,⟨Mod.refl _ _,fun b hb=>.inl hb⟩,fun _=>rfl,fun l hl=>(by cases hl)⟩
 have hc1:¬ n < 0:=by simpa using hc
 (try simp only [go_sem,simprocAttr])
 refine e_call (by rfl) ?_
 refine (places_ok a ns.length _ roots w h.has hx).mono ?_
 rintro r _ ⟨rfl,rfl⟩
 (try simp only [go_sem,simprocAttr])
 refine ir_cond rfl (fun hc=>?_) (fun hc=>?_)
 · have hc':okPl ns.length roots=false:=by simpa using hc
   (try simp only [go_sem,simprocAttr])
   have e:roomS size times ns n roots=⟨none,202,ns,times⟩:=by unfold roomS;rw [if_neg hc1,if_pos hc']
   rw [e]
   exact ⟨F,h,⟨Mod.refl _ _,fun b hb=>.inl hb⟩,fun _=>rfl,fun l hl=>(by cases hl)⟩
 have hc2:okPl ns.length roots=true:=by simpa using hc
 obtain ⟨cv,fpc,ps,g1,g2,g3,g4,g5,g6,g7⟩:=id h
 obtain ⟨ca,cc,rfl,_,_⟩:=g3.val
 have hw1:IntKind.i64.wrap (size - (ns.length:Int))=size - ns.length:=by rw [wrap_in]<;>omega
 (try simp only [go_sem,simprocAttr,cell_of g1,hw1])
 refine ir_cond rfl (fun hc=>?_) (fun hc=>?_)
 · have hc':n≤size - ns.length:=by simpa using hc
   have e:roomS size times ns n roots=⟨some roots,0,ns,times⟩:=by unfold roomS;rw [if_neg hc1,if_neg (by simp [hc2]),if_pos hc']
   rw [e]
   (try simp only [go_sem,simprocAttr])
   refine e_call (by rfl) ?_
   refine (copied_ok _ roots w.drew hx).mono ?_
   rintro r w2 ⟨b2,rfl,hb2,hge,hm2⟩
   have hm2:=hm2.of_drew
   have hge:w.heap.size≤b2:=hge
   (try simp only [go_sem,simprocAttr])
   refine ⟨F,h.mod hm2 (fun _ _ h=>h),⟨hm2.weak (fun _ h=>h.elim),fun b hb=>.inl hb⟩,fun hh=>(by cases hh),fun l hl=>?_⟩
   cases hl
   exact ⟨_,some b2,rfl,OwnS.of_block hb2 (by simp),fun b hb=>by cases hb;exact ⟨hge,fun hF=>by have:=g7 _ hF;omega⟩⟩
 have hc3:¬ n≤size - ns.length:=by simpa using hc
 (try simp only [go_sem,simprocAttr])
 refine e_call (by rfl) ?_
 refine (col_ok a size times ns F w.drew _ roots h hn hw hx).mono ?_
 rintro r w2 ⟨_,k2⟩
 obtain ⟨v2,fp2,F2,rfl,k3,k4,⟨k5,k6⟩,k7⟩:=k2 hc2
 have k5:Mod F w w2:=k5.of_drew
 have k6:∀ b,F2 b→F b∨w.heap.size≤b:=k6
 have k7:∀ b,fp2=some b→w.heap.size≤b∧¬ F2 b:=k7
 have hcl:=col_len hw roots hc2
 obtain ⟨cv2,fpc2,ps2,j1,j2,j3,j4,j5,j6,j7⟩:=id k4
 obtain ⟨ca2,cc2,rfl,_,_⟩:=j3.val
 have hw2:IntKind.i64.wrap (size - ((colNs ns roots).length:Int))=size - (colNs ns roots).length:=by rw [wrap_in]<;>omega
 (try simp only [go_sem,simprocAttr,cell_of j1,hw2])
 refine ir_cond rfl (fun hc=>?_) (fun hc=>?_)
 · have hc':n > size - (colNs ns roots).length:=by simpa using hc
   have e:roomS size times ns n roots=⟨none,201,colNs ns roots,IntKind.i64.wrap (times+1)⟩:=by unfold roomS;rw [if_neg hc1,if_neg (by simp [hc2]),if_neg hc3,if_pos hc']
   rw [e]
   (try simp only [go_sem,simprocAttr])
   exact ⟨F2,k4,⟨k5.drew,k6⟩,fun _=>rfl,fun l hl=>(by cases hl)⟩
 · have hc':¬ n > size - (colNs ns roots).length:=by simpa using hc
   have e:roomS size times ns n roots=⟨some (colRoots ns roots),0,colNs ns roots,IntKind.i64.wrap (times+1)⟩:=by unfold roomS;rw [if_neg hc1,if_neg (by simp [hc2]),if_neg hc3,if_neg hc']
   rw [e]
   (try simp only [go_sem,simprocAttr])
   refine ⟨F2,k4,⟨k5.drew,k6⟩,fun hh=>(by cases hh),fun l hl=>?_⟩
   cases hl
   exact ⟨v2,fp2,rfl,k3,k7⟩
end
section
open Go Go.W
theorem gmay_ok (k n:Int) (v:Value) (xs:List Int) (w:World) (hx:Ints w v xs) :
   CallsR Tryz.prog 158 [.agg #[I k,I n,v]] w fun r w'=>r = .bool (mayB k n xs.length)∧Mod (fun _=>False) w w':=by
 obtain ⟨a,c,rfl,hl,_⟩:=hx
 refine fit158.calls rfl ?_
 unfold ir158
 (try simp only [go_sem,simprocAttr])
 refine e_bx rfl ?_
 intro w1 hb hm _
 have hlt:=lt_of_heap hb
 (try simp only [go_sem,simprocAttr,cell_of hb])
 repeat' (first | (refine ir_cond rfl (fun h=>?_) (fun h=>?_)<;>(try simp only [go_sem,simprocAttr,cell_of hb,h])) | (refine wpS_gr rfl (fun h=>?_) (fun h=>?_)<;>(try simp only [go_sem,simprocAttr,cell_of hb,h])))
 all_goals (refine ⟨?_,hm⟩;congr 1;rw [Bool.eq_iff_iff];unfold mayB;simp only [zb1,zb2,zb3,zb4,zb5] at *;omega)
theorem sz3:szOf Tryz.prog 3=some 1:=by kernel_rfl
theorem clone_ok (v:Value) (xs:List Int) (w:World) (hx:Ints w v xs) :
   CallsR Tryz.prog 37 [v] w fun r w'=>Mod (fun _=>False) w w'∧NewOwn w w' r xs:=by
 have hx':=hx
 obtain ⟨a,c,rfl,hl,hxx⟩:=hx
 refine fit37.calls rfl ?_
 unfold ir37
 cases a with
 | none=>
   have e:xs=[]:=by
     cases xs with
     | nil=>rfl
     | cons y l=>obtain ⟨ad,h,_⟩:=hxx 0 (by simp);cases h
   subst e
   (try simp only [go_sem,simprocAttr,Option.isNone_none])
   exact ⟨Mod.refl _ _,none,OwnS.nil _ _ _,fun b hb=>by cases hb⟩
 | some ad=>
   (try simp only [go_sem,simprocAttr,Option.isNone_some])
   refine e_b0 (t:=26) (el:=3) (n:=1) Tryz.underlying26 sz3 ?_
   intro w1 hb1 hm1 hs1
   have ho1:OwnS w1 3 1 (.slice (some ⟨w.heap.size,0,none⟩) 0 0) [] 0 (some w.heap.size):=OwnS.of_block (xs:=[]) hb1 (by simp)
   obtain ⟨_,hr,hn⟩:=(hx'.mod hm1 (fun _ _ h=>h)).rd
   (try simp only [go_sem,simprocAttr])
   refine e_ap (m:=xs.length) (news:=xs.map I) rfl ho1 rfl (fun h=>by cases h) hr (oneI xs) rfl (by omega) (by omega) ?_
   intro v2 w2 fp2 ho2 hm2 hf2
   obtain ⟨va,vc,rfl,_,_⟩:=ho2.val
   (try simp only [go_sem,simprocAttr])
   refine ⟨hm1.step hm2 (fun x hx hlt=>by cases hx;omega),fp2,by simpa using ho2,fun b hb=>?_⟩
   rcases hf2 b hb with h | h
   · cases h;omega
   · omega
theorem index_ok (v:Value) (xs:List Int) (w:World) (hx:Ints w v xs) (f:FuncId) (fn:Func) (cap:Array Value) (p:Int→Bool) (hfn:Tryz.prog.funcs[f]? = some fn) (hbody:fn.body.isSome=true) (hname:(fn.name == "runtime.NumGoroutine")=false)
   (hf:∀ x∈xs,CallsR Tryz.prog f ([I x]++cap.toList) w fun r w'=>r = .bool (p x)∧w=w') :
   CallsR Tryz.prog 56 [v,.func (.func f) #[] cap] w fun r w'=>(∃ i:Int,r=I i∧(0≤i↔xs.any p=true))∧w=w':=by
 obtain ⟨a,c,rfl,hl,hxx⟩:=hx
 refine fit56.calls rfl ?_
 unfold ir56
 (try simp only [go_sem,simprocAttr])
 refine ir_loop (fun m ρ w'=>∃ k:Nat,m=xs.length - k∧k≤xs.length∧w=w'∧(xs.take k).any p=false ∧
   ρ=[(0,.slice a xs.length c),(1,.func (.func f) #[] cap),(7,I xs.length),(8,I k)]) xs.length ⟨0,rfl,by omega,rfl,by simp,rfl⟩ ?_
 rintro m ρ _ ⟨k,rfl,hk,rfl,hall,rfl⟩
 unfold ir56L1
 (try simp only [go_sem,simprocAttr])
 refine ir_cond rfl (fun h=>?_) (fun h=>?_)
 · have hlt:k < xs.length:=by simpa using h
   obtain ⟨ad,rfl,hc⟩:=hxx k hlt
   have c1:(0:Int)≤k∧(k:Int) < xs.length:=by omega
   (try simp only [go_sem,simprocAttr,zb4,zb6,c1,hc])
   refine e_cv rfl (by rfl) hfn hbody hname ?_
   refine (hf xs[k] (List.getElem_mem _)).mono ?_
   rintro r _ ⟨rfl,rfl⟩
   (try simp only [go_sem,simprocAttr])
   refine ir_cond rfl (fun h2=>?_) (fun h2=>?_)
   · (try simp only [go_sem,simprocAttr])
     refine ⟨_,rfl,fun _=>?_,fun _=>by omega⟩
     exact List.any_eq_true.2 ⟨_,List.getElem_mem _,h2⟩
   · have hw:IntKind.i64.wrap ((k:Int)+1)=((k+1:Nat):Int):=by rw [wrap_in]<;>omega
     (try simp only [go_sem,simprocAttr,hw])
     refine ⟨_,?_,k+1,rfl,hlt,?_,rfl⟩
     · omega
     · rw [List.take_succ_eq_append_getElem hlt,List.any_append,hall]
       simp [h2]
 · have hk':k=xs.length:=by simp at h;omega
   subst hk'
   (try simp only [go_sem,simprocAttr])
   rw [List.take_length] at hall
   exact ⟨_,rfl,fun h=>by omega,fun h=>by rw [hall] at h;cases h⟩
theorem contains_ok (v:Value) (xs:List Int) (w:World) (hx:Ints w v xs) (f:FuncId) (fn:Func) (cap:Array Value) (p:Int→Bool) (hfn:Tryz.prog.funcs[f]? = some fn) (hbody:fn.body.isSome=true) (hname:(fn.name == "runtime.NumGoroutine")=false)
   (hf:∀ x∈xs,CallsR Tryz.prog f ([I x]++cap.toList) w fun r w'=>r = .bool (p x)∧w=w') :
   CallsR Tryz.prog 29 [v,.func (.func f) #[] cap] w fun r w'=>r = .bool (xs.any p)∧w=w':=by
 refine fit29.calls rfl ?_
 unfold ir29
 (try simp only [go_sem,simprocAttr])
 refine e_call (by rfl) ?_
 refine (index_ok v xs w hx f fn cap p hfn hbody hname hf).mono ?_
 rintro r _ ⟨⟨i,rfl,hi⟩,rfl⟩
 (try simp only [go_sem,simprocAttr])
 congr 1
 rw [Bool.eq_iff_iff,decide_eq_true_eq]
 exact hi
end
section
open Go Go.W
def ArgsD (w:World) (ps:List (Nd×Value)) (fp:Nat→Option Nat) (F:Nat→Prop):Prop:=
 (∀ i (h:i < ps.length),OwnS w 3 1 ps[i].2 (ps[i].1.args.map I) ps[i].1.args.length (fp i)∧∀ b,fp i=some b→F b)∧∀ i j b,i < ps.length→j < ps.length→i≠j→fp i=some b→fp j≠some b
theorem argsD_args {w:World} {ps:List (Nd×Value)} {fp:Nat→Option Nat} {F:Nat→Prop} (h:ArgsD w ps fp F):Args w ps F:=by
 intro p hp
 obtain ⟨i,hi,rfl⟩:=List.getElem_of_mem hp
 exact ⟨fp i,h.1 i hi⟩
theorem argsD_mod {w w':World} {ps:List (Nd×Value)} {fp:Nat→Option Nat} {F S:Nat→Prop} (h:ArgsD w ps fp F) (hm:Mod S w w') (hd:∀ i b,i < ps.length→fp i=some b→¬ S b):ArgsD w' ps fp F:=
 ⟨fun i hi=>⟨(h.1 i hi).1.mod hm (fun b hb=>hd i b hi hb),(h.1 i hi).2⟩,h.2⟩
theorem argsD_weak {w:World} {ps:List (Nd×Value)} {fp:Nat→Option Nat} {F F':Nat→Prop} (h:ArgsD w ps fp F) (hf:∀ b,F b→F' b):ArgsD w ps fp F':=
 ⟨fun i hi=>⟨(h.1 i hi).1,fun b hb=>hf b ((h.1 i hi).2 b hb)⟩,h.2⟩
theorem argsD_nil (w:World) (F:Nat→Prop):ArgsD w [] (fun _=>none) F:=⟨fun i hi=>absurd hi (by simp),fun i j b hi=>absurd hi (by simp)⟩
theorem argsD_app {w:World} {ps:List (Nd×Value)} {fp:Nat→Option Nat} {F:Nat→Prop} (h:ArgsD w ps fp F) {nd:Nd} {v:Value} {f:Option Nat} (ho:OwnS w 3 1 v (nd.args.map I) nd.args.length f) (hF:∀ b,f=some b→F b) (hn:∀ i b,i < ps.length→fp i=some b→f≠some b) :
   ArgsD w (ps++[(nd,v)]) (fun i=>if i < ps.length then fp i else f) F:=by
 refine ⟨fun i hi=>?_,fun i j b hi hj hij h1 h2=>?_⟩
 · by_cases hip:i < ps.length
   · rw [List.getElem_append_left hip];simp only [if_pos hip];exact h.1 i hip
   · have e:i=ps.length:=by simp at hi;omega
     subst e
     simp only [List.getElem_concat_length,Nat.lt_irrefl,if_false]
     exact ⟨ho,hF⟩
 · simp only [List.length_append,List.length_cons,List.length_nil] at hi hj
   simp only at h1 h2
   by_cases hip:i < ps.length
   · rw [if_pos hip] at h1
     by_cases hjp:j < ps.length
     · rw [if_pos hjp] at h2;exact h.2 i j b hip hjp hij h1 h2
     · rw [if_neg hjp] at h2;exact hn i b hip h1 h2
   · rw [if_neg hip] at h1
     by_cases hjp:j < ps.length
     · rw [if_pos hjp] at h2;exact hn j b hjp h2 h1
     · omega
theorem argsD_set {w:World} {ps:List (Nd×Value)} {fp:Nat→Option Nat} {F:Nat→Prop} (h:ArgsD w ps fp F) {k:Nat} {nd:Nd} {v:Value} {f:Option Nat} (ho:OwnS w 3 1 v (nd.args.map I) nd.args.length f) (hF:∀ b,f=some b→F b) (hn:∀ i b,i < ps.length→i≠k→fp i=some b→f≠some b) :
   ArgsD w (ps.set k (nd,v)) (fun i=>if i=k then f else fp i) F:=by
 refine ⟨fun i hi=>?_,fun i j b hi hj hij h1 h2=>?_⟩
 · have hi':i < ps.length:=by simpa using hi
   rw [List.getElem_set]
   by_cases hik:k=i
   · rw [if_pos hik];simp only [hik.symm,if_true];exact ⟨ho,hF⟩
   · have hik':¬ i=k:=fun hh=>hik hh.symm
     rw [if_neg hik];simp only [if_neg hik'];exact h.1 i hi'
 · have hi':i < ps.length:=by simpa using hi
   have hj':j < ps.length:=by simpa using hj
   simp only at h1 h2
   by_cases hik:i=k
   · rw [if_pos hik] at h1
     rw [if_neg (by omega)] at h2
     exact hn j b hj' (by omega) h2 h1
   · rw [if_neg hik] at h1
     by_cases hjk:j=k
     · rw [if_pos hjk] at h2;exact hn i b hi' hik h1 h2
     · rw [if_neg hjk] at h2;exact h.2 i j b hi' hj' hij h1 h2
def FromD (Tc:Nat) (w:World) (cf:Value) (ns:List Nd) (F:Nat→Prop):Prop:=
 ∃ fpc ps fp,OwnS w Tc 3 cf (flat ps) ns.length fpc∧(∀ b,fpc=some b→F b)∧ArgsD w ps fp F∧ps.map Prod.fst=ns∧∀ b,F b→b < w.heap.size
theorem fromD_from {Tc:Nat} {w:World} {cf:Value} {ns:List Nd} {F:Nat→Prop} (h:FromD Tc w cf ns F):FromAt Tc w cf ns F:=by
 obtain ⟨fpc,ps,fp,h1,h2,h3,h4,h5⟩:=h
 exact ⟨fpc,ps,h1,h2,argsD_args h3,h4,h5⟩
theorem fromD_mod {Tc:Nat} {w w':World} {cf:Value} {ns:List Nd} {F S:Nat→Prop} (h:FromD Tc w cf ns F) (hm:Mod S w w') (hd:∀ b,F b→¬ S b):FromD Tc w' cf ns F:=by
 obtain ⟨fpc,ps,fp,h1,h2,h3,h4,h5⟩:=h
 exact ⟨fpc,ps,fp,h1.mod hm (fun b hb=>hd b (h2 b hb)),h2,argsD_mod h3 hm (fun i b hi hb=>hd b ((h3.1 i hi).2 b hb)),h4,fun b hb=>Nat.lt_of_lt_of_le (h5 b hb) hm.size⟩
theorem fromD_val {Tc:Nat} {w:World} {cf:Value} {ns:List Nd} {F:Nat→Prop} (h:FromD Tc w cf ns F):∃ a c,cf = .slice a ns.length c:=by
 obtain ⟨fpc,ps,fp,h1,_⟩:=h
 obtain ⟨a,c,e,_⟩:=h1.val
 exact ⟨a,c,e⟩
def LeadOk (ns:List Nd) (old:Nat) (ld:List (Int×Int)):Prop:=
 (ld.map (fun q=>q.1)).Nodup∧∀ k:Int,k∈ld.map (fun q=>q.1)↔∃ p:Nat,k=p∧p < old∧∃ a∈(ndAt ns p).args,(old:Int)≤a
def GAt (w:World) (a:Nat) (size young:Int) (old:Nat) (times:Int) (ns:List Nd) (F:Nat→Prop):Prop:=
 ∃ cv mb ld,w.heap[a]? = some (.cells #[I size,I young,cv,I old,.map (some mb),I times] 162 (0,0))∧F a∧FromD 87 w cv ns F∧MapAt w mb ld∧F mb∧LeadOk ns old ld
theorem gat_mod {w w':World} {a:Nat} {size young:Int} {old:Nat} {times:Int} {ns:List Nd} {F S:Nat→Prop} (h:GAt w a size young old times ns F) (hm:Mod S w w') (hd:∀ b,F b→¬ S b):GAt w' a size young old times ns F:=by
 obtain ⟨cv,mb,ld,h1,h2,h3,h4,h5,h6⟩:=h
 exact ⟨cv,mb,ld,hm.at h1 (hd a h2),h2,fromD_mod h3 hm hd,map_mod h4 hm (hd mb h5),h5,h6⟩
theorem gat_lt {w:World} {a:Nat} {size young:Int} {old:Nat} {times:Int} {ns:List Nd} {F:Nat→Prop} (h:GAt w a size young old times ns F):∀ b,F b→b < w.heap.size:=by
 obtain ⟨cv,mb,ld,h1,h2,⟨_,_,_,_,_,_,_,h3⟩,h4,h5,h6⟩:=h
 exact h3
def GHas (w:World) (a n old:Nat):Prop:=∃ c0 c1 ba c c4 c5,w.heap[a]? = some (.cells #[c0,c1,.slice ba n c,I old,c4,c5] 162 (0,0))
theorem gat_has {w:World} {a:Nat} {size young:Int} {old:Nat} {times:Int} {ns:List Nd} {F:Nat→Prop} (h:GAt w a size young old times ns F):GHas w a ns.length old:=by
 obtain ⟨cv,mb,ld,h1,h2,h3,h4⟩:=h
 obtain ⟨x,c,rfl⟩:=fromD_val h3
 exact ⟨_,_,x,c,_,_,h1⟩
theorem ghas_mod {w w':World} {a n old:Nat} {S:Nat→Prop} (h:GHas w a n old) (hm:Mod S w w') (ha:¬ S a):GHas w' a n old:=by
 obtain ⟨c0,c1,ba,c,c4,c5,h1⟩:=h
 exact ⟨c0,c1,ba,c,c4,c5,hm.at h1 ha⟩
theorem fn64:Tryz.f163.body.isSome=true∧(Tryz.f163.name == "runtime.NumGoroutine")=false:=⟨by kernel_rfl,by kernel_rfl⟩
theorem fn49:Tryz.f162.body.isSome=true∧(Tryz.f162.name == "runtime.NumGoroutine")=false:=⟨by kernel_rfl,by kernel_rfl⟩
theorem placesF_ok (w:World) (a n old bx:Nat) (x:Int) (h:GHas w a n old) (hb:w.heap[bx]? = some (.cells #[.pointer (some ⟨a,0,none⟩)] 122 (0,0))) :
   CallsR Tryz.prog 163 [I x,.pointer (some ⟨bx,0,none⟩)] w fun r w'=>r = .bool (decide (x < 0)||decide (x≥n))∧w=w':=by
 obtain ⟨c0,c1,ba,c,c4,c5,h1⟩:=h
 refine fit163.calls rfl ?_
 unfold ir163
 (try simp only [go_sem,simprocAttr])
 refine wpS_gr rfl (fun hg=>?_) (fun hg=>?_)
 · (try simp only [go_sem,simprocAttr,hg])
   simp
 · (try simp only [go_sem,simprocAttr,hg,cell_of hb,cell_of h1])
   simp
theorem setF_ok (w:World) (a n old bx:Nat) (x:Int) (h:GHas w a n old) (hb:w.heap[bx]? = some (.cells #[.pointer (some ⟨a,0,none⟩)] 122 (0,0))) :
   CallsR Tryz.prog 162 [I x,.pointer (some ⟨bx,0,none⟩)] w fun r w'=>r = .bool (decide (x≥old))∧w=w':=by
 obtain ⟨c0,c1,ba,c,c4,c5,h1⟩:=h
 refine fit162.calls rfl ?_
 unfold ir162
 (try simp only [go_sem,simprocAttr,cell_of hb,cell_of h1])
theorem gplaces_ok (w:World) (a n old:Nat) (l:Value) (xs:List Int) (h:GHas w a n old) (hx:Ints w l xs) :
   CallsR Tryz.prog 159 [.pointer (some ⟨a,0,none⟩),l] w fun r w'=>r = .bool (okPl n xs)∧Mod (fun _=>False) w w':=by
 have hx0:=hx
 obtain ⟨va,vc,rfl,_,_⟩:=hx0
 refine fit159.calls rfl ?_
 unfold ir159
 (try simp only [go_sem,simprocAttr])
 refine e_bx rfl ?_
 intro w1 hb1 hm1 hs1
 have hb1:w1.heap[w.heap.size]? = some (.cells #[.pointer (some ⟨a,0,none⟩)] 122 (0,0)):=hb1
 have h1:=ghas_mod h hm1 (fun h=>h)
 (try simp only [go_sem,simprocAttr])
 refine e_call (by rfl) ?_
 refine (contains_ok _ xs w1 (hx.mod hm1 (fun _ _ h=>h)) 163 Tryz.f163 #[.pointer (some ⟨w.heap.size,0,none⟩)] (fun x=>decide (x < 0)||decide (x≥n)) Tryz.func163 fn64.1 fn64.2 (fun x _=>placesF_ok w1 a n old w.heap.size x h1 hb1)).mono ?_
 rintro q _ ⟨rfl,rfl⟩
 (try simp only [go_sem,simprocAttr])
 refine ⟨?_,hm1⟩
 congr 1
 unfold okPl
 rw [Bool.eq_iff_iff]
 simp [List.any_eq_true,List.all_eq_true]
theorem gnew_ok (size young:Int) (w:World) :
   CallsR Tryz.prog 61 [I size,I young] w fun r w'=>(1≤size∧size≤1048576∧1≤young∧young≤size→∃ a F,r = .tuple #[.pointer (some ⟨a,0,none⟩),I 0]∧GAt w' a size young 0 0 [] F∧Mod (fun _=>False) w w'∧(∀ x,F x→w.heap.size≤x)) ∧
     (¬ (1≤size∧size≤1048576∧1≤young∧young≤size)→r = .tuple #[.pointer none,I 210]∧w=w'):=by
 refine fit61.calls rfl ?_
 unfold ir61
 by_cases g:1≤size∧size≤1048576∧1≤young∧young≤size
 · have e1:decide (size < 1)=false:=by simp;omega
   have e2:decide (size > 1048576)=false:=by simp;omega
   have e3:decide (young < 1)=false:=by simp;omega
   have e4:decide (young > size)=false:=by simp;omega
   (try simp only [go_sem,simprocAttr,e1,e2,e3,e4])
   refine e_mm ?_
   intro w1 hb1 hm1 hs1
   (try simp only [go_sem,simprocAttr])
   refine e_bx rfl ?_
   intro w2 hb2 hm2 hs2
   have hb2:w2.heap[w1.heap.size]? = some (.cells #[I size,I young,.slice none 0 0,I 0,.map (some w.heap.size),I 0] 162 (0,0)):=hb2
   (try simp only [go_sem,simprocAttr])
   refine ⟨fun _=>⟨w1.heap.size,fun x=>x=w1.heap.size∨x=w.heap.size,rfl,⟨_,_,[],hb2,.inl rfl,⟨none,[],_,OwnS.nil _ _ _,(fun b hb=>by cases hb),argsD_nil _ _,rfl,fun b hb=>by omega⟩,map_mod hb1 hm2 (fun h=>h),.inr rfl,⟨by simp,fun k=>⟨fun h=>by simp at h,fun ⟨p,_,hp,_⟩=>absurd hp (by omega)⟩⟩⟩,hm1.trans hm2,fun x hx=>by omega⟩,fun hh=>absurd g hh⟩
 · refine (fun h=>h) ?_
   by_cases a1:size < 1
   · have e1:decide (size < 1)=true:=by simp;omega
     (try simp only [go_sem,simprocAttr,e1])
     exact ⟨fun hh=>absurd hh g,fun _=>trivial⟩
   have e1:decide (size < 1)=false:=by simp;omega
   by_cases a2:size > 1048576
   · have e2:decide (size > 1048576)=true:=by simp;omega
     (try simp only [go_sem,simprocAttr,e1,e2])
     exact ⟨fun hh=>absurd hh g,fun _=>trivial⟩
   have e2:decide (size > 1048576)=false:=by simp;omega
   by_cases a3:young < 1
   · have e3:decide (young < 1)=true:=by simp;omega
     (try simp only [go_sem,simprocAttr,e1,e2,e3])
     exact ⟨fun hh=>absurd hh g,fun _=>trivial⟩
   have e3:decide (young < 1)=false:=by simp;omega
   have e4:decide (young > size)=true:=by simp;omega
   (try simp only [go_sem,simprocAttr,e1,e2,e3,e4])
   exact ⟨fun hh=>absurd hh g,fun _=>trivial⟩
theorem gused_ok (w:World) (a:Nat) (size young:Int) (old:Nat) (times:Int) (ns:List Nd) (F:Nat→Prop) (h:GAt w a size young old times ns F):CallsR Tryz.prog 157 [.pointer (some ⟨a,0,none⟩)] w fun r w'=>r=I ns.length∧w=w':=by
 obtain ⟨c0,c1,ba,c,c4,c5,h1⟩:=gat_has h
 refine fit157.calls rfl ?_
 unfold ir157
 (try simp only [go_sem,simprocAttr,cell_of h1])
end
section
open Go Go.W
theorem own_cells {w:World} {T sz n b:Nat} {v:Value} {xs:List Value} {fp:Option Nat} (h:OwnS w T sz v xs n fp) (hb:fp=some b):∃ cs,w.heap[b]? = some (.cells cs T (0,0)):=by
 rcases h.2 with ⟨_,_,h⟩ | ⟨b',c,sp',_,h,hh,_⟩
 · rw [h] at hb;cases hb
 · rw [h] at hb;cases hb;exact ⟨_,hh⟩
theorem own_apart {w:World} {T sz n T' sz' n' b:Nat} {v v':Value} {xs xs':List Value} {fp fp':Option Nat} (h:OwnS w T sz v xs n fp) (h':OwnS w T' sz' v' xs' n' fp') (hne:T≠T') (hb:fp=some b):fp'≠some b:=by
 obtain ⟨cs,hc⟩:=own_cells h hb
 exact own_ne h' hc (fun e=>hne e.symm)
def gaddS (size:Int) (ns:List Nd) (nd:Nd):Int×Int×List Nd:=
 if nd.may=false then (0,1,ns) else if okPl ns.length nd.args=false then (0,212,ns) else if (ns.length:Int)≥size then (0,211,ns) else (ns.length,0,ns++[nd])
theorem leadOk_app {ns:List Nd} {old:Nat} {ld:List (Int×Int)} (h:LeadOk ns old ld) (ho:old≤ns.length) (nd:Nd):LeadOk (ns++[nd]) old ld:=by
 refine ⟨h.1,fun k=>(h.2 k).trans ⟨fun ⟨p,h1,h2,h3⟩=>⟨p,h1,h2,?_⟩,fun ⟨p,h1,h2,h3⟩=>⟨p,h1,h2,?_⟩⟩⟩
 · simpa [ndAt,List.getElem?_append_left (show p < ns.length by omega)] using h3
 · simpa [ndAt,List.getElem?_append_left (show p < ns.length by omega)] using h3
theorem gadd_ok (w:World) (a:Nat) (size young:Int) (old:Nat) (times:Int) (ns:List Nd) (nd:Nd) (v:Value) (F:Nat→Prop) (h:GAt w a size young old times ns F) (ho:old≤ns.length) (hn:ns.length≤1048576) (hx0:Ints w v nd.args) :
   CallsR Tryz.prog 151 [.pointer (some ⟨a,0,none⟩),.agg #[I nd.kind,I nd.num,v]] w fun r w'=>r = .tuple #[I (gaddS size ns nd).1,I (gaddS size ns nd).2.1]∧∃ F',GAt w' a size young old times (gaddS size ns nd).2.2 F'∧Grow F F' w w':=by
 have hx:=hx0
 obtain ⟨va,vc,rfl,hl,_⟩:=hx0
 refine fit151.calls rfl ?_
 unfold ir151
 (try simp only [go_sem,simprocAttr])
 refine e_bx rfl ?_
 intro w1 hb1 hm1 hs1
 have hb1:w1.heap[w.heap.size]? = some (.cells #[I nd.kind,I nd.num,.slice va nd.args.length vc] 87 (0,0)):=hb1
 have h1:=gat_mod h hm1 (fun _ _ h=>h)
 have hx1:=hx.mod hm1 (fun _ _ h=>h)
 have hd:vLN w1 3 (.pointer (some ⟨w.heap.size,0,none⟩))=some (.agg #[I nd.kind,I nd.num,.slice va nd.args.length vc]):=ln_of hb1 (off:=0) (n:=3) (by simp)
 have same:∀ w2,Mod (fun _=>False) w1 w2→∃ F',GAt w2 a size young old times ns F'∧Grow F F' w w2:=fun w2 hm2=>
   ⟨F,gat_mod h1 hm2 (fun _ _ h=>h),(hm1.trans hm2).weak (fun _ h=>h.elim),fun b hb=>.inl hb⟩
 (try simp only [go_sem,simprocAttr,hd])
 refine e_call (by rfl) ?_
 refine (gmay_ok nd.kind nd.num _ nd.args w1 hx1).mono ?_
 rintro r w2 ⟨rfl,hm2⟩
 have hb2:=hm2.at hb1 (fun h=>h)
 (try simp only [go_sem,simprocAttr])
 refine ir_cond rfl (fun hc=>?_) (fun hc=>?_)
 · (try simp only [go_sem,simprocAttr])
   have hc':nd.may=false:=by simpa [Nd.may] using hc
   exact ⟨by simp [gaddS,hc'],by simpa [gaddS,hc'] using same w2 hm2⟩
 have hc1:nd.may=true:=by simpa [Nd.may] using hc
 have hx2:=hx1.mod hm2 (fun _ _ h=>h)
 have h2:=gat_mod h1 hm2 (fun _ _ h=>h)
 (try simp only [go_sem,simprocAttr,cell_of hb2])
 refine e_call (by rfl) ?_
 refine (gplaces_ok w2 a ns.length old _ nd.args (gat_has h2) hx2).mono ?_
 rintro r w3 ⟨rfl,hm3⟩
 have hm23:=hm2.trans hm3
 (try simp only [go_sem,simprocAttr])
 refine ir_cond rfl (fun hc=>?_) (fun hc=>?_)
 · (try simp only [go_sem,simprocAttr])
   have hc':okPl ns.length nd.args=false:=by simpa using hc
   exact ⟨by simp [gaddS,hc',hc1],by simpa [gaddS,hc',hc1] using same w3 hm23⟩
 have hc2:okPl ns.length nd.args=true:=by simpa using hc
 have h3:=gat_mod h2 hm3 (fun _ _ h=>h)
 have h3':=h3
 obtain ⟨cv,mb,ld,g1,g2,g3,g4,g5,g6⟩:=h3
 obtain ⟨ca,cc,rfl⟩:=fromD_val g3
 (try simp only [go_sem,simprocAttr,cell_of g1])
 have hw3:Mod (fun _=>False) w3 w3.drew:=⟨Nat.le_refl _,fun _ _ _=>rfl,rfl,rfl,rfl⟩
 refine ir_cond rfl (fun hc=>?_) (fun hc=>?_)
 · (try simp only [go_sem,simprocAttr])
   have hc':(ns.length:Int)≥size:=by simpa using hc
   exact ⟨by simp [gaddS,hc',hc1,hc2],by simpa [gaddS,hc',hc1,hc2] using same w3.drew (hm23.trans hw3)⟩
 have hc3:¬ (ns.length:Int)≥size:=by simpa using hc
 have hb3:=(hm3.trans hw3).at hb2 (fun h=>h)
 have hx3:=hx2.mod (hm3.trans hw3) (fun _ _ h=>h)
 (try simp only [go_sem,simprocAttr,cell_of hb3,cell_of (hm3.at hb2 (fun h=>h))])
 refine e_call (by rfl) ?_
 refine (clone_ok _ nd.args w3.drew hx3).mono ?_
 rintro q w4 ⟨hm4,f4,o4,n4⟩
 have hm4':=hw3.trans hm4
 obtain ⟨va4,vc4,rfl,_,_⟩:=o4.val
 have hb4:=hm4.at hb3 (fun h=>h)
 (try simp only [go_sem,simprocAttr])
 refine e_st1 (off:=2) rfl rfl hb4 rfl (by simp) ?_
 intro w5 hb5 hm5 hs5
 have hb5:w5.heap[w.heap.size]? = some (.cells #[I nd.kind,I nd.num,.slice va4 nd.args.length vc4] 87 (0,0)):=hb5
 have lw:=lt_of_heap hb1
 have s2:=hm2.size;have s3:=hm3.size;have s4:=hm4.size
 have hFl:=gat_lt h
 have hF0:∀ b,F b→¬ b=w.heap.size:=fun b hb hh=>by have:=hFl b hb;omega
 have hm35:Mod (fun x=>x=w.heap.size) w3 w5:=(hm4'.weak (fun _ h=>h.elim)).step hm5 (fun x hx _=>hx)
 have ga:=hm35.at g1 (hF0 a g2)
 have gc:=fromD_mod g3 hm35 hF0
 have gm:=map_mod g4 hm35 (hF0 mb g5)
 have o5:=o4.mod hm5 (fun b hb hh=>by have:=n4 b hb;have:w3.drew.heap.size=w3.heap.size:=rfl;omega)
 have hd5:vLN w5.drew 3 (.pointer (some ⟨w.heap.size,0,none⟩))=some (.agg #[I nd.kind,I nd.num,.slice va4 nd.args.length vc4]):=ln_of (w:=w5.drew) hb5 (off:=0) (n:=3) (by simp)
 (try simp only [go_sem,simprocAttr,cell_of ga,hd5])
 have hwd:Mod (fun _=>False) w5 w5.drew:=⟨Nat.le_refl _,fun _ _ _=>rfl,rfl,rfl,rfl⟩
 refine e_bs (by rfl) (by (try simp only [go_sem,simprocAttr]);rfl) ?_
 intro w6 hb6 hm6 hs6
 have hm56:=hwd.trans hm6
 have hm36:Mod (fun x=>x=w.heap.size) w3 w6:=hm35.step hm56 (fun _ h _=>h.elim)
 have ga6:=hm56.at ga (fun h=>h)
 (try simp only [go_sem,simprocAttr])
 refine ⟨hm6.old _ (lt_of_heap ga) (fun h=>h),?_⟩
 have o6:=o5.mod hm56 (fun _ _ h=>h)
 obtain ⟨fpc,ps,fp,c1,c2,c3,c4,c5⟩:=gc
 have c16:=c1.mod hm56 (fun _ _ h=>h)
 have c36:=argsD_mod c3 hm56 (fun _ _ _ _ h=>h)
 have hps:ps.length=ns.length:=by rw [← c4];simp
 refine e_ap (m:=1) (news:=nc (nd,.slice va4 nd.args.length vc4)) rfl c16 rfl (fun h=>by cases h) (rd_block hb6) (by simp [nc,Value.oneCell']) rfl (by omega) (by omega) ?_
 intro v7 w7 fp7 ho7 hm7 hf7
 have hne:fpc≠some a:=own_ne c16 ga6 (by decide)
 have ga7:=hm7.at ga6 hne
 obtain ⟨va7,vc7,rfl,_⟩:=ho7.val
 have c37:=argsD_mod c36 hm7 (fun i b hi hb hh=>own_apart (c36.1 i hi).1 c16 (by decide) hb hh)
 have o7:=o6.mod hm7 (fun b hb hh=>own_apart o6 c16 (by decide) hb hh)
 (try simp only [go_sem,simprocAttr])
 refine e_st1 (off:=2) rfl rfl ga7 rfl (by simp) ?_
 intro w8 hb8 hm8 hs8
 have hb8:w8.heap[a]? = some (.cells #[I size,I young,.slice va7 (ns.length+1) vc7,I old,.map (some mb),I times] 162 (0,0)):=hb8
 have hw:IntKind.i64.wrap (((ns.length+1:Nat):Int) - 1)=ns.length:=by rw [wrap_in]<;>omega
 (try simp only [go_sem,simprocAttr,cell_of hb8,hw])
 have hn7:fp7≠some a:=own_ne ho7 ga7 (by decide)
 have c38:=argsD_mod c37 hm8 (fun i b hi hb hh=>own_ne (c37.1 i hi).1 ga7 (by decide) (by rw [hb,hh]))
 have o8:=o7.mod hm8 (fun b hb hh=>own_ne o7 ga7 (by decide) (by rw [hb,hh]))
 have s5:w5.heap.size=w4.heap.size:=hs5
 have s6:=hm56.size;have s7:=hm7.size;have s8:=hm8.size
 have gm6:=map_mod gm hm56 (fun h=>h)
 have gm7:=map_mod gm6 hm7 (fun hh=>by
   obtain ⟨es,c,q2,_⟩:=gm6
   obtain ⟨cs,q3⟩:=own_cells c16 hh
   rw [q2] at q3;cases q3)
 have gm8:=map_mod gm7 hm8 (fun hh=>by
   obtain ⟨es,c,q2,_⟩:=gm7
   rw [hh] at q2;rw [ga7] at q2;cases q2)
 have hall:Mod F w w8:=((((((hm1.weak (fun _ h=>h.elim)).step hm2 (fun _ h _=>h.elim)).step hm3 (fun _ h _=>h.elim)).step hm35 (fun x hx hlt=>by omega)).step hm56 (fun _ h _=>h.elim)).step hm7 (fun i h _=>c2 i h)).step hm8 (fun i h _=>h ▸ g2)
 have hadd:gaddS size ns nd=((ns.length:Int),0,ns++[nd]):=by
   unfold gaddS
   rw [if_neg (by simp [hc1]),if_neg (by simp [hc2]),if_neg hc3]
 have w30:w3.drew.heap.size=w3.heap.size:=rfl
 refine ⟨by rw [hadd],fun b=>F b∨f4=some b∨fp7=some b,?_,hall,?_⟩
 · rw [hadd]
   refine ⟨_,mb,ld,hb8,.inl g2,⟨fp7,ps++[(nd,.slice va4 nd.args.length vc4)],_,?_,fun b hb=>.inr (.inr hb),argsD_app (argsD_weak c38 (fun b hb=>.inl hb)) o8 (fun b hb=>.inr (.inl hb)) ?_,by simp [c4],?_⟩,gm8,.inl g5,leadOk_app g6 ho nd⟩
   · rw [flat_app,flat_one]
     simpa using ho7.mod hm8 (fun b hb hh=>hn7 (by rw [hb,hh]))
   · intro i b hi hb hh
     have:=hFl b ((c3.1 i hi).2 b hb)
     have:=n4 b hh
     omega
   · intro b hb
     rcases hb with hb | hb | hb
     · have:=hFl b hb;omega
     · have:=o8.lt hb;omega
     · have:=ho7.lt hb;omega
 · intro b hb
   rcases hb with hb | hb | hb
   · exact .inl hb
   · have:=n4 b hb;exact .inr (by omega)
   · rcases hf7 b hb with h | h
     · exact .inl (c2 b h)
     · exact .inr (by omega)
end
section
open Go Go.W
def ggetS (ns:List Nd) (at':Int):Nd×Int:=if 0≤at'∧at' < ns.length then (ndAt ns at'.toNat,0) else ({ kind:=0,num:=0,args:=[]},212)
def GGetPost (w:World) (s:Nd×Int) (r:Value) (w':World):Prop:=
 Mod (fun _=>False) w w'∧∃ v fp,r = .tuple #[.agg #[I s.1.kind,I s.1.num,v],I s.2]∧OwnS w' 3 1 v (s.1.args.map I) s.1.args.length fp∧∀ b,fp=some b→w.heap.size≤b
theorem ln3 {w:World} {bc i:Nat} {k n:Int} {v:Value} (h0:w.cell? ⟨bc,i,none⟩=some (I k)) (h1:w.cell? ⟨bc,i+1,none⟩=some (I n)) (h2:w.cell? ⟨bc,i+2,none⟩=some v):vLN w 3 (.pointer (some ⟨bc,i,none⟩))=some (.agg #[I k,I n,v]):=by
 simp [vLN,cellsFrom,add_at,h0,h1,h2]
theorem gget_ok (w:World) (a:Nat) (size young:Int) (old:Nat) (times:Int) (ns:List Nd) (at':Int) (F:Nat→Prop) (h:GAt w a size young old times ns F) (hargs:∀ nd∈ns,nd.args.length≤8) :
   CallsR Tryz.prog 154 [.pointer (some ⟨a,0,none⟩),I at'] w (GGetPost w (ggetS ns at')):=by
 refine fit154.calls rfl ?_
 unfold ir154
 (try simp only [go_sem,simprocAttr])
 refine e_al ?_
 intro w1 hb1 hm1 hs1
 have hb1:w1.heap[w.heap.size]? = some (.cells #[I 0,I 0,.slice none 0 0] 87 (0,0)):=hb1
 (try simp only [go_sem,simprocAttr])
 refine e_bs (by rfl) (by (try simp only [go_sem,simprocAttr]);rfl) ?_
 intro w2 hb2 hm2 hs2
 have hm12:=hm1.trans hm2
 have h2:=gat_mod h hm12 (fun _ _ h=>h)
 have hx:Ints w2 (.slice (some ⟨w1.heap.size,0,none⟩) 1 1) [at']:=ints_block (xs:=[at']) hb2 (by simp)
 (try simp only [go_sem,simprocAttr])
 refine e_call (by rfl) ?_
 refine (gplaces_ok w2 a ns.length old _ [at'] (gat_has h2) hx).mono ?_
 rintro r w3 ⟨rfl,hm3⟩
 rw [okPl_one]
 have hm13:=hm12.trans hm3
 have hb3:=(hm2.trans hm3).at hb1 (fun h=>h)
 have h3:=gat_mod h2 hm3 (fun _ _ h=>h)
 (try simp only [go_sem,simprocAttr])
 refine ir_cond rfl (fun hc=>?_) (fun hc=>?_)
 · have hc':¬ (0≤at'∧at' < ns.length):=by simp at hc;omega
   (try simp only [go_sem,simprocAttr])
   refine e_sta rfl rfl hb3 rfl rfl (by simp [Value.oneCell']) ?_
   intro w4 hb4 hm4 hs4
   (try simp only [go_sem,simprocAttr,ln_of hb4 (off:=0) (n:=3) (by simp)])
   have e:ggetS ns at'=({ kind:=0,num:=0,args:=[]},212):=if_neg hc'
   rw [e]
   exact ⟨hm13.step hm4 (fun i hi hlt=>by omega),_,none,rfl,OwnS.nil _ _ _,fun b hb=>by cases hb⟩
 · have hc':0≤at'∧at' < ns.length:=by simpa using hc
   obtain ⟨i,rfl⟩:∃ i:Nat,at'=i:=⟨at'.toNat,by omega⟩
   have hi:i < ns.length:=by omega
   have e:ggetS ns i=(ndAt ns i,0):=if_pos hc'
   rw [e]
   obtain ⟨cv,mb,ld,g1,g2,g3,g4,g5,g6⟩:=h3
   obtain ⟨bc,cc,v,rfl,k0,k1,k2,kx,kb,_⟩:=from_at (fromD_from g3) hargs hi
   have kl:=ln3 k0 k1 k2
   obtain ⟨xa,xc,rfl,hxl,_⟩:=id kx
   (try simp only [go_sem,simprocAttr,zb4,zb6,cell_of g1,hc',kl])
   refine e_al ?_
   intro w4 hb4 hm4 hs4
   have hb4:w4.heap[w3.heap.size]? = some (.cells #[I 0,I 0,.slice none 0 0] 87 (0,0)):=hb4
   (try simp only [go_sem,simprocAttr])
   refine e_sta rfl rfl hb4 rfl rfl (by simp [Value.oneCell']) ?_
   intro w5 hb5 hm5 hs5
   have hm35:Mod (fun _=>False) w3 w5:=hm4.step hm5 (fun i hi hlt=>by omega)
   have hx5:=kx.mod hm35 (fun _ _ h=>h)
   (try simp only [go_sem,simprocAttr,cell_of hb5])
   refine e_call (by rfl) ?_
   refine (clone_ok _ _ w5 hx5).mono ?_
   rintro q w6 ⟨hm6,f6,o6,n6⟩
   obtain ⟨va6,vc6,rfl,_,_⟩:=o6.val
   have hb6:=hm6.at hb5 (fun h=>h)
   (try simp only [go_sem,simprocAttr])
   refine e_st1 (off:=2) rfl rfl hb6 rfl (by simp) ?_
   intro w7 hb7 hm7 hs7
   have hb7:w7.heap[w3.heap.size]? = some (.cells #[I (ndAt ns i).kind,I (ndAt ns i).num,.slice va6 (ndAt ns i).args.length vc6] 87 (0,0)):=hb7
   have s3:=hm13.size;have s5:=hm35.size;have s6:=hm6.size
   have hm57:Mod (fun _=>False) w3 w7:=(hm35.trans hm6).step hm7 (fun x hx hlt=>by omega)
   have hb8:=hm57.at hb3 (fun h=>h)
   have l1:=lt_of_heap hb3
   (try simp only [go_sem,simprocAttr,ln_of hb7 (off:=0) (n:=3) (by simp)])
   refine e_sta rfl rfl hb8 rfl rfl (by simp [Value.oneCell']) ?_
   intro w8 hb9 hm8 hs8
   (try simp only [go_sem,simprocAttr,ln_of hb9 (off:=0) (n:=3) (by simp)])
   have l4:=lt_of_heap hb4
   exact ⟨(hm13.trans hm57).step hm8 (fun x hx hlt=>by omega),_,f6,rfl,(o6.mod hm7 (fun b hb hh=>by have:=n6 b hb;omega)).mod hm8 (fun b hb hh=>by have:=n6 b hb;omega),fun b hb=>by have:=n6 b hb;omega⟩
def gsetS (ns:List Nd) (at':Int) (nd:Nd):Int×List Nd:=
 if ¬ (0≤at'∧at' < ns.length) then (212,ns) else if nd.may=false then (1,ns) else if okPl ns.length nd.args=false then (212,ns) else (0,ns.set at'.toNat nd)
theorem ldel_keys {l:List (Int×Int)} (hn:(l.map (fun q=>q.1)).Nodup) (k:Int):((ldel l k).map (fun q=>q.1)).Nodup∧∀ x,x∈(ldel l k).map (fun q=>q.1)↔x∈l.map (fun q=>q.1)∧x≠k:=by
 unfold ldel
 cases hI:l.findIdx? (fun p=>p.1 == k) with
 | none=>
   refine ⟨hn,fun x=>⟨fun hx=>⟨hx,fun he=>?_⟩,fun hx=>hx.1⟩⟩
   rw [List.findIdx?_eq_none_iff] at hI
   obtain ⟨q,hq,rfl⟩:=List.mem_map.1 hx
   have:=hI q hq
   simp [he] at this
 | some i=>
   have h1:=List.findIdx?_eq_some_iff_getElem.1 hI
   have hi:=h1.1
   have hk:l[i].1=k:=by simpa using h1.2.1
   have e:(l.eraseIdx i).map (fun q=>q.1)=(l.map (fun q=>q.1)).eraseIdx i:=Go.ChangeMaps.map_eraseIdx _ _ _
   rw [e]
   refine ⟨hn.sublist (List.eraseIdx_sublist _ _),fun x=>?_⟩
   generalize hL:l.map (fun q=>q.1)=L at hn
   have hiL:i < L.length:=by rw [← hL];simpa using hi
   have hkL:L[i]=k:=by simp [← hL,hk]
   clear e hI h1 hk hL
   induction L generalizing i with
   | nil=>simp at hiL
   | cons y L ih=>
     rw [List.nodup_cons] at hn
     cases i with
     | zero=>
       simp only [List.getElem_cons_zero] at hkL
       subst hkL
       simp only [List.eraseIdx_cons_zero,List.mem_cons]
       exact ⟨fun hx=>⟨.inr hx,fun he=>hn.1 (he ▸ hx)⟩,fun ⟨hx,hne⟩=>hx.resolve_left hne⟩
     | succ i=>
       simp only [List.getElem_cons_succ] at hkL
       have hi2:i < L.length:=by simpa using hiL
       have:=ih i (by omega) hn.2 hi2 hkL
       simp only [List.eraseIdx_cons_succ,List.mem_cons,this]
       refine ⟨fun hx=>?_,fun ⟨hx,hne⟩=>hx.imp (fun h=>h) (fun h=>⟨h,hne⟩)⟩
       rcases hx with rfl | ⟨hx,hne⟩
       · exact ⟨.inl rfl,fun he=>hn.1 (by rw [he,← hkL];exact List.getElem_mem _)⟩
       · exact ⟨.inr hx,hne⟩
theorem lput_keys {l:List (Int×Int)} (hn:(l.map (fun q=>q.1)).Nodup) (k v:Int):((lput l k v).map (fun q=>q.1)).Nodup∧∀ x,x∈(lput l k v).map (fun q=>q.1)↔x∈l.map (fun q=>q.1)∨x=k:=by
 unfold lput
 cases hI:l.findIdx? (fun p=>p.1 == k) with
 | none=>
   rw [List.findIdx?_eq_none_iff] at hI
   have hno:k∉l.map (fun q=>q.1):=by
     intro hk
     obtain ⟨q,hq,he⟩:=List.mem_map.1 hk
     have:=hI q hq
     simp [he] at this
   refine ⟨?_,fun x=>by simp⟩
   simp only [List.map_append,List.map_cons,List.map_nil]
   rw [List.nodup_append]
   exact ⟨hn,by simp,fun a ha b hb hab=>by simp at hb;exact hno (hb ▸ hab ▸ ha)⟩
 | some i=>
   have h1:=List.findIdx?_eq_some_iff_getElem.1 hI
   have hk:l[i]'h1.1=(k,(l[i]'h1.1).2):=by
     have:(l[i]'h1.1).1=k:=by simpa using h1.2.1
     rw [← this]
   have e:(l.set i (k,v)).map (fun q=>q.1)=l.map (fun q=>q.1):=by
     rw [List.map_set]
     have h2:(l.map (fun q=>q.1))[i]'(by simpa using h1.1)=k:=by simp;simpa using h1.2.1
     have h3:=List.set_getElem_self (show i < (l.map (fun q=>q.1)).length by simpa using h1.1)
     rw [h2] at h3
     exact h3
   rw [e]
   refine ⟨hn,fun x=>⟨.inl,fun hx=>hx.elim (fun h=>h) (fun h=>?_)⟩⟩
   rw [h]
   exact List.mem_map.2 ⟨_,List.getElem_mem h1.1,by simpa using h1.2.1⟩
theorem ndAt_set {ns:List Nd} {i:Nat} {nd:Nd} (hi:i < ns.length) (p:Nat):ndAt (ns.set i nd) p=if p=i then nd else ndAt ns p:=by
 unfold ndAt
 rw [List.getD_eq_getElem?_getD,List.getElem?_set]
 by_cases h:i=p
 · subst h;simp [hi]
 · rw [if_neg h,if_neg (fun hh=>h hh.symm),List.getD_eq_getElem?_getD]
theorem gset_ok (w:World) (a:Nat) (size young:Int) (old:Nat) (times:Int) (ns:List Nd) (at':Int) (nd:Nd) (v:Value) (F:Nat→Prop) (h:GAt w a size young old times ns F) (ho:old≤ns.length) (hn:ns.length≤1048576) (hargs:∀ nd∈ns,nd.args.length≤8) (hx0:Ints w v nd.args) :
   CallsR Tryz.prog 156 [.pointer (some ⟨a,0,none⟩),I at',.agg #[I nd.kind,I nd.num,v]] w fun r w'=>r=I (gsetS ns at' nd).1∧∃ F',GAt w' a size young old times (gsetS ns at' nd).2 F'∧Grow F F' w w':=by
 have hx:=hx0
 obtain ⟨va,vc,rfl,hl,_⟩:=hx0
 refine fit156.calls rfl ?_
 unfold ir156
 (try simp only [go_sem,simprocAttr])
 refine e_bx rfl ?_
 intro w1 hb1 hm1 hs1
 have hb1:w1.heap[w.heap.size]? = some (.cells #[.pointer (some ⟨a,0,none⟩)] 122 (0,0)):=hb1
 (try simp only [go_sem,simprocAttr])
 refine e_bx rfl ?_
 intro w2 hb2 hm2 hs2
 have hb2:w2.heap[w1.heap.size]? = some (.cells #[I nd.kind,I nd.num,.slice va nd.args.length vc] 87 (0,0)):=hb2
 have hb12:=hm2.at hb1 (fun h=>h)
 (try simp only [go_sem,simprocAttr,cell_of hb12])
 refine e_bs (by rfl) (by (try simp only [go_sem,simprocAttr]);rfl) ?_
 intro w3 hb3 hm3 hs3
 have hm13:=(hm1.trans hm2).trans hm3
 have h3:=gat_mod h hm13 (fun _ _ h=>h)
 have hx3:Ints w3 (.slice (some ⟨w2.heap.size,0,none⟩) 1 1) [at']:=ints_block (xs:=[at']) hb3 (by simp)
 have hx3n:=hx.mod hm13 (fun _ _ h=>h)
 (try simp only [go_sem,simprocAttr])
 refine e_call (by rfl) ?_
 refine (gplaces_ok w3 a ns.length old _ [at'] (gat_has h3) hx3).mono ?_
 rintro r w4 ⟨rfl,hm4⟩
 rw [okPl_one]
 have hm14:=hm13.trans hm4
 have same:∀ w5,Mod (fun _=>False) w4 w5→∃ F',GAt w5 a size young old times ns F'∧Grow F F' w w5:=fun w5 hm5=>
   ⟨F,gat_mod h (hm14.trans hm5) (fun _ _ h=>h),(hm14.trans hm5).weak (fun _ h=>h.elim),fun b hb=>.inl hb⟩
 (try simp only [go_sem,simprocAttr])
 refine ir_cond rfl (fun hc=>?_) (fun hc=>?_)
 · have hc':¬ (0≤at'∧at' < ns.length):=by simp at hc;omega
   (try simp only [go_sem,simprocAttr])
   have e:gsetS ns at' nd=(212,ns):=by unfold gsetS;rw [if_pos hc']
   rw [e]
   exact ⟨rfl,same w4 (Mod.refl _ _)⟩
 have hc':0≤at'∧at' < ns.length:=by simpa using hc
 obtain ⟨i,rfl⟩:∃ i:Nat,at'=i:=⟨at'.toNat,by omega⟩
 have hi:i < ns.length:=by omega
 have hb14:=(hm3.trans hm4).at hb12 (fun h=>h)
 have hb24:=(hm3.trans hm4).at hb2 (fun h=>h)
 have hd4:vLN w4 3 (.pointer (some ⟨w1.heap.size,0,none⟩))=some (.agg #[I nd.kind,I nd.num,.slice va nd.args.length vc]):=ln_of hb24 (off:=0) (n:=3) (by simp)
 (try simp only [go_sem,simprocAttr,hd4])
 refine e_call (by rfl) ?_
 refine (gmay_ok nd.kind nd.num _ nd.args w4 (hx.mod hm14 (fun _ _ h=>h))).mono ?_
 rintro r w5 ⟨rfl,hm5⟩
 have hm15:=hm14.trans hm5
 have hb15:=hm5.at hb14 (fun h=>h)
 have hb25:=hm5.at hb24 (fun h=>h)
 (try simp only [go_sem,simprocAttr])
 refine ir_cond rfl (fun hm=>?_) (fun hm=>?_)
 · (try simp only [go_sem,simprocAttr])
   have hm':nd.may=false:=by simpa [Nd.may] using hm
   have e:gsetS ns i nd=(1,ns):=by unfold gsetS;rw [if_neg (by simpa using hc'),if_pos hm']
   rw [e]
   exact ⟨rfl,same w5 hm5⟩
 have hm1':nd.may=true:=by simpa [Nd.may] using hm
 have h5:=gat_mod h hm15 (fun _ _ h=>h)
 (try simp only [go_sem,simprocAttr,cell_of hb15,cell_of hb25])
 refine e_call (by rfl) ?_
 refine (gplaces_ok w5 a ns.length old _ nd.args (gat_has h5) (hx.mod hm15 (fun _ _ h=>h))).mono ?_
 rintro r w6 ⟨rfl,hm6⟩
 have hm16:=hm15.trans hm6
 have hb16:=hm6.at hb15 (fun h=>h)
 have hb26:=hm6.at hb25 (fun h=>h)
 (try simp only [go_sem,simprocAttr])
 refine ir_cond rfl (fun ho2=>?_) (fun ho2=>?_)
 · (try simp only [go_sem,simprocAttr])
   have ho':okPl ns.length nd.args=false:=by simpa using ho2
   have e:gsetS ns i nd=(212,ns):=by unfold gsetS;rw [if_neg (by simpa using hc'),if_neg (by simp [hm1']),if_pos ho']
   rw [e]
   exact ⟨rfl,same w6 (hm5.trans hm6)⟩
 have ho1:okPl ns.length nd.args=true:=by simpa using ho2
 have e:gsetS ns i nd=(0,ns.set i nd):=by unfold gsetS;rw [if_neg (by simpa using hc'),if_neg (by simp [hm1']),if_neg (by simp [ho1])];simp
 rw [e]
 (try simp only [go_sem,simprocAttr,cell_of hb26])
 refine e_call (by rfl) ?_
 refine (clone_ok _ nd.args w6 (hx.mod hm16 (fun _ _ h=>h))).mono ?_
 rintro q w7 ⟨hm7,f7,o7,n7⟩
 obtain ⟨va7,vc7,rfl,_,_⟩:=o7.val
 have hb27:=hm7.at hb26 (fun h=>h)
 have hb17:=hm7.at hb16 (fun h=>h)
 have hm17:=hm16.trans hm7
 (try simp only [go_sem,simprocAttr])
 refine e_st1 (off:=2) rfl rfl hb27 rfl (by simp) ?_
 intro w8 hb8 hm8 hs8
 have hb8:w8.heap[w1.heap.size]? = some (.cells #[I nd.kind,I nd.num,.slice va7 nd.args.length vc7] 87 (0,0)):=hb8
 have hb18:=hm8.at hb17 (by have:=lt_of_heap hb1;omega)
 have s1:=hm1.size;have s2:=hm2.size;have s17:=hm17.size
 have hFl:=gat_lt h
 have hm18:Mod (fun _=>False) w w8:=hm17.step hm8 (fun x hx hlt=>by omega)
 have h8:=gat_mod h hm18 (fun _ _ h=>h)
 have s6:=hm16.size;have s3:=hm13.size;have s4:=hm4.size;have s5:=hm5.size;have s66:=hm6.size
 have l2:=lt_of_heap hb2
 have o8:=o7.mod hm8 (fun b hb hh=>by have:=n7 b hb;omega)
 have h8has:=gat_has h8
 obtain ⟨cv,mb,ld,g1,g2,g3,g4,g5,g6⟩:=h8
 obtain ⟨fpc,ps,fp,c1,c2,c3,c4,c5⟩:=g3
 have hps:ps.length=ns.length:=by rw [← c4];simp
 obtain ⟨bc,cc,spc,rfl,rfl,gc,hcc,hcap⟩:=c1.pos (by omega)
 have hi':i < ps.length:=by omega
 have hflat:=flat_len ps
 have hdd:vLN w8.drew 3 (.pointer (some ⟨w1.heap.size,0,none⟩))=some (.agg #[I nd.kind,I nd.num,.slice va7 nd.args.length vc7]):=ln_of (w:=w8.drew) hb8 (off:=0) (n:=3) (by simp)
 have hwd:Mod (fun _=>False) w8 w8.drew:=⟨Nat.le_refl _,fun _ _ _=>rfl,rfl,rfl,rfl⟩
 have gcd:=hwd.at gc (fun h=>h)
 (try simp only [go_sem,simprocAttr,zb4,zb6,cell_of hb18,cell_of g1,hdd,hc'])
 refine e_stg rfl rfl gcd rfl (by simp;omega) (by simp [Value.oneCell']) ?_
 intro w9 hb9 hm9 hs9
 have hne:a≠bc:=fun hh=>kind_ne g1 (hh ▸ gc) (by decide)
 have hsp:=flat_set ps i (nd,.slice va7 nd.args.length vc7) hi' spc
 have hm89:Mod (fun x=>x=bc) w8 w9:=(hwd.weak (fun _ h=>h.elim)).step hm9 (fun x hx _=>hx)
 have hFbc:F bc:=c2 bc rfl
 have hb19:=hm89.at hb18 (fun hh=>by have:=hFl bc hFbc;omega)
 have hb29:=hm89.at hb8 (fun hh=>by have:=hFl bc hFbc;omega)
 have ga9:=hm89.at g1 hne
 have o9:=o8.mod hm89 (fun b hb hh=>own_ne o8 gc (by decide) (by rw [hb,hh]))
 have gm9:=map_mod g4 hm89 (fun hh=>by
   obtain ⟨es,c,q2,_⟩:=g4
   rw [hh,gc] at q2;cases q2)
 have d9:FromD 87 w9 (.slice (some ⟨bc,0,none⟩) ns.length cc) (ns.set i nd) (fun b=>F b∨f7=some b):=by
   refine ⟨some bc,ps.set i (nd,.slice va7 nd.args.length vc7),_,?_,(fun b hb=>.inl (c2 b hb)),argsD_set (argsD_weak (argsD_mod c3 hm89 (fun j b hj hb hh=>own_ne (c3.1 j hj).1 gc (by decide) (by rw [hb,hh]))) (fun b hb=>.inl hb)) o9 (fun b hb=>.inr hb) (fun j b hj hjk hb hh=>?_),by rw [List.map_set,c4],fun b hb=>?_⟩
   · refine ⟨by rw [flat_len];simp;omega,.inr ⟨bc,cc,spc,by simp,rfl,?_,?_,by simpa using hcc⟩⟩
     · rw [← hsp];exact hb9
     · rw [List.length_append,flat_len,List.length_set,← flat_len,← List.length_append];exact hcap
   · have:=hFl b ((c3.1 j hj).2 b hb)
     have:=n7 b hh
     omega
   · have:=hm18.size;have:=hm89.size
     rcases hb with hb | hb
     · have:=hFl b hb;omega
     · exact o9.lt hb
 have hnF:∀ b,(F b∨f7=some b)→F b∨w.heap.size≤b:=fun b hb=>hb.imp (fun h=>h) (fun h=>by have:=n7 b h;omega)
 have hm0:Mod F w w9:=(hm18.weak (fun _ h=>h.elim)).step hm89 (fun x hx _=>hx ▸ hFbc)
 (try simp only [go_sem,simprocAttr,cell_of hb19,cell_of ga9])
 refine ir_cond rfl (fun hlt=>?_) (fun hlt=>?_)
 · have hlt':i < old:=by simpa using hlt
   (try simp only [go_sem,simprocAttr,cell_of hb19,cell_of ga9])
   refine e_dl (t:=160) (kt:=3) (et:=3) rfl rfl rfl Tryz.underlying160 Tryz.underlying3 gm9 ?_
   intro w10 gm10 hm10 hs10
   have hma:a≠mb:=fun hh=>by
     obtain ⟨es,c,q2,_⟩:=gm9
     rw [← hh,ga9] at q2;cases q2
   have ga10:=hm10.at ga9 hma
   have hb110:=hm10.at hb19 (fun hh=>by have:=hFl mb g5;omega)
   have hb210:=hm10.at hb29 (fun hh=>by have:=hFl mb g5;omega)
   have kmap:∀ b cs T,w9.heap[b]? = some (.cells cs T (0,0))→b≠mb:=fun b cs T hb hh=>by
     obtain ⟨es,c,q2,_⟩:=gm9
     rw [← hh,hb] at q2;cases q2
   have d10:FromD 87 w10 (.slice (some ⟨bc,0,none⟩) ns.length cc) (ns.set i nd) (fun b=>F b∨f7=some b):=by
     obtain ⟨fpc,ps,fp,q1,q2,q3,q4,q5⟩:=d9
     refine ⟨fpc,ps,fp,q1.mod hm10 (fun b hb=>?_),q2,argsD_mod q3 hm10 (fun j b hj hb=>?_),q4,fun b hb=>by rw [hs10];exact q5 b hb⟩
     · obtain ⟨cs,q6⟩:=own_cells q1 hb;exact kmap b cs _ q6
     · obtain ⟨cs,q6⟩:=own_cells (q3.1 j hj).1 hb;exact kmap b cs _ q6
   have o10:=o9.mod hm10 (fun b hb=>by obtain ⟨cs,q6⟩:=own_cells o9 hb;exact kmap b cs _ q6)
   have hle8:nd.args.length≤17592186044416:=hl
   have hx10:=(o10.ints hle8).1
   obtain ⟨k1,k2⟩:=ldel_keys g6.1 (i:Int)
   have hm010:Mod F w w10:=hm0.step hm10 (fun x hx _=>hx ▸ g5)
   (try simp only [go_sem,simprocAttr,cell_of hb210])
   refine e_call (by rfl) ?_
   have has10:GHas w10 a ns.length old:=⟨_,_,_,_,_,_,ga10⟩
   refine (contains_ok _ nd.args w10 hx10 162 Tryz.f162 #[.pointer (some ⟨w.heap.size,0,none⟩)] (fun x=>decide (x≥old)) Tryz.func162 fn49.1 fn49.2 (fun x _=>setF_ok w10 a ns.length old w.heap.size x has10 hb110)).mono ?_
   rintro q _ ⟨rfl,rfl⟩
   (try simp only [go_sem,simprocAttr])
   have hany:(nd.args.any (fun x=>decide (x≥(old:Int)))=true)↔∃ x∈nd.args,(old:Int)≤x:=by simp [List.any_eq_true]
   refine ir_cond rfl (fun hq=>?_) (fun hq=>?_)
   · (try simp only [go_sem,simprocAttr,cell_of hb110,cell_of ga10])
     refine e_mu (t:=160) (kt:=3) (et:=3) rfl rfl rfl Tryz.underlying160 Tryz.underlying3 gm10 ?_
     intro w11 gm11 hm11 hs11
     (try simp only [go_sem,simprocAttr])
     have kmap2:∀ b cs T,w10.heap[b]? = some (.cells cs T (0,0))→b≠mb:=fun b cs T hb hh=>by
       obtain ⟨es,c,q2,_⟩:=gm10
       rw [← hh,hb] at q2;cases q2
     obtain ⟨k3,k4⟩:=lput_keys k1 (i:Int) 1
     refine ⟨fun b=>F b∨f7=some b,⟨_,mb,_,hm11.at ga10 hma,.inl g2,?_,gm11,.inl g5,k3,fun k=>?_⟩,hm010.step hm11 (fun x hx _=>hx ▸ g5),hnF⟩
     · obtain ⟨fpc,ps,fp,q1,q2,q3,q4,q5⟩:=d10
       refine ⟨fpc,ps,fp,q1.mod hm11 (fun b hb=>?_),q2,argsD_mod q3 hm11 (fun j b hj hb=>?_),q4,fun b hb=>by rw [hs11];exact q5 b hb⟩
       · obtain ⟨cs,q6⟩:=own_cells q1 hb;exact kmap2 b cs _ q6
       · obtain ⟨cs,q6⟩:=own_cells (q3.1 j hj).1 hb;exact kmap2 b cs _ q6
     · rw [k4,k2,g6.2]
       constructor
       · rintro (⟨⟨p,rfl,hp,hp2⟩,hne2⟩ | rfl)
         · exact ⟨p,rfl,hp,by rw [ndAt_set hi,if_neg (fun hh=>hne2 (by rw [hh]))];exact hp2⟩
         · exact ⟨i,rfl,hlt',by rw [ndAt_set hi,if_pos rfl];exact hany.1 hq⟩
       · rintro ⟨p,rfl,hp,hp2⟩
         by_cases hpi:p=i
         · exact .inr (by rw [hpi])
         · rw [ndAt_set hi,if_neg hpi] at hp2
           exact .inl ⟨⟨p,rfl,hp,hp2⟩,by omega⟩
   · (try simp only [go_sem,simprocAttr])
     refine ⟨fun b=>F b∨f7=some b,⟨_,mb,_,ga10,.inl g2,d10,gm10,.inl g5,k1,fun k=>?_⟩,hm010,hnF⟩
     rw [k2,g6.2]
     constructor
     · rintro ⟨⟨p,rfl,hp,hp2⟩,hne2⟩
       exact ⟨p,rfl,hp,by rw [ndAt_set hi,if_neg (fun hh=>hne2 (by rw [hh]))];exact hp2⟩
     · rintro ⟨p,rfl,hp,hp2⟩
       by_cases hpi:p=i
       · rw [hpi,ndAt_set hi,if_pos rfl] at hp2
         rw [hany.2 hp2] at hq;cases hq
       · rw [ndAt_set hi,if_neg hpi] at hp2
         exact ⟨⟨p,rfl,hp,hp2⟩,by omega⟩
 · have hlt':¬ i < old:=by simpa using hlt
   (try simp only [go_sem,simprocAttr])
   refine ⟨fun b=>F b∨f7=some b,⟨_,mb,ld,ga9,.inl g2,d9,gm9,.inl g5,g6.1,fun k=>?_⟩,hm0,hnF⟩
   rw [g6.2]
   constructor
   · rintro ⟨p,rfl,hp,hp2⟩
     exact ⟨p,rfl,hp,by rw [ndAt_set hi,if_neg (by omega)];exact hp2⟩
   · rintro ⟨p,rfl,hp,hp2⟩
     rw [ndAt_set hi,if_neg (by omega)] at hp2
     exact ⟨p,rfl,hp,hp2⟩
end
end Go.Proofs.YtcllploggibicaaGreat