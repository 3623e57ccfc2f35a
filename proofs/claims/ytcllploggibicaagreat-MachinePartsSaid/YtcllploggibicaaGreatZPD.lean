/- Texts that the last file stands on: IRM, M0, Q1, M1, M2, M3, M4, M5, M6, M7, M8, M9, M10, M11. -/
import Derived.Test.YtcllploggibicaaGreatZPA
import Derived.KernelRfl
import Derived.Test.YtcllploggibicaaGreatZPC
set_option linter.unusedSimpArgs false
set_option linter.unusedVariables false
set_option maxRecDepth 100000
namespace Go.Proofs.YtcllploggibicaaGreat
section
open Go Go.W
def ir11:IR:=.seq (.reg false [.e (some 2) (.al 39 (.agg #[(.int .i64 0),(.slice none 0 0),(.int .i64 0),(.int .i64 0),(.int .i64 0),(.int .i64 0),(.int .i64 0),(.string ⟨#[]⟩)]))] [0,2]) <|
 .seq (.dr (.r 0 none (some 4) (.mv (.t 0)) <|
   .r 1 none (some 5) (.nn (.t 4)) <|
   .r 2 none (some 6) (.fa 15 (.t 5)) <|
   .r 3 none (some 7) (.l1 (.t 6)) <|
   .r 4 none (some 8) (.mv (.t 0)) <|
   .r 6 none (some 10) (.mv (.t 0)) <|
   .r 7 none (some 11) (.nn (.t 10)) <|
   .r 8 none (some 12) (.fa 16 (.t 11)) <|
   .r 9 none (some 13) (.l1 (.t 12)) <|
   .r 10 none (some 14) (.mv (.t 0)) <|
   .r 11 none (some 15) (.nn (.t 14)) <|
   .r 12 none (some 16) (.fa 14 (.t 15)) <|
   .r 13 none (some 17) (.l1 (.t 16)) <|
   .e2 5 (some 9) (.call 26 [(.t 8)]) [3,9,13] (.r 14 none (some 18) (.bd #[(.int .i64 0),(.slice none 0 0),(.int .i64 0),(.int .i64 0),(.int .i64 0),(.int .i64 0),(.int .i64 0),(.string ⟨#[]⟩)] [(0,1,(.t 7)),(1,1,(.t 9)),(2,1,(.t 13)),(3,1,(.t 17))]) <|
   .e 15 none (some 3) (.al 39 (.agg #[(.int .i64 0),(.slice none 0 0),(.int .i64 0),(.int .i64 0),(.int .i64 0),(.int .i64 0),(.int .i64 0),(.string ⟨#[]⟩)])) [3,9,13] <|
   .e 16 none none (.st 8 (.t 3) (.t 18)) [] <|
   .nil) 15 (some 3) (.al 39 (.agg #[(.int .i64 0),(.slice none 0 0),(.int .i64 0),(.int .i64 0),(.int .i64 0),(.int .i64 0),(.int .i64 0),(.string ⟨#[]⟩)])) [3,9,13]
   (.e 5 none (some 9) (.call 26 [(.t 8)]) [3,9,13] <|
   .r 14 none (some 18) (.bd #[(.int .i64 0),(.slice none 0 0),(.int .i64 0),(.int .i64 0),(.int .i64 0),(.int .i64 0),(.int .i64 0),(.string ⟨#[]⟩)] [(0,1,(.t 7)),(1,1,(.t 9)),(2,1,(.t 13)),(3,1,(.t 17))]) <|
   .e 16 none none (.st 8 (.t 3) (.t 18)) [] <|
   .nil)) [0,2,3]) <|
 .seq (.seq (.reg false [.r (some 20) (.nn (.t 0)),
.r (some 21) (.fa 15 (.t 20)),
.r (some 22) (.l1 (.t 21)),
.r (some 23) (.bi .eql (.t 22) (.c (.int .i64 0)))] [2,3,23]) <|
 .cond (.t 23) (.reg false [.r (some 24) (.fa 0 (.t 3)),
.e none (.st 1 (.t 24) (.c (.int .i64 4)))] [2,3]) (.skip)) <|
 .seq (.reg false [.r (some 25) (.ln 8 (.t 3)),
.e none (.st 8 (.t 2) (.t 25))] [2]) <|
 .ret
theorem fit11:Fits Tryz.prog 11 1 (hOf Tryz.f11 ir11) ir11 [.n 2 8] 26:=⟨Tryz.f11,_,rfl,rfl,rfl,by decide,by kernel_rfl,by kernel_rfl⟩
def ir15L1:IR:=.seq (.reg false [.r (some 69) (.bi .lss (.t 68) (.t 67))] [11,12,15,67,68,69]) <|
 .seq (.cond (.t 69) (.skip) ((.exit 1))) <|
 .seq (.block 2 (.seq (.reg false [.r (some 16) (.mv (.t 68))] [11,12,15,16,67,68]) <|
 .seq (.reg false [.r (some 72) (.mv (.t 12)),
.r (some 73) (.mv (.t 16)),
.r (some 74) (.bd #[(.int .i64 0),(.int .i64 0),(.slice none 0 0)] [(0,1,(.c (.int .i64 4))),(1,1,(.t 73))]),
.e (some 75) (.raw ⟨(some 75),(.call { callee:=(.invoke (.tmp 72) "Add"),args:=#[(.tmp 74)],argTypes:=#[87]}),62, "machine.go:104",#[⟨0,.data⟩,⟨2,.data⟩],none⟩),
.r (some 71) (.mv (.t 75)),
.r (some 76) (.ex 0 (.t 71)),
.r (some 77) (.ex 1 (.t 71)),
.r (some 17) (.mv (.t 76)),
.r (some 18) (.mv (.t 77))] [11,12,15,17,18,67,68]) <|
 .seq (.seq (.reg false [.r (some 79) (.bi .neq (.t 18) (.c (.int .i64 0)))] [11,12,15,17,67,68,79]) <|
 .cond (.t 79) (.seq (.reg false [.r (some 82) (.nn (.t 15)),
.r (some 83) (.fa 15 (.t 82)),
.e none (.st 1 (.t 83) (.c (.int .i64 5))),
.r (some 84) (.nn (.t 15)),
.r (some 85) (.fa 9 (.t 84)),
.e none (.st 1 (.t 85) (.c (.slice none 0 0)))] [15]) <|
 .seq (.reg false [.r (some 8) (.mv (.t 15)),
.r (some 9) (.mv (.c (.int .i64 0)))] [8,9]) <|
 .ret) (.skip)) <|
 .reg false [.r (some 89) (.nn (.t 15)),
.r (some 90) (.fa 9 (.t 89)),
.r (some 91) (.l1 (.t 90)),
.e (some 93) (.bs 3 1 #[(.int .i64 0)] [(0,1,(.t 17))]),
.e (some 94) (.ap 3 1 8 #[(.int .i64 0)] (.t 91) (.t 93)),
.r (some 95) (.nn (.t 15)),
.r (some 96) (.fa 9 (.t 95)),
.e none (.st 1 (.t 96) (.t 94))] [11,12,15,67,68])) <|
 .reg false [.r (some 97) (.bi .add (.t 68) (.c (.int .i64 1))),
.r (some 68) (.mv (.t 97))] [11,12,15,67,68]
def ir15:IR:=.seq (.reg false [.e (some 4) (.bx 25 (.t 0)),
.e (some 5) (.bx 9 (.t 1)),
.e (some 7) (.bx 28 (.t 3))] [2,4,5,7]) <|
 .seq (.block 0 (.seq (.reg false [.r (some 21) (.len (.t 2)),
.r (some 22) (.bi .gtr (.t 21) (.c (.int .i64 10000))),
.r (some 19) (.mv (.t 22))] [2,4,5,7,19]) <|
 .cond (.t 19) (.seq (.reg false [.r (some 8) (.mv (.c (.pointer none))),
.r (some 9) (.mv (.c (.int .i64 2)))] [8,9]) <|
 .ret) (.seq (.seq (.reg false [.e (some 25) (.call 29 [(.t 2),(.c (.func (.func 30) #[] #[]))]),
.r (some 23) (.mv (.t 25))] [2,4,5,7,23]) <|
 .cond (.t 23) (.skip) (.seq (.reg false [.r (some 26) (.fa 0 (.t 7)),
.r (some 27) (.l1 (.t 26)),
.r (some 28) (.bi .lss (.t 27) (.c (.int .i64 1))),
.r (some 23) (.mv (.t 28))] [2,4,5,7,23]) <|
 .cond (.t 23) (.skip) (.seq (.reg false [.r (some 29) (.fa 0 (.t 7)),
.r (some 30) (.l1 (.t 29)),
.r (some 31) (.bi .gtr (.t 30) (.c (.int .i64 1048576))),
.r (some 23) (.mv (.t 31))] [2,4,5,7,23]) <|
 .cond (.t 23) (.skip) (.reg false [.r (some 32) (.fa 2 (.t 7)),
.r (some 33) (.l1 (.t 32)),
.r (some 34) (.bi .lss (.t 33) (.c (.int .i64 0))),
.r (some 23) (.mv (.t 34))] [2,4,5,7,23])))) <|
 .cond (.t 23) (.seq (.reg false [.r (some 8) (.mv (.c (.pointer none))),
.r (some 9) (.mv (.c (.int .i64 1)))] [8,9]) <|
 .ret) (.skip)))) <|
 .seq (.seq (.reg false [.r (some 35) (.ln 2 (.t 4)),
.e (some 36) (.call 32 [(.t 35)]),
.r (some 10) (.mv (.t 36))] [2,4,5,7,10]) <|
 .seq (.reg false [.r (some 38) (.bi .neq (.t 10) (.c (.int .i64 0)))] [2,4,5,7,10,38]) <|
 .cond (.t 38) (.seq (.reg false [.r (some 8) (.mv (.c (.pointer none))),
.r (some 9) (.mv (.t 10))] [8,9]) <|
 .ret) (.skip)) <|
 .seq (.reg false [.r (some 40) (.fa 1 (.t 4)),
.r (some 41) (.l1 (.t 40)),
.r (some 42) (.mf (.func 34) [] [(.t 5)]),
.e (some 43) (.call 33 [(.t 41),(.t 42)]),
.r (some 11) (.mv (.t 43))] [2,4,7,11]) <|
 .seq (.seq (.reg false [.r (some 45) (.bi .lss (.t 11) (.c (.int .i64 0)))] [2,4,7,11,45]) <|
 .cond (.t 45) (.seq (.reg false [.r (some 8) (.mv (.c (.pointer none))),
.r (some 9) (.mv (.c (.int .i64 220)))] [8,9]) <|
 .ret) (.skip)) <|
 .seq (.reg false [.r (some 47) (.ln 3 (.t 7)),
.e (some 48) (.call 35 [(.t 47)]),
.r (some 49) (.ex 0 (.t 48)),
.r (some 50) (.ex 1 (.t 48)),
.r (some 51) (.ex 2 (.t 48)),
.r (some 12) (.mv (.t 49)),
.r (some 13) (.mv (.t 50)),
.r (some 14) (.mv (.t 51))] [2,4,7,11,12,13,14]) <|
 .seq (.seq (.reg false [.r (some 53) (.bi .neq (.t 14) (.c (.int .i64 0)))] [2,4,7,11,12,13,14,53]) <|
 .cond (.t 53) (.seq (.reg false [.r (some 8) (.mv (.c (.pointer none))),
.r (some 9) (.mv (.t 14))] [8,9]) <|
 .ret) (.skip)) <|
 .seq (.dr (.r 0 none (some 55) (.ln 2 (.t 4)) <|
   .r 2 none (some 57) (.mv (.t 2)) <|
   .r 4 none (some 59) (.ln 3 (.t 7)) <|
   .r 5 none (some 60) (.mv (.t 12)) <|
   .r 6 none (some 61) (.mv (.t 13)) <|
   .e 1 none (some 56) (.call 36 [(.t 55)]) [4] <|
   .e 3 none (some 58) (.call 37 [(.t 57)]) [4] <|
   .e 7 none (some 62) (.call 38 []) [4] <|
   .r 8 none (some 63) (.bd #[(.slice none 0 0),(.slice none 0 0),(.slice none 0 0),(.int .i64 0),(.bool false),(.int .i64 0),.nilIface,(.int .i64 0),(.int .i64 0),(.slice none 0 0),(.slice none 0 0),(.slice none 0 0),(.bool false),(.slice none 0 0),(.int .i64 0),(.int .i64 0),(.int .i64 0),(.int .i64 0),(.slice none 0 0)] [(0,2,(.t 56)),(2,1,(.t 58)),(3,3,(.t 59)),(6,1,(.t 60)),(7,1,(.t 61)),(18,1,(.t 62))]) <|
   .e 9 none (some 64) (.bx 78 (.t 63)) [] <|
   .r 10 none (some 15) (.mv (.t 64)) <|
   .nil) [4,11,12,15]) <|
 .seq (.seq (.reg false [.r (some 65) (.fa 1 (.t 4)),
.r (some 66) (.l1 (.t 65)),
.r (some 67) (.len (.t 66)),
.r (some 68) (.mv (.c (.int .i64 0)))] [11,12,15,67,68]) <|
 .block 1 (.loop ir15L1)) <|
 .seq (.reg false [.r (some 100) (.nn (.t 15)),
.r (some 101) (.fa 9 (.t 100)),
.r (some 102) (.l1 (.t 101)),
.r (some 104) (.ia 1 (.t 102) (.t 11)),
.r (some 105) (.l1 (.t 104)),
.e (some 106) (.bs 3 1 #[(.int .i64 0)] [(0,1,(.t 105))]),
.r (some 107) (.nn (.t 15)),
.r (some 108) (.fa 11 (.t 107)),
.e none (.st 1 (.t 108) (.t 106))] [15]) <|
 .seq (.reg false [.r (some 8) (.mv (.t 15)),
.r (some 9) (.mv (.c (.int .i64 0)))] [8,9]) <|
 .ret
theorem fit15:Fits Tryz.prog 15 4 (hOf Tryz.f15 ir15) ir15 [.t 8,.t 9] 110:=⟨Tryz.f15,_,rfl,rfl,rfl,by decide,by kernel_rfl,by kernel_rfl⟩
def ir18L1:IR:=.seq (.seq (.reg false [.r (some 11) (.nn (.t 0)),
.r (some 12) (.fa 15 (.t 11)),
.r (some 13) (.l1 (.t 12)),
.r (some 14) (.bi .eql (.t 13) (.c (.int .i64 0))),
.gr 14 true (some 16) (.mv (.t 0)),
.gr 14 true (some 17) (.nn (.t 16)),
.gr 14 true (some 18) (.fa 14 (.t 17)),
.gr 14 true (some 19) (.l1 (.t 18)),
.gr 14 true (some 20) (.mv (.t 5)),
.gr 14 true (some 21) (.bi .sub (.t 19) (.t 20)),
.gr 14 true (some 22) (.mv (.t 1)),
.gr 14 true (some 23) (.bi .lss (.t 21) (.t 22)),
.r (some 24) (.pk (.t 14) (.t 23) (.c (.bool false)))] [0,1,5,24]) <|
 .cond (.t 24) (.skip) ((.exit 0))) <|
 .block 1 (.reg false [.e (some 26) (.call 24 [(.t 0)])] [0,1,5])
def ir18:IR:=.seq (.reg false [] [0,1]) <|
 .seq (.reg false [.r (some 7) (.nn (.t 0)),
.r (some 8) (.fa 14 (.t 7)),
.r (some 9) (.l1 (.t 8)),
.r (some 5) (.mv (.t 9))] [0,1,5]) <|
 .seq (.block 0 (.loop ir18L1)) <|
 .seq (.reg false [.r (some 28) (.nn (.t 0)),
.r (some 29) (.fa 14 (.t 28)),
.r (some 30) (.l1 (.t 29)),
.r (some 32) (.bi .sub (.t 30) (.t 5)),
.r (some 4) (.mv (.t 32))] [4]) <|
 .ret
theorem fit18:Fits Tryz.prog 18 2 (hOf Tryz.f18 ir18) ir18 [.t 4] 33:=⟨Tryz.f18,_,rfl,rfl,rfl,by decide,by kernel_rfl,by kernel_rfl⟩
def ir22B1:IR:=.block 1 (.seq (.reg false [.r (some 27) (.nn (.t 5)),
.r (some 28) (.fa 0 (.t 27)),
.r (some 29) (.l1 (.t 28))] [3,5,29]) <|
 .cond (.t 29) (.dr (.r 0 none (some 30) (.fa 1 (.t 3)) <|
   .r 1 none (some 31) (.l1 (.t 30)) <|
   .r 2 none (some 32) (.mv (.t 5)) <|
   .r 3 none (some 33) (.nn (.t 32)) <|
   .r 4 none (some 34) (.fa 1 (.t 33)) <|
   .r 5 none (some 35) (.l1 (.t 34)) <|
   .r 6 none (some 36) (.mv (.t 5)) <|
   .r 7 none (some 37) (.nn (.t 36)) <|
   .r 8 none (some 38) (.fa 2 (.t 37)) <|
   .r 9 none (some 39) (.l1 (.t 38)) <|
   .r 10 none (some 40) (.mv (.t 5)) <|
   .r 11 none (some 41) (.nn (.t 40)) <|
   .r 12 none (some 42) (.fa 3 (.t 41)) <|
   .r 13 none (some 43) (.l1 (.t 42)) <|
   .r 14 none (some 44) (.len (.t 43)) <|
   .r 15 none (some 45) (.bd #[(.int .i64 0),(.int .i64 0),(.int .i64 0)] [(0,1,(.t 35)),(1,1,(.t 39)),(2,1,(.t 44))]) <|
   .e 16 none (some 46) (.bs 100 1 #[(.int .i64 0),(.int .i64 0),(.int .i64 0)] [(0,3,(.t 45))]) [1] <|
   .e 17 none (some 47) (.ap 100 3 24 #[(.int .i64 0),(.int .i64 0),(.int .i64 0)] (.t 31) (.t 46)) [] <|
   .r 18 none (some 48) (.fa 1 (.t 3)) <|
   .e 19 none none (.st 1 (.t 48) (.t 47)) [] <|
   .nil) []) (.dr (.r 0 none (some 49) (.fa 1 (.t 3)) <|
   .r 1 none (some 50) (.l1 (.t 49)) <|
   .r 2 none (some 51) (.mv (.t 5)) <|
   .r 3 none (some 52) (.nn (.t 51)) <|
   .r 4 none (some 53) (.fa 4 (.t 52)) <|
   .r 5 none (some 54) (.l1 (.t 53)) <|
   .r 6 none (some 55) (.len (.t 54)) <|
   .r 7 none (some 56) (.bd #[(.int .i64 0),(.int .i64 0),(.int .i64 0)] [(0,1,(.c (.int .i64 (-1)))),(2,1,(.t 55))]) <|
   .e 8 none (some 57) (.bs 100 1 #[(.int .i64 0),(.int .i64 0),(.int .i64 0)] [(0,3,(.t 56))]) [1] <|
   .e 9 none (some 58) (.ap 100 3 24 #[(.int .i64 0),(.int .i64 0),(.int .i64 0)] (.t 50) (.t 57)) [] <|
   .r 10 none (some 59) (.fa 1 (.t 3)) <|
   .e 11 none none (.st 1 (.t 59) (.t 58)) [] <|
   .nil) []))
def ir22:K:=.seq (.ir (.reg false [.e (some 2) (.al 59 (.agg #[(.int .i64 0),(.slice none 0 0),(.int .i64 0),(.int .i64 0)]))] [0,2])) <|
 .seq (.ir (.dr (.r 0 none (some 6) (.mv (.t 0)) <|
   .r 1 none (some 7) (.nn (.t 6)) <|
   .r 2 none (some 8) (.fa 14 (.t 7)) <|
   .r 3 none (some 9) (.l1 (.t 8)) <|
   .r 4 none (some 10) (.mv (.t 0)) <|
   .r 5 none (some 11) (.nn (.t 10)) <|
   .r 6 none (some 12) (.fa 15 (.t 11)) <|
   .r 7 none (some 13) (.l1 (.t 12)) <|
   .r 8 none (some 14) (.mv (.t 0)) <|
   .r 9 none (some 15) (.nn (.t 14)) <|
   .r 10 none (some 16) (.fa 17 (.t 15)) <|
   .r 11 none (some 17) (.l1 (.t 16)) <|
   .r 12 none (some 18) (.bd #[(.int .i64 0),(.slice none 0 0),(.int .i64 0),(.int .i64 0)] [(0,1,(.t 9)),(3,1,(.t 13)),(2,1,(.t 17))]) <|
   .e 13 none (some 3) (.al 59 (.agg #[(.int .i64 0),(.slice none 0 0),(.int .i64 0),(.int .i64 0)])) [3,7,11] <|
   .e 14 none none (.st 4 (.t 3) (.t 18)) [] <|
   .nil) [0,2,3])) <|
 .seq (.seq (.ir (.reg false [.r (some 20) (.nn (.t 0)),
.r (some 21) (.fa 10 (.t 20)),
.r (some 22) (.l1 (.t 21)),
.e (some 23) (.call 42 [(.t 22)])] [0,2,3,23])) <|
 .blk 0 (.rng 23 24 25 5 ir22B1)) <|
 .ir (.seq (.seq (.reg false [.r (some 61) (.nn (.t 0)),
.r (some 62) (.fa 15 (.t 61)),
.r (some 63) (.l1 (.t 62)),
.r (some 64) (.bi .neq (.t 63) (.c (.int .i64 5)))] [0,2,3,64]) <|
 .cond (.t 64) (.reg false [.e (some 66) (.call 43 [(.t 0)]),
.r (some 67) (.fa 2 (.t 3)),
.e none (.st 1 (.t 67) (.t 66))] [2,3]) (.skip)) <|
 .seq (.reg false [.r (some 68) (.ln 4 (.t 3)),
.e none (.st 4 (.t 2) (.t 68))] [2]) <|
 .ret)
theorem fit22:FitsK Tryz.prog 22 1 [(0,[0,2],[]),(1,[0,2,3],[0,1,3,7,0,16,48,112,0,256,768,1792,4095,0,16383]),(2,[0,2,3,23],[]),(4,[3,5,29],[]),(5,[],[0,1,0,4,12,28,0,64,192,448,0,1024,3072,7168,15360,32764,65532,131071,262143,524287]),(6,[],[0,1,0,4,12,28,60,124,252,511,1023,2047]),(7,[0,2,3,64],[]),(8,[2,3],[]),(9,[2],[])] ir22 [.n 2 4] 69:=
 ⟨Tryz.f22,_,rfl,rfl,rfl,by decide,by kernel_rfl,by kernel_rfl⟩
def ir24:IR:=.seq (.reg false [] [0]) <|
 .seq (.seq (.reg false [.r (some 7) (.nn (.t 0)),
.r (some 8) (.fa 15 (.t 7)),
.r (some 9) (.l1 (.t 8)),
.r (some 10) (.bi .neq (.t 9) (.c (.int .i64 0)))] [0,10]) <|
 .cond (.t 10) (.seq (.reg false [.r (some 2) (.mv (.c (.int .i64 0))),
.r (some 3) (.mv (.c (.int .i64 221)))] [2,3]) <|
 .ret) (.skip)) <|
 .seq (.block 0 (.seq (.reg false [.r (some 27) (.nn (.t 0)),
.r (some 28) (.fa 10 (.t 27)),
.r (some 29) (.l1 (.t 28)),
.r (some 30) (.len (.t 29)),
.r (some 31) (.bi .eql (.t 30) (.c (.int .i64 0))),
.r (some 25) (.mv (.t 31))] [0,25]) <|
 .cond (.t 25) (.reg false [.e (some 33) (.call 44 [(.t 0)])] [0]) (.seq (.reg true [.r (some 35) (.mv (.t 0)),
.r (some 36) (.nn (.t 35)),
.r (some 37) (.fa 10 (.t 36)),
.r (some 38) (.l1 (.t 37)),
.r (some 39) (.mv (.t 0)),
.r (some 40) (.nn (.t 39)),
.r (some 41) (.fa 10 (.t 40)),
.r (some 42) (.l1 (.t 41)),
.r (some 43) (.len (.t 42)),
.r (some 44) (.bi .sub (.t 43) (.c (.int .i64 1))),
.r (some 45) (.ia 1 (.t 38) (.t 44)),
.r (some 46) (.l1 (.t 45)),
.r (some 47) (.nn (.t 46)),
.r (some 48) (.fa 0 (.t 47)),
.r (some 49) (.l1 (.t 48)),
.r (some 34) (.mv (.t 49))] [0,34]) <|
 .cond (.t 34) (.reg true [.r (some 50) (.mv (.t 0)),
.r (some 51) (.mv (.t 0)),
.r (some 52) (.nn (.t 51)),
.r (some 53) (.fa 10 (.t 52)),
.r (some 54) (.l1 (.t 53)),
.r (some 55) (.mv (.t 0)),
.r (some 56) (.nn (.t 55)),
.r (some 57) (.fa 10 (.t 56)),
.r (some 58) (.l1 (.t 57)),
.r (some 59) (.len (.t 58)),
.r (some 60) (.bi .sub (.t 59) (.c (.int .i64 1))),
.r (some 61) (.ia 1 (.t 54) (.t 60)),
.r (some 62) (.l1 (.t 61)),
.e (some 63) (.call 45 [(.t 50),(.t 62)])] [0]) (.reg true [.r (some 11) (.mv (.t 0)),
.r (some 12) (.mv (.t 0)),
.r (some 13) (.nn (.t 12)),
.r (some 14) (.fa 10 (.t 13)),
.r (some 15) (.l1 (.t 14)),
.r (some 16) (.mv (.t 0)),
.r (some 17) (.nn (.t 16)),
.r (some 18) (.fa 10 (.t 17)),
.r (some 19) (.l1 (.t 18)),
.r (some 20) (.len (.t 19)),
.r (some 21) (.bi .sub (.t 20) (.c (.int .i64 1))),
.r (some 22) (.ia 1 (.t 15) (.t 21)),
.r (some 23) (.l1 (.t 22)),
.e (some 24) (.call 46 [(.t 11),(.t 23)])] [0])))) <|
 .seq (.seq (.reg false [.r (some 65) (.nn (.t 0)),
.r (some 66) (.fa 15 (.t 65)),
.r (some 67) (.l1 (.t 66)),
.r (some 68) (.bi .eql (.t 67) (.c (.int .i64 5)))] [0,68]) <|
 .cond (.t 68) (.seq (.reg false [.r (some 70) (.nn (.t 0)),
.r (some 71) (.fa 15 (.t 70)),
.r (some 72) (.l1 (.t 71)),
.r (some 2) (.mv (.t 72)),
.r (some 3) (.mv (.c (.int .i64 0)))] [2,3]) <|
 .ret) (.skip)) <|
 .seq (.reg false [.r (some 74) (.nn (.t 0)),
.r (some 75) (.fa 14 (.t 74)),
.r (some 76) (.l1 (.t 75)),
.r (some 77) (.bi .add (.t 76) (.c (.int .i64 1))),
.r (some 78) (.nn (.t 0)),
.r (some 79) (.fa 14 (.t 78)),
.e none (.st 1 (.t 79) (.t 77))] [0]) <|
 .seq (.seq (.reg true [.r (some 80) (.mv (.t 0)),
.r (some 81) (.nn (.t 80)),
.r (some 82) (.fa 3 (.t 81)),
.r (some 83) (.fa 2 (.t 82)),
.r (some 84) (.l1 (.t 83)),
.r (some 85) (.bi .gtr (.t 84) (.c (.int .i64 0))),
.r (some 86) (.mv (.t 85)),
.gr 86 true (some 87) (.mv (.t 0)),
.gr 86 true (some 88) (.nn (.t 87)),
.gr 86 true (some 89) (.fa 14 (.t 88)),
.gr 86 true (some 90) (.l1 (.t 89)),
.gr 86 true (some 91) (.mv (.t 0)),
.gr 86 true (some 92) (.nn (.t 91)),
.gr 86 true (some 93) (.fa 3 (.t 92)),
.gr 86 true (some 94) (.fa 2 (.t 93)),
.gr 86 true (some 95) (.l1 (.t 94)),
.gr 86 true (some 96) (.bi .rem (.t 90) (.t 95)),
.gr 86 true (some 97) (.bi .eql (.t 96) (.c (.int .i64 0))),
.r (some 98) (.pk (.t 86) (.t 97) (.c (.bool false)))] [0,98]) <|
 .cond (.t 98) (.seq (.dr (.r 0 none (some 100) (.mv (.t 0)) <|
   .r 1 none (some 101) (.nn (.t 100)) <|
   .r 2 none (some 102) (.fa 6 (.t 101)) <|
   .r 3 none (some 103) (.l1 (.t 102)) <|
   .r 4 none (some 104) (.mv (.t 0)) <|
   .r 6 none (some 106) (.nn (.t 103)) <|
   .r 7 none (some 107) (.mv (.t 103)) <|
   .e 5 none (some 105) (.call 47 [(.t 104)]) [3] <|
   .e 8 none (some 108) (.raw ⟨(some 108),(.call { callee:=(.invoke (.tmp 107) "Collect"),args:=#[(.tmp 105)],argTypes:=#[26]}),109, "machine.go:193",#[⟨7,.data⟩,⟨5,.data⟩,⟨5,.chain⟩],none⟩) [] <|
   .r 9 none (some 99) (.mv (.t 108)) <|
   .r 10 none (some 109) (.ex 0 (.t 99)) <|
   .r 11 none (some 110) (.ex 1 (.t 99)) <|
   .r 12 none (some 4) (.mv (.t 109)) <|
   .r 13 none (some 5) (.mv (.t 110)) <|
   .nil) [0,4,5]) <|
 .seq (.reg false [.r (some 112) (.bi .eql (.t 5) (.c (.int .i64 0)))] [0,4,112]) <|
 .cond (.t 112) (.seq (.reg false [.e (some 115) (.call 48 [(.t 0),(.t 4)])] [0]) <|
 .reg false [.r (some 116) (.mv (.t 0)),
.r (some 117) (.mv (.t 0)),
.r (some 118) (.nn (.t 117)),
.r (some 119) (.fa 6 (.t 118)),
.r (some 120) (.l1 (.t 119)),
.e (some 121) (.raw ⟨(some 121),(.call { callee:=(.invoke (.tmp 120) "Used"),args:=#[],argTypes:=#[]}),3, "machine.go:195",#[⟨4,.data⟩],none⟩),
.r (some 122) (.nn (.t 116)),
.r (some 123) (.fa 8 (.t 122)),
.e none (.st 1 (.t 123) (.t 121))] [0]) (.skip)) (.skip)) <|
 .seq (.reg false [.r (some 125) (.nn (.t 0)),
.r (some 126) (.fa 15 (.t 125)),
.r (some 127) (.l1 (.t 126)),
.r (some 2) (.mv (.t 127)),
.r (some 3) (.mv (.c (.int .i64 0)))] [2,3]) <|
 .ret
theorem fit24:Fits Tryz.prog 24 1 (hOf Tryz.f24 ir24) ir24 [.t 2,.t 3] 128:=⟨Tryz.f24,_,rfl,rfl,rfl,by decide,by kernel_rfl,by kernel_rfl⟩
def ir26:IR:=.seq (.reg false [] [0]) <|
 .seq (.reg false [.r (some 4) (.nn (.t 0)),
.r (some 5) (.fa 13 (.t 4)),
.r (some 6) (.l1 (.t 5)),
.e (some 7) (.call 50 [(.t 6)]),
.e (some 8) (.call 49 [(.t 7)]),
.r (some 2) (.mv (.t 8))] [2]) <|
 .ret
theorem fit26:Fits Tryz.prog 26 1 (hOf Tryz.f26 ir26) ir26 [.t 2] 9:=⟨Tryz.f26,_,rfl,rfl,rfl,by decide,by kernel_rfl,by kernel_rfl⟩
def ir30:IR:=.seq (.reg false [] [0]) <|
 .seq (.reg false [.e (some 4) (.call 31 [(.t 0)]),
.r (some 5) (.no (.t 4)),
.r (some 2) (.mv (.t 5))] [2]) <|
 .ret
theorem fit30:Fits Tryz.prog 30 1 (hOf Tryz.f30 ir30) ir30 [.t 2] 6:=⟨Tryz.f30,_,rfl,rfl,rfl,by decide,by kernel_rfl,by kernel_rfl⟩
def ir31:IR:=.seq (.reg false [] [0]) <|
 .seq (.reg false [.r (some 4) (.bi .geq (.t 0) (.c (.int .i64 (-4611686018427387904)))),
.gr 4 true (some 6) (.mv (.t 0)),
.gr 4 true (some 7) (.bi .leq (.t 6) (.c (.int .i64 4611686018427387903))),
.r (some 8) (.pk (.t 4) (.t 7) (.c (.bool false))),
.r (some 2) (.mv (.t 8))] [2]) <|
 .ret
theorem fit31:Fits Tryz.prog 31 1 (hOf Tryz.f31 ir31) ir31 [.t 2] 9:=⟨Tryz.f31,_,rfl,rfl,rfl,by decide,by kernel_rfl,by kernel_rfl⟩
def ir32L1:IR:=.seq (.reg false [.r (some 20) (.bi .lss (.t 19) (.t 18))] [1,3,17,18,19,20]) <|
 .seq (.cond (.t 20) (.skip) ((.exit 0))) <|
 .seq (.block 1 (.seq (.reg false [.r (some 21) (.ia 2 (.t 17) (.t 19)),
.r (some 22) (.ln 2 (.t 21)),
.e (some 5) (.al 89 (.agg #[(.string ⟨#[]⟩),(.int .i64 0)])),
.e none (.st 2 (.t 5) (.t 22))] [1,3,5,17,18,19]) <|
 .seq (.seq (.reg false [.r (some 23) (.fa 0 (.t 5)),
.r (some 24) (.l1 (.t 23)),
.e (some 25) (.call 58 [(.t 24)]),
.r (some 26) (.no (.t 25)),
.r (some 27) (.mv (.t 26)),
.gr 27 false (some 28) (.mv (.t 3)),
.gr 27 false (some 29) (.fa 0 (.t 5)),
.gr 27 false (some 30) (.l1 (.t 29)),
.ge 27 false (some 31) (.raw ⟨(some 31),(.lookup 119 (.tmp 28) (.tmp 30) false),3, "check.go:69",#[⟨5,.data⟩,⟨7,.data⟩,⟨4,.guard⟩],some (4,false)⟩),
.gr 27 false (some 32) (.bi .gtr (.t 31) (.c (.int .i64 0))),
.r (some 33) (.pk (.t 27) (.c (.bool true)) (.t 32)),
.r (some 34) (.mv (.t 33)),
.gr 34 false (some 35) (.fa 1 (.t 5)),
.gr 34 false (some 36) (.l1 (.t 35)),
.gr 34 false (some 37) (.bi .lss (.t 36) (.c (.int .i64 0))),
.r (some 38) (.pk (.t 34) (.c (.bool true)) (.t 37)),
.r (some 39) (.mv (.t 38)),
.gr 39 false (some 40) (.fa 1 (.t 5)),
.gr 39 false (some 41) (.l1 (.t 40)),
.gr 39 false (some 42) (.bi .gtr (.t 41) (.c (.int .i64 8))),
.r (some 43) (.pk (.t 39) (.c (.bool true)) (.t 42))] [1,3,5,17,18,19,43]) <|
 .cond (.t 43) (.seq (.reg false [.r (some 2) (.mv (.c (.int .i64 172)))] [2]) <|
 .ret) (.skip)) <|
 .reg false [.r (some 44) (.mv (.t 3)),
.r (some 45) (.fa 0 (.t 5)),
.r (some 46) (.l1 (.t 45)),
.e none (.raw ⟨none,(.mapUpdate 119 (.tmp 44) (.tmp 46) (.const (.int .i64 1))),0, "check.go:72",#[⟨0,.data⟩,⟨2,.data⟩,⟨0,.phase⟩,⟨1,.phase⟩,⟨2,.phase⟩],none⟩)] [1,3,17,18,19])) <|
 .reg false [.r (some 47) (.bi .add (.t 19) (.c (.int .i64 1))),
.r (some 19) (.mv (.t 47))] [1,3,17,18,19]
def ir32L2:IR:=.seq (.reg false [.r (some 51) (.bi .lss (.t 50) (.t 49))] [1,3,48,49,50,51]) <|
 .seq (.cond (.t 51) (.skip) ((.exit 2))) <|
 .seq (.block 3 (.seq (.reg false [.r (some 53) (.ia 2 (.t 48) (.t 50)),
.r (some 54) (.ln 2 (.t 53)),
.e (some 7) (.al 89 (.agg #[(.string ⟨#[]⟩),(.int .i64 0)])),
.r (some 6) (.mv (.t 50)),
.e none (.st 2 (.t 7) (.t 54))] [1,3,6,7,48,49,50]) <|
 .seq (.reg true [.r (some 55) (.mv (.t 6)),
.r (some 56) (.fa 0 (.t 1)),
.r (some 57) (.l1 (.t 56)),
.r (some 58) (.len (.t 57)),
.r (some 59) (.bi .geq (.t 55) (.t 58)),
.r (some 60) (.mv (.t 59)),
.gr 60 false (some 61) (.fa 0 (.t 1)),
.gr 60 false (some 62) (.l1 (.t 61)),
.gr 60 false (some 63) (.mv (.t 6)),
.gr 60 false (some 64) (.ia 2 (.t 62) (.t 63)),
.gr 60 false (some 65) (.ln 2 (.t 64)),
.gr 60 false (some 66) (.ln 2 (.t 7)),
.gr 60 false (some 67) (.eqa true [(0,.str),(1,.int)] (.t 65) (.t 66)),
.r (some 68) (.pk (.t 60) (.c (.bool true)) (.t 67))] [1,3,48,49,50,68]) <|
 .cond (.t 68) (.seq (.reg false [.r (some 2) (.mv (.c (.int .i64 172)))] [2]) <|
 .ret) (.skip))) <|
 .reg false [.r (some 69) (.bi .add (.t 50) (.c (.int .i64 1))),
.r (some 50) (.mv (.t 69))] [1,3,48,49,50]
def ir32L3:IR:=.seq (.reg false [.r (some 75) (.bi .lss (.t 74) (.t 73))] [1,3,72,73,74,75]) <|
 .seq (.cond (.t 75) (.skip) ((.exit 4))) <|
 .seq (.block 5 (.seq (.reg false [.r (some 76) (.ia 3 (.t 72) (.t 74)),
.r (some 77) (.ln 3 (.t 76)),
.e (some 9) (.al 70 (.agg #[(.string ⟨#[]⟩),(.int .i64 0),(.slice none 0 0)])),
.e none (.st 3 (.t 9) (.t 77))] [1,3,9,72,73,74]) <|
 .seq (.seq (.reg false [.r (some 78) (.fa 0 (.t 9)),
.r (some 79) (.l1 (.t 78)),
.e (some 80) (.call 58 [(.t 79)]),
.r (some 81) (.no (.t 80)),
.r (some 82) (.mv (.t 81)),
.gr 82 false (some 83) (.mv (.t 3)),
.gr 82 false (some 84) (.fa 0 (.t 9)),
.gr 82 false (some 85) (.l1 (.t 84)),
.ge 82 false (some 86) (.raw ⟨(some 86),(.lookup 119 (.tmp 83) (.tmp 85) false),3, "check.go:81",#[⟨5,.data⟩,⟨7,.data⟩,⟨4,.guard⟩],some (4,false)⟩),
.gr 82 false (some 87) (.bi .gtr (.t 86) (.c (.int .i64 0))),
.r (some 88) (.pk (.t 82) (.c (.bool true)) (.t 87)),
.r (some 89) (.mv (.t 88)),
.gr 89 false (some 90) (.fa 1 (.t 9)),
.gr 89 false (some 91) (.l1 (.t 90)),
.gr 89 false (some 92) (.bi .lss (.t 91) (.c (.int .i64 0))),
.r (some 93) (.pk (.t 89) (.c (.bool true)) (.t 92)),
.r (some 94) (.mv (.t 93)),
.gr 94 false (some 95) (.fa 1 (.t 9)),
.gr 94 false (some 96) (.l1 (.t 95)),
.gr 94 false (some 97) (.bi .gtr (.t 96) (.c (.int .i64 24))),
.r (some 98) (.pk (.t 94) (.c (.bool true)) (.t 97))] [1,3,9,72,73,74,98]) <|
 .cond (.t 98) (.seq (.reg false [.r (some 2) (.mv (.c (.int .i64 172)))] [2]) <|
 .ret) (.skip)) <|
 .reg false [.r (some 99) (.mv (.t 3)),
.r (some 100) (.fa 0 (.t 9)),
.r (some 101) (.l1 (.t 100)),
.e none (.raw ⟨none,(.mapUpdate 119 (.tmp 99) (.tmp 101) (.const (.int .i64 1))),0, "check.go:84",#[⟨0,.data⟩,⟨2,.data⟩,⟨0,.phase⟩,⟨1,.phase⟩,⟨2,.phase⟩],none⟩)] [1,3,72,73,74])) <|
 .reg false [.r (some 102) (.bi .add (.t 74) (.c (.int .i64 1))),
.r (some 74) (.mv (.t 102))] [1,3,72,73,74]
def ir32L4:IR:=.seq (.reg false [.r (some 107) (.bi .lss (.t 106) (.t 105))] [1,104,105,106,107]) <|
 .seq (.cond (.t 107) (.skip) ((.exit 6))) <|
 .seq (.block 7 (.seq (.reg false [.r (some 108) (.ia 3 (.t 104) (.t 106)),
.r (some 109) (.ln 3 (.t 108)),
.e (some 11) (.al 70 (.agg #[(.string ⟨#[]⟩),(.int .i64 0),(.slice none 0 0)])),
.e none (.st 3 (.t 11) (.t 109))] [1,11,104,105,106]) <|
 .seq (.reg false [.r (some 110) (.ln 2 (.t 1)),
.r (some 111) (.ln 3 (.t 11)),
.e (some 112) (.call 60 [(.t 110),(.t 111)]),
.r (some 12) (.mv (.t 112))] [1,12,104,105,106]) <|
 .seq (.reg false [.r (some 114) (.bi .neq (.t 12) (.c (.int .i64 0)))] [1,12,104,105,106,114]) <|
 .cond (.t 114) (.seq (.reg false [.r (some 2) (.mv (.t 12))] [2]) <|
 .ret) (.skip))) <|
 .reg false [.r (some 116) (.bi .add (.t 106) (.c (.int .i64 1))),
.r (some 106) (.mv (.t 116))] [1,104,105,106]
def ir32:IR:=.seq (.reg false [.e (some 1) (.bx 25 (.t 0))] [1]) <|
 .seq (.seq (.reg false [.r (some 13) (.ln 2 (.t 1)),
.e (some 14) (.call 57 [(.t 13)])] [1,14]) <|
 .cond (.t 14) (.seq (.reg false [.r (some 2) (.mv (.c (.int .i64 4)))] [2]) <|
 .ret) (.skip)) <|
 .seq (.reg false [.e (some 15) (.raw ⟨(some 15),(.makeMap 119 none),119, "check.go:67",#[],none⟩),
.r (some 3) (.mv (.t 15))] [1,3]) <|
 .seq (.seq (.reg false [.r (some 16) (.fa 0 (.t 1)),
.r (some 17) (.l1 (.t 16)),
.r (some 18) (.len (.t 17)),
.r (some 19) (.mv (.c (.int .i64 0)))] [1,3,17,18,19]) <|
 .block 0 (.loop ir32L1)) <|
 .seq (.seq (.reg false [.e (some 48) (.call 59 []),
.r (some 49) (.len (.t 48)),
.r (some 50) (.mv (.c (.int .i64 0)))] [1,3,48,49,50]) <|
 .block 2 (.loop ir32L2)) <|
 .seq (.reg false [.r (some 70) (.mv (.t 3)),
.e none (.raw ⟨none,(.call { callee:=(.builtin .clear),args:=#[(.tmp 70)],argTypes:=#[119]}),0, "check.go:79",#[⟨0,.data⟩],none⟩)] [1,3]) <|
 .seq (.seq (.reg false [.r (some 71) (.fa 1 (.t 1)),
.r (some 72) (.l1 (.t 71)),
.r (some 73) (.len (.t 72)),
.r (some 74) (.mv (.c (.int .i64 0)))] [1,3,72,73,74]) <|
 .block 4 (.loop ir32L3)) <|
 .seq (.seq (.reg false [.r (some 103) (.fa 1 (.t 1)),
.r (some 104) (.l1 (.t 103)),
.r (some 105) (.len (.t 104)),
.r (some 106) (.mv (.c (.int .i64 0)))] [1,104,105,106]) <|
 .block 6 (.loop ir32L4)) <|
 .seq (.reg false [.r (some 2) (.mv (.c (.int .i64 0)))] [2]) <|
 .ret
theorem fit32:Fits Tryz.prog 32 1 (hOf Tryz.f32 ir32) ir32 [.t 2] 117:=⟨Tryz.f32,_,rfl,rfl,rfl,by decide,by kernel_rfl,by kernel_rfl⟩
def ir33L1:IR:=.seq (.reg false [.r (some 9) (.bi .lss (.t 8) (.t 7))] [0,1,7,8,9]) <|
 .seq (.cond (.t 9) (.skip) ((.exit 0))) <|
 .seq (.block 1 (.seq (.reg false [.r (some 5) (.mv (.t 8))] [0,1,5,7,8]) <|
 .seq (.reg false [.r (some 11) (.mv (.t 1)),
.r (some 12) (.mv (.t 0)),
.r (some 13) (.mv (.t 5)),
.r (some 14) (.ia 3 (.t 12) (.t 13)),
.r (some 15) (.ln 3 (.t 14)),
.e (some 16) (.raw ⟨(some 16),(.call { callee:=(.value (.tmp 11)),args:=#[(.tmp 15)],argTypes:=#[70]}),4, "slices.go:109",#[⟨0,.data⟩,⟨4,.data⟩],none⟩)] [0,1,5,7,8,16]) <|
 .cond (.t 16) (.seq (.reg false [.r (some 4) (.mv (.t 5))] [4]) <|
 .ret) (.skip))) <|
 .reg false [.r (some 18) (.bi .add (.t 8) (.c (.int .i64 1))),
.r (some 8) (.mv (.t 18))] [0,1,7,8]
def ir33:IR:=.seq (.reg false [] [0,1]) <|
 .seq (.seq (.reg false [.r (some 7) (.len (.t 0)),
.r (some 8) (.mv (.c (.int .i64 0)))] [0,1,7,8]) <|
 .block 0 (.loop ir33L1)) <|
 .seq (.reg false [.r (some 4) (.mv (.c (.int .i64 (-1))))] [4]) <|
 .ret
theorem fit33:Fits Tryz.prog 33 2 (hOf Tryz.f33 ir33) ir33 [.t 4] 19:=⟨Tryz.f33,_,rfl,rfl,rfl,by decide,by kernel_rfl,by kernel_rfl⟩
def ir34:IR:=.seq (.reg false [.e (some 2) (.bx 70 (.t 0))] [1,2]) <|
 .seq (.reg false [.r (some 4) (.fa 0 (.t 2)),
.r (some 5) (.l1 (.t 4)),
.r (some 6) (.l1 (.t 1)),
.r (some 7) (.bi .eql (.t 5) (.t 6)),
.r (some 3) (.mv (.t 7))] [3]) <|
 .ret
theorem fit34:Fits Tryz.prog 34 2 (hOf Tryz.f34 ir34) ir34 [.t 3] 8:=⟨Tryz.f34,_,rfl,rfl,rfl,by decide,by kernel_rfl,by kernel_rfl⟩
def ir35:IR:=.seq (.reg false [.e (some 1) (.bx 28 (.t 0))] [1]) <|
 .seq (.seq (.reg false [.r (some 10) (.fa 1 (.t 1)),
.r (some 11) (.l1 (.t 10))] [1,11]) <|
 .cond (.t 11) (.seq (.reg false [.r (some 12) (.fa 0 (.t 1)),
.r (some 13) (.l1 (.t 12)),
.r (some 14) (.bi .quo (.t 13) (.c (.int .i64 8))),
.r (some 15) (.mm true (.c (.int .i64 1)) (.t 14)),
.r (some 5) (.mv (.t 15))] [1,5]) <|
 .seq (.reg false [.r (some 17) (.fa 0 (.t 1)),
.r (some 18) (.l1 (.t 17)),
.e (some 20) (.call 61 [(.t 18),(.t 5)]),
.r (some 21) (.ex 0 (.t 20)),
.r (some 22) (.ex 1 (.t 20)),
.r (some 6) (.mv (.t 21)),
.r (some 7) (.mv (.t 22))] [5,6,7]) <|
 .seq (.reg false [.r (some 24) (.mi 122 (.t 6)),
.r (some 2) (.mv (.t 24)),
.r (some 3) (.mv (.t 5)),
.r (some 4) (.mv (.t 7))] [2,3,4]) <|
 .ret) (.skip)) <|
 .seq (.reg false [.r (some 28) (.fa 0 (.t 1)),
.r (some 29) (.l1 (.t 28)),
.e (some 30) (.call 62 [(.t 29)]),
.r (some 31) (.ex 0 (.t 30)),
.r (some 32) (.ex 1 (.t 30)),
.r (some 8) (.mv (.t 31)),
.r (some 9) (.mv (.t 32))] [1,8,9]) <|
 .seq (.reg true [.r (some 33) (.mv (.t 8)),
.r (some 34) (.mi 125 (.t 33)),
.r (some 35) (.fa 0 (.t 1)),
.r (some 36) (.l1 (.t 35)),
.r (some 37) (.mv (.t 9)),
.r (some 2) (.mv (.t 34)),
.r (some 3) (.mv (.t 36)),
.r (some 4) (.mv (.t 37))] [2,3,4]) <|
 .ret
theorem fit35:Fits Tryz.prog 35 1 (hOf Tryz.f35 ir35) ir35 [.t 2,.t 3,.t 4] 38:=⟨Tryz.f35,_,rfl,rfl,rfl,by decide,by kernel_rfl,by kernel_rfl⟩
def ir36L1:IR:=.seq (.reg false [.r (some 14) (.bi .lss (.t 13) (.t 12))] [2,3,11,12,13,14]) <|
 .seq (.cond (.t 14) (.skip) ((.exit 0))) <|
 .seq (.block 1 (.seq (.reg false [.r (some 15) (.ia 3 (.t 11) (.t 13)),
.r (some 16) (.ln 3 (.t 15)),
.e (some 5) (.al 70 (.agg #[(.string ⟨#[]⟩),(.int .i64 0),(.slice none 0 0)])),
.e none (.st 3 (.t 5) (.t 16))] [2,3,5,11,12,13]) <|
 .dr (.r 0 none (some 17) (.fa 1 (.t 3)) <|
   .r 1 none (some 18) (.l1 (.t 17)) <|
   .r 2 none (some 19) (.fa 0 (.t 5)) <|
   .r 3 none (some 20) (.l1 (.t 19)) <|
   .r 4 none (some 21) (.fa 1 (.t 5)) <|
   .r 5 none (some 22) (.l1 (.t 21)) <|
   .r 6 none (some 23) (.fa 2 (.t 5)) <|
   .r 7 none (some 24) (.l1 (.t 23)) <|
   .e 8 none (some 25) (.call 64 [(.t 24)]) [1,3,5] <|
   .r 9 none (some 26) (.bd #[(.string ⟨#[]⟩),(.int .i64 0),(.slice none 0 0)] [(0,1,(.t 20)),(1,1,(.t 22)),(2,1,(.t 25))]) <|
   .e 10 none (some 27) (.bs 70 1 #[(.string ⟨#[]⟩),(.int .i64 0),(.slice none 0 0)] [(0,3,(.t 26))]) [1] <|
   .e 11 none (some 28) (.ap 70 3 48 #[(.string ⟨#[]⟩),(.int .i64 0),(.slice none 0 0)] (.t 18) (.t 27)) [] <|
   .r 12 none (some 29) (.fa 1 (.t 3)) <|
   .e 13 none none (.st 1 (.t 29) (.t 28)) [] <|
   .nil) [2,3,11,12,13])) <|
 .reg false [.r (some 30) (.bi .add (.t 13) (.c (.int .i64 1))),
.r (some 13) (.mv (.t 30))] [2,3,11,12,13]
def ir36:IR:=.seq (.reg false [.e (some 1) (.bx 25 (.t 0)),
.e (some 2) (.al 25 (.agg #[(.slice none 0 0),(.slice none 0 0)]))] [1,2]) <|
 .seq (.reg false [.r (some 6) (.fa 0 (.t 1)),
.r (some 7) (.l1 (.t 6)),
.e (some 8) (.call 63 [(.t 7)]),
.r (some 9) (.bd #[(.slice none 0 0),(.slice none 0 0)] [(0,1,(.t 8))]),
.e (some 3) (.al 25 (.agg #[(.slice none 0 0),(.slice none 0 0)])),
.e none (.st 2 (.t 3) (.t 9))] [1,2,3]) <|
 .seq (.seq (.reg false [.r (some 10) (.fa 1 (.t 1)),
.r (some 11) (.l1 (.t 10)),
.r (some 12) (.len (.t 11)),
.r (some 13) (.mv (.c (.int .i64 0)))] [2,3,11,12,13]) <|
 .block 0 (.loop ir36L1)) <|
 .seq (.reg false [.r (some 31) (.ln 2 (.t 3)),
.e none (.st 2 (.t 2) (.t 31))] [2]) <|
 .ret
theorem fit36:Fits Tryz.prog 36 1 (hOf Tryz.f36 ir36) ir36 [.n 2 2] 32:=⟨Tryz.f36,_,rfl,rfl,rfl,by decide,by kernel_rfl,by kernel_rfl⟩
def ir38:IR:=.seq (.reg false [] []) <|
 .seq (.reg false [.r (some 1) (.bd #[.nilFunc,.nilFunc] [(0,1,(.c (.func (.func 65) #[] #[]))),(1,1,(.c (.func (.func 66) #[] #[])))]),
.r (some 2) (.bd #[.nilFunc,.nilFunc] [(0,1,(.c (.func (.func 65) #[] #[]))),(1,1,(.c (.func (.func 69) #[] #[])))]),
.r (some 3) (.bd #[.nilFunc,.nilFunc] [(0,1,(.c (.func (.func 70) #[] #[]))),(1,1,(.c (.func (.func 71) #[] #[])))]),
.r (some 4) (.bd #[.nilFunc,.nilFunc] [(0,1,(.c (.func (.func 65) #[] #[]))),(1,1,(.c (.func (.func 73) #[] #[])))]),
.r (some 5) (.bd #[.nilFunc,.nilFunc] [(0,1,(.c (.func (.func 65) #[] #[]))),(1,1,(.c (.func (.func 75) #[] #[])))]),
.r (some 6) (.bd #[.nilFunc,.nilFunc] [(0,1,(.c (.func (.func 70) #[] #[]))),(1,1,(.c (.func (.func 76) #[] #[])))]),
.r (some 7) (.bd #[.nilFunc,.nilFunc] [(0,1,(.c (.func (.func 65) #[] #[]))),(1,1,(.c (.func (.func 77) #[] #[])))]),
.r (some 8) (.bd #[.nilFunc,.nilFunc] [(0,1,(.c (.func (.func 78) #[] #[]))),(1,1,(.c (.func (.func 79) #[] #[])))]),
.r (some 9) (.bd #[.nilFunc,.nilFunc] [(0,1,(.c (.func (.func 70) #[] #[]))),(1,1,(.c (.func (.func 80) #[] #[])))]),
.r (some 10) (.bd #[.nilFunc,.nilFunc] [(0,1,(.c (.func (.func 65) #[] #[]))),(1,1,(.c (.func (.func 81) #[] #[])))]),
.r (some 11) (.bd #[.nilFunc,.nilFunc] [(0,1,(.c (.func (.func 65) #[] #[]))),(1,1,(.c (.func (.func 82) #[] #[])))]),
.r (some 12) (.bd #[.nilFunc,.nilFunc] [(0,1,(.c (.func (.func 70) #[] #[]))),(1,1,(.c (.func (.func 83) #[] #[])))]),
.r (some 13) (.bd #[.nilFunc,.nilFunc] [(0,1,(.c (.func (.func 65) #[] #[]))),(1,1,(.c (.func (.func 84) #[] #[])))]),
.r (some 14) (.bd #[.nilFunc,.nilFunc] [(0,1,(.c (.func (.func 65) #[] #[]))),(1,1,(.c (.func (.func 85) #[] #[])))]),
.r (some 15) (.bd #[.nilFunc,.nilFunc] [(0,1,(.c (.func (.func 65) #[] #[]))),(1,1,(.c (.func (.func 86) #[] #[])))]),
.r (some 16) (.bd #[.nilFunc,.nilFunc] [(0,1,(.c (.func (.func 65) #[] #[]))),(1,1,(.c (.func (.func 87) #[] #[])))]),
.r (some 17) (.bd #[.nilFunc,.nilFunc] [(0,1,(.c (.func (.func 65) #[] #[]))),(1,1,(.c (.func (.func 89) #[] #[])))]),
.e (some 18) (.bs 134 18 #[.nilFunc,.nilFunc,.nilFunc,.nilFunc,.nilFunc,.nilFunc,.nilFunc,.nilFunc,.nilFunc,.nilFunc,.nilFunc,.nilFunc,.nilFunc,.nilFunc,.nilFunc,.nilFunc,.nilFunc,.nilFunc,.nilFunc,.nilFunc,.nilFunc,.nilFunc,.nilFunc,.nilFunc,.nilFunc,.nilFunc,.nilFunc,.nilFunc,.nilFunc,.nilFunc,.nilFunc,.nilFunc,.nilFunc,.nilFunc,.nilFunc,.nilFunc] [(2,2,(.t 1)),(4,2,(.t 2)),(6,2,(.t 3)),(8,2,(.t 4)),(10,2,(.t 5)),(12,2,(.t 6)),(14,2,(.t 7)),(16,2,(.t 8)),(18,2,(.t 9)),(20,2,(.t 10)),(22,2,(.t 11)),(24,2,(.t 12)),(26,2,(.t 13)),(28,2,(.t 14)),(30,2,(.t 15)),(32,2,(.t 16)),(34,2,(.t 17))]),
.r (some 0) (.mv (.t 18))] [0]) <|
 .ret
theorem fit38:Fits Tryz.prog 38 0 (hOf Tryz.f38 ir38) ir38 [.t 0] 19:=⟨Tryz.f38,_,rfl,rfl,rfl,by decide,by kernel_rfl,by kernel_rfl⟩
def ir42:IR:=.seq (.reg false [.e (some 1) (.bx 75 (.t 0))] [1]) <|
 .seq (.reg false [.r (some 3) (.mf (.func 94) [] [(.t 1)]),
.r (some 2) (.mv (.t 3))] [2]) <|
 .ret
theorem fit42:Fits Tryz.prog 42 1 (hOf Tryz.f42 ir42) ir42 [.t 2] 4:=⟨Tryz.f42,_,rfl,rfl,rfl,by decide,by kernel_rfl,by kernel_rfl⟩
def ir43L1:IR:=.seq (.seq (.reg false [.r (some 17) (.len (.t 4)),
.r (some 18) (.bi .gtr (.t 17) (.c (.int .i64 0)))] [0,3,4,5,18]) <|
 .cond (.t 18) (.skip) ((.exit 0))) <|
 .block 1 (.seq (.reg false [.r (some 23) (.len (.t 4)),
.r (some 24) (.bi .sub (.t 23) (.c (.int .i64 1))),
.r (some 25) (.ia 1 (.t 4) (.t 24)),
.r (some 26) (.l1 (.t 25)),
.e (some 27) (.call 95 [(.t 0),(.t 26)]),
.r (some 28) (.ex 0 (.t 27)),
.r (some 29) (.ex 1 (.t 27)),
.e (some 7) (.al 87 (.agg #[(.int .i64 0),(.int .i64 0),(.slice none 0 0)])),
.r (some 6) (.mv (.t 28)),
.e none (.st 3 (.t 7) (.t 29))] [0,3,4,5,6,7]) <|
 .seq (.reg false [.r (some 32) (.len (.t 4)),
.r (some 33) (.bi .sub (.t 32) (.c (.int .i64 1))),
.r (some 34) (.sl 1 (.t 4) none (some (.t 33)) none),
.r (some 4) (.mv (.t 34))] [0,3,4,5,6,7]) <|
 .seq (.seq (.reg false [.r (some 37) (.ia 1 (.t 3) (.t 6)),
.r (some 38) (.l1 (.t 37))] [0,3,4,5,6,7,38]) <|
 .cond (.t 38) ((.exit 1)) (.skip)) <|
 .seq (.reg false [.r (some 41) (.ia 1 (.t 3) (.t 6)),
.e none (.st 1 (.t 41) (.c (.bool true)))] [0,3,4,5,7]) <|
 .seq (.reg false [.r (some 43) (.bi .add (.t 5) (.c (.int .i64 1))),
.r (some 5) (.mv (.t 43))] [0,3,4,5,7]) <|
 .reg false [.r (some 45) (.fa 2 (.t 7)),
.r (some 46) (.l1 (.t 45)),
.e (some 47) (.ap 3 1 8 #[(.int .i64 0)] (.t 4) (.t 46)),
.r (some 4) (.mv (.t 47))] [0,3,4,5])
def ir43:IR:=.seq (.reg false [] [0]) <|
 .seq (.reg false [.r (some 8) (.mv (.t 0)),
.r (some 9) (.nn (.t 8)),
.r (some 10) (.fa 6 (.t 9)),
.r (some 11) (.l1 (.t 10)),
.e (some 12) (.raw ⟨(some 12),(.call { callee:=(.invoke (.tmp 11) "Used"),args:=#[],argTypes:=#[]}),3, "run.go:211",#[⟨3,.data⟩],none⟩),
.e (some 13) (.ms 4 1 1 #[(.bool false)] (.t 12) (.t 12)),
.r (some 3) (.mv (.t 13))] [0,3]) <|
 .seq (.reg false [.e (some 15) (.call 47 [(.t 0)]),
.r (some 4) (.mv (.t 15))] [0,3,4]) <|
 .seq (.reg false [.r (some 5) (.mv (.c (.int .i64 0)))] [0,3,4,5]) <|
 .seq (.block 0 (.loop ir43L1)) <|
 .seq (.reg false [.r (some 2) (.mv (.t 5))] [2]) <|
 .ret
theorem fit43:Fits Tryz.prog 43 1 (hOf Tryz.f43 ir43) ir43 [.t 2] 49:=⟨Tryz.f43,_,rfl,rfl,rfl,by decide,by kernel_rfl,by kernel_rfl⟩
def ir44B1:IR:=.block 2 (.dr (.r 0 none (some 95) (.l1 (.t 1)) <|
   .r 1 none (some 96) (.l1 (.t 1)) <|
   .r 2 none (some 97) (.nn (.t 96)) <|
   .r 3 none (some 98) (.fa 11 (.t 97)) <|
   .r 4 none (some 99) (.l1 (.t 98)) <|
   .r 5 none (some 100) (.mv (.t 6)) <|
   .e 6 none (some 101) (.bs 3 1 #[(.int .i64 0)] [(0,1,(.t 100))]) [0,1,4] <|
   .e 7 none (some 102) (.ap 3 1 8 #[(.int .i64 0)] (.t 99) (.t 101)) [0] <|
   .r 8 none (some 103) (.nn (.t 95)) <|
   .r 9 none (some 104) (.fa 11 (.t 103)) <|
   .e 10 none none (.st 1 (.t 104) (.t 102)) [] <|
   .nil) [])
def ir44:K:=.seq (.ir (.reg false [.e (some 1) (.bx 30 (.t 0))] [1])) <|
 .seq (.ir (.reg false [.r (some 7) (.l1 (.t 1)),
.r (some 8) (.nn (.t 7)),
.r (some 9) (.fa 11 (.t 8)),
.r (some 10) (.l1 (.t 9)),
.r (some 11) (.len (.t 10)),
.r (some 12) (.bi .sub (.t 11) (.c (.int .i64 1))),
.r (some 2) (.mv (.t 12))] [1,2])) <|
 .seq (.ir (.dr (.r 0 none (some 14) (.l1 (.t 1)) <|
   .r 1 none (some 15) (.l1 (.t 1)) <|
   .r 2 none (some 16) (.nn (.t 15)) <|
   .r 3 none (some 17) (.fa 11 (.t 16)) <|
   .r 4 none (some 18) (.l1 (.t 17)) <|
   .r 5 none (some 19) (.mv (.t 2)) <|
   .r 6 none (some 20) (.ia 1 (.t 18) (.t 19)) <|
   .r 7 none (some 21) (.l1 (.t 20)) <|
   .e2 8 (some 22) (.call 95 [(.t 14),(.t 21)]) [] (.r 9 none (some 13) (.mv (.t 22)) <|
   .r 10 none (some 23) (.ex 0 (.t 13)) <|
   .r 11 none (some 24) (.ex 1 (.t 13)) <|
   .e 12 none (some 4) (.al 87 (.agg #[(.int .i64 0),(.int .i64 0),(.slice none 0 0)])) [0,1,4,7] <|
   .r 13 none (some 3) (.mv (.t 23)) <|
   .e 14 none none (.st 3 (.t 4) (.t 24)) [] <|
   .nil) 12 (some 4) (.al 87 (.agg #[(.int .i64 0),(.int .i64 0),(.slice none 0 0)])) [0,1,4,7]
   (.e 8 none (some 22) (.call 95 [(.t 14),(.t 21)]) [] <|
   .r 9 none (some 13) (.mv (.t 22)) <|
   .r 10 none (some 23) (.ex 0 (.t 13)) <|
   .r 11 none (some 24) (.ex 1 (.t 13)) <|
   .r 13 none (some 3) (.mv (.t 23)) <|
   .e 14 none none (.st 3 (.t 4) (.t 24)) [] <|
   .nil)) [1,2,4])) <|
 .seq (.ir (.seq (.reg false [.r (some 25) (.fa 0 (.t 4)),
.r (some 26) (.l1 (.t 25))] [1,2,4,26]) <|
 .block 0 (.seq (.reg false [.r (some 46) (.bi .eql (.t 26) (.c (.int .i64 1))),
.r (some 45) (.mv (.t 46))] [1,2,4,26,45]) <|
 .cond (.t 45) (.dr (.r 0 none (some 47) (.l1 (.t 1)) <|
   .r 1 none (some 48) (.l1 (.t 1)) <|
   .r 2 none (some 49) (.nn (.t 48)) <|
   .r 3 none (some 50) (.fa 13 (.t 49)) <|
   .r 4 none (some 51) (.l1 (.t 50)) <|
   .r 5 none (some 52) (.fa 1 (.t 4)) <|
   .r 6 none (some 53) (.l1 (.t 52)) <|
   .r 7 none (some 54) (.bd #[(.string ⟨#[]⟩),(.int .i64 0)] [(1,1,(.t 53))]) <|
   .e 8 none (some 55) (.bs 72 1 #[(.string ⟨#[]⟩),(.int .i64 0)] [(0,2,(.t 54))]) [0,1,4] <|
   .e 9 none (some 56) (.ap 72 2 24 #[(.string ⟨#[]⟩),(.int .i64 0)] (.t 51) (.t 55)) [0] <|
   .r 10 none (some 57) (.nn (.t 47)) <|
   .r 11 none (some 58) (.fa 13 (.t 57)) <|
   .e 12 none none (.st 1 (.t 58) (.t 56)) [] <|
   .nil) [1,2,4]) (.seq (.reg false [.r (some 60) (.bi .eql (.t 26) (.c (.int .i64 2))),
.r (some 59) (.mv (.t 60))] [1,2,4,59]) <|
 .cond (.t 59) (.dr (.r 0 none (some 61) (.l1 (.t 1)) <|
   .r 1 none (some 62) (.l1 (.t 1)) <|
   .r 2 none (some 63) (.nn (.t 62)) <|
   .r 3 none (some 64) (.fa 13 (.t 63)) <|
   .r 4 none (some 65) (.l1 (.t 64)) <|
   .r 5 none (some 66) (.l1 (.t 1)) <|
   .r 6 none (some 67) (.nn (.t 66)) <|
   .r 7 none (some 68) (.fa 0 (.t 67)) <|
   .r 8 none (some 69) (.fa 0 (.t 68)) <|
   .r 9 none (some 70) (.l1 (.t 69)) <|
   .r 10 none (some 71) (.fa 1 (.t 4)) <|
   .r 11 none (some 72) (.l1 (.t 71)) <|
   .r 12 none (some 73) (.ia 2 (.t 70) (.t 72)) <|
   .r 13 none (some 74) (.fa 0 (.t 73)) <|
   .r 14 none (some 75) (.l1 (.t 74)) <|
   .r 15 none (some 76) (.bd #[(.string ⟨#[]⟩),(.int .i64 0)] [(0,1,(.t 75))]) <|
   .e 16 none (some 77) (.bs 72 1 #[(.string ⟨#[]⟩),(.int .i64 0)] [(0,2,(.t 76))]) [0,1,4] <|
   .e 17 none (some 78) (.ap 72 2 24 #[(.string ⟨#[]⟩),(.int .i64 0)] (.t 65) (.t 77)) [0] <|
   .r 18 none (some 79) (.nn (.t 61)) <|
   .r 19 none (some 80) (.fa 13 (.t 79)) <|
   .e 20 none none (.st 1 (.t 80) (.t 78)) [] <|
   .nil) [1,2,4]) (.seq (.dr (.r 0 none (some 27) (.l1 (.t 1)) <|
   .r 1 none (some 28) (.l1 (.t 1)) <|
   .r 2 none (some 29) (.nn (.t 28)) <|
   .r 3 none (some 30) (.fa 10 (.t 29)) <|
   .r 4 none (some 31) (.l1 (.t 30)) <|
   .r 5 none (some 32) (.l1 (.t 1)) <|
   .r 6 none (some 33) (.nn (.t 32)) <|
   .r 7 none (some 34) (.fa 11 (.t 33)) <|
   .r 8 none (some 35) (.l1 (.t 34)) <|
   .r 9 none (some 36) (.mv (.t 2)) <|
   .r 10 none (some 37) (.ia 1 (.t 35) (.t 36)) <|
   .r 11 none (some 38) (.l1 (.t 37)) <|
   .r 12 none (some 39) (.bd #[(.bool false),(.int .i64 0),(.int .i64 0),(.slice none 0 0),(.slice none 0 0),(.int .i64 0)] [(5,1,(.t 38))]) <|
   .e 13 none (some 40) (.bx 106 (.t 39)) [0,1,4] <|
   .e 14 none (some 41) (.bs 104 1 #[(.pointer none)] [(0,1,(.t 40))]) [0,1,4] <|
   .e 15 none (some 42) (.ap 104 1 8 #[(.pointer none)] (.t 31) (.t 41)) [0] <|
   .r 16 none (some 43) (.nn (.t 27)) <|
   .r 17 none (some 44) (.fa 10 (.t 43)) <|
   .e 18 none none (.st 1 (.t 44) (.t 42)) [] <|
   .nil) []) <|
 .ret))))) <|
 .seq (.ir (.reg true [.r (some 81) (.l1 (.t 1)),
.r (some 82) (.l1 (.t 1)),
.r (some 83) (.nn (.t 82)),
.r (some 84) (.fa 11 (.t 83)),
.r (some 85) (.l1 (.t 84)),
.r (some 86) (.mv (.t 2)),
.r (some 87) (.sl 1 (.t 85) none (some (.t 86)) none),
.r (some 88) (.nn (.t 81)),
.r (some 89) (.fa 11 (.t 88)),
.e none (.st 1 (.t 89) (.t 87))] [1,4])) <|
 .seq (.seq (.ir (.reg false [.r (some 90) (.fa 2 (.t 4)),
.r (some 91) (.l1 (.t 90)),
.e (some 92) (.call 96 [(.t 91)])] [1,92])) <|
 .blk 1 (.rng 92 93 94 6 ir44B1)) <|
 .ir (.seq (.reg false [.r (some 105) (.l1 (.t 1)),
.r (some 106) (.nn (.t 105)),
.r (some 107) (.fa 11 (.t 106)),
.r (some 108) (.l1 (.t 107)),
.r (some 109) (.len (.t 108)),
.r (some 110) (.bi .eql (.t 109) (.c (.int .i64 0)))] [1,110]) <|
 .cond (.t 110) (.reg false [.r (some 111) (.l1 (.t 1)),
.r (some 112) (.nn (.t 111)),
.r (some 113) (.fa 15 (.t 112)),
.e none (.st 1 (.t 113) (.c (.int .i64 2)))] []) (.skip))
theorem fit44:FitsK Tryz.prog 44 1 [(0,[1],[]),(1,[1,2],[]),(2,[1,2,4],[0,0,2,6,14,0,62,126,255,511,1023,1023,0,6143,16383]),(3,[1,2,4,26],[]),(4,[],[0,0,2,6,14,0,32,96,224,0,992,2016,4064,8160,16352,32766,65535,131071,262143]),(5,[1,2,4,26,45],[]),(6,[1,2,4],[0,0,2,6,14,0,32,96,224,510,1023,2047,4095]),(7,[1,2,4,59],[]),(8,[1,2,4],[0,0,2,6,14,0,32,96,224,480,0,1024,4064,8160,16352,32736,65504,131070,262143,524287,1048575]),(9,[1,4],[0,0,2,6,14,0,62,127,255,511]),(10,[1,92],[]),(12,[],[0,0,2,6,14,0,32,126,255,511,1023]),(13,[1,110],[]),(14,[],[])] ir44 [] 114:=
 ⟨Tryz.f44,_,rfl,rfl,rfl,by decide,by kernel_rfl,by kernel_rfl⟩
def ir45:IR:=.seq (.dr (.r 0 none (some 7) (.mv (.t 0)) <|
   .r 1 none (some 8) (.nn (.t 7)) <|
   .r 2 none (some 9) (.fa 0 (.t 8)) <|
   .r 3 none (some 10) (.fa 1 (.t 9)) <|
   .r 4 none (some 11) (.l1 (.t 10)) <|
   .r 5 none (some 12) (.mv (.t 1)) <|
   .r 6 none (some 13) (.nn (.t 12)) <|
   .r 7 none (some 14) (.fa 1 (.t 13)) <|
   .r 8 none (some 15) (.l1 (.t 14)) <|
   .r 9 none (some 16) (.ia 3 (.t 11) (.t 15)) <|
   .r 10 none (some 17) (.fa 2 (.t 16)) <|
   .r 11 none (some 18) (.l1 (.t 17)) <|
   .r 12 none (some 19) (.mv (.t 1)) <|
   .r 13 none (some 20) (.nn (.t 19)) <|
   .r 14 none (some 21) (.fa 2 (.t 20)) <|
   .r 15 none (some 22) (.l1 (.t 21)) <|
   .r 16 none (some 23) (.ia 3 (.t 18) (.t 22)) <|
   .r 17 none (some 24) (.ln 3 (.t 23)) <|
   .e 18 none (some 4) (.al 66 (.agg #[(.int .i64 0),(.int .i64 0),(.int .i64 0)])) [4,8,11,15,17] <|
   .e 19 none none (.st 3 (.t 4) (.t 24)) [] <|
   .nil) [0,1,4]) <|
 .seq (.dr (.r 0 none (some 25) (.mv (.t 0)) <|
   .r 1 none (some 26) (.nn (.t 25)) <|
   .r 2 none (some 27) (.fa 18 (.t 26)) <|
   .r 3 none (some 28) (.l1 (.t 27)) <|
   .r 4 none (some 29) (.fa 0 (.t 4)) <|
   .r 5 none (some 30) (.l1 (.t 29)) <|
   .r 6 none (some 31) (.ia 2 (.t 28) (.t 30)) <|
   .r 7 none (some 32) (.ln 2 (.t 31)) <|
   .e 8 none (some 5) (.al 134 (.agg #[.nilFunc,.nilFunc])) [3,5,7] <|
   .e 9 none none (.st 2 (.t 5) (.t 32)) [] <|
   .nil) [0,1,4,5]) <|
 .seq (.seq (.reg false [.r (some 33) (.fa 0 (.t 5)),
.r (some 34) (.l1 (.t 33)),
.r (some 35) (.ln 3 (.t 4)),
.e (some 36) (.raw ⟨(some 36),(.call { callee:=(.value (.tmp 34)),args:=#[(.tmp 35)],argTypes:=#[66]}),3, "run.go:58",#[⟨1,.data⟩,⟨2,.data⟩],none⟩),
.r (some 6) (.mv (.t 36))] [0,1,4,5,6]) <|
 .seq (.reg false [.r (some 38) (.bi .gtr (.t 6) (.c (.int .i64 0))),
.gr 38 true (some 40) (.mv (.t 0)),
.gr 38 true (some 41) (.mv (.t 6)),
.ge 38 true (some 42) (.call 97 [(.t 40),(.t 41)]),
.gr 38 true (some 43) (.no (.t 42)),
.r (some 44) (.pk (.t 38) (.t 43) (.c (.bool false)))] [0,1,4,5,44]) <|
 .cond (.t 44) (.ret) (.skip)) <|
 .seq (.reg false [.r (some 46) (.nn (.t 1)),
.r (some 47) (.fa 2 (.t 46)),
.r (some 48) (.l1 (.t 47)),
.r (some 49) (.bi .add (.t 48) (.c (.int .i64 1))),
.r (some 50) (.nn (.t 1)),
.r (some 51) (.fa 2 (.t 50)),
.e none (.st 1 (.t 51) (.t 49))] [0,1,4,5]) <|
 .reg false [.r (some 52) (.fa 1 (.t 5)),
.r (some 53) (.l1 (.t 52)),
.r (some 54) (.mv (.t 0)),
.r (some 55) (.mv (.t 1)),
.r (some 56) (.ln 3 (.t 4)),
.e (some 57) (.raw ⟨(some 57),(.call { callee:=(.value (.tmp 53)),args:=#[(.tmp 54),(.tmp 55),(.tmp 56)],argTypes:=#[30,104,66]}),0, "run.go:62",#[⟨1,.data⟩,⟨2,.data⟩,⟨3,.data⟩,⟨4,.data⟩],none⟩)] []
theorem fit45:Fits Tryz.prog 45 2 (hOf Tryz.f45 ir45) ir45 [] 58:=⟨Tryz.f45,_,rfl,rfl,rfl,by decide,by kernel_rfl,by kernel_rfl⟩
def ir46:IR:=.seq (.reg false [.r (some 9) (.nn (.t 1)),
.r (some 10) (.fa 5 (.t 9)),
.r (some 11) (.l1 (.t 10)),
.e (some 12) (.call 95 [(.t 0),(.t 11)]),
.r (some 13) (.ex 0 (.t 12)),
.r (some 14) (.ex 1 (.t 12)),
.e (some 5) (.al 87 (.agg #[(.int .i64 0),(.int .i64 0),(.slice none 0 0)])),
.r (some 4) (.mv (.t 13)),
.e none (.st 3 (.t 5) (.t 14))] [0,1,4,5]) <|
 .seq (.reg false [.r (some 15) (.fa 0 (.t 5)),
.r (some 16) (.l1 (.t 15))] [0,1,4,5,16]) <|
 .block 0 (.seq (.reg false [.r (some 20) (.bi .eql (.t 16) (.c (.int .i64 3))),
.r (some 19) (.mv (.t 20))] [0,1,4,5,16,19]) <|
 .cond (.t 19) (.seq (.reg false [.r (some 23) (.nn (.t 1)),
.r (some 24) (.fa 4 (.t 23)),
.r (some 25) (.l1 (.t 24)),
.e (some 27) (.bs 3 1 #[(.int .i64 0)] [(0,1,(.t 4))]),
.e (some 28) (.ap 3 1 8 #[(.int .i64 0)] (.t 25) (.t 27)),
.r (some 29) (.nn (.t 1)),
.r (some 30) (.fa 4 (.t 29)),
.e none (.st 1 (.t 30) (.t 28))] [1,5]) <|
 .reg false [.r (some 32) (.fa 2 (.t 5)),
.r (some 33) (.l1 (.t 32)),
.r (some 34) (.ia 1 (.t 33) (.c (.int .i64 0))),
.r (some 35) (.l1 (.t 34)),
.r (some 36) (.nn (.t 1)),
.r (some 37) (.fa 5 (.t 36)),
.e none (.st 1 (.t 37) (.t 35))] []) (.seq (.reg false [.r (some 39) (.bi .eql (.t 16) (.c (.int .i64 4))),
.r (some 38) (.mv (.t 39))] [0,1,4,5,16,38]) <|
 .cond (.t 38) (.seq (.reg true [.r (some 40) (.mv (.t 1)),
.r (some 41) (.nn (.t 40)),
.r (some 42) (.fa 4 (.t 41)),
.r (some 43) (.l1 (.t 42)),
.r (some 44) (.len (.t 43)),
.r (some 45) (.mv (.t 0)),
.r (some 46) (.nn (.t 45)),
.r (some 47) (.fa 0 (.t 46)),
.r (some 48) (.fa 1 (.t 47)),
.r (some 49) (.l1 (.t 48)),
.r (some 50) (.fa 1 (.t 5)),
.r (some 51) (.l1 (.t 50)),
.r (some 52) (.ia 3 (.t 49) (.t 51)),
.r (some 53) (.fa 1 (.t 52)),
.r (some 54) (.l1 (.t 53)),
.r (some 55) (.bi .geq (.t 44) (.t 54))] [0,1,4,5,55]) <|
 .cond (.t 55) (.reg false [.r (some 59) (.fa 1 (.t 5)),
.r (some 60) (.l1 (.t 59)),
.e (some 61) (.call 98 [(.t 0),(.t 1),(.t 4),(.t 60)])] []) (.reg false [.e (some 64) (.call 99 [(.t 0),(.t 1)])] [])) (.seq (.seq (.reg false [.r (some 66) (.bi .eql (.t 16) (.c (.int .i64 1))),
.r (some 65) (.mv (.t 66))] [0,1,5,16,65]) <|
 .cond (.t 65) (.skip) (.reg false [.r (some 67) (.bi .eql (.t 16) (.c (.int .i64 2))),
.r (some 65) (.mv (.t 67))] [0,1,5,16,65])) <|
 .cond (.t 65) (.seq (.reg false [.r (some 69) (.nn (.t 1)),
.r (some 70) (.fa 4 (.t 69)),
.r (some 71) (.l1 (.t 70)),
.r (some 72) (.len (.t 71)),
.r (some 73) (.bi .gtr (.t 72) (.c (.int .i64 0)))] [0,73]) <|
 .cond (.t 73) (.reg false [.e (some 75) (.call 88 [(.t 0),(.c (.int .i64 5))])] []) (.reg false [.e (some 77) (.call 100 [(.t 0)])] [])) (.seq (.reg false [.r (some 79) (.bi .eql (.t 16) (.c (.int .i64 8))),
.r (some 78) (.mv (.t 79))] [0,1,5,16,78]) <|
 .cond (.t 78) (.reg false [.r (some 82) (.fa 1 (.t 5)),
.r (some 83) (.l1 (.t 82)),
.e (some 84) (.call 101 [(.t 0),(.t 1),(.t 83)])] []) (.seq (.reg false [.r (some 86) (.bi .eql (.t 16) (.c (.int .i64 6))),
.r (some 85) (.mv (.t 86))] [0,85]) <|
 .cond (.t 85) (.reg false [.e (some 88) (.call 88 [(.t 0),(.c (.int .i64 5))])] []) (.reg false [.e (some 18) (.call 88 [(.t 0),(.c (.int .i64 4))])] []))))))
theorem fit46:Fits Tryz.prog 46 2 (hOf Tryz.f46 ir46) ir46 [] 89:=⟨Tryz.f46,_,rfl,rfl,rfl,by decide,by kernel_rfl,by kernel_rfl⟩
def ir47L1:IR:=.seq (.reg false [.r (some 17) (.bi .lss (.t 16) (.t 15))] [0,3,14,15,16,17]) <|
 .seq (.cond (.t 17) (.skip) ((.exit 0))) <|
 .seq (.block 1 (.seq (.reg false [.r (some 18) (.ia 1 (.t 14) (.t 16)),
.r (some 19) (.l1 (.t 18)),
.r (some 5) (.mv (.t 19))] [0,3,5,14,15,16]) <|
 .seq (.reg false [.r (some 22) (.nn (.t 5)),
.r (some 23) (.fa 4 (.t 22)),
.r (some 24) (.l1 (.t 23)),
.e (some 25) (.ap 3 1 8 #[(.int .i64 0)] (.t 3) (.t 24)),
.r (some 3) (.mv (.t 25))] [0,3,5,14,15,16]) <|
 .seq (.reg false [.r (some 28) (.nn (.t 5)),
.r (some 29) (.fa 3 (.t 28)),
.r (some 30) (.l1 (.t 29)),
.e (some 31) (.ap 3 1 8 #[(.int .i64 0)] (.t 3) (.t 30)),
.r (some 3) (.mv (.t 31))] [0,3,5,14,15,16]) <|
 .reg false [.r (some 34) (.nn (.t 5)),
.r (some 35) (.fa 5 (.t 34)),
.r (some 36) (.l1 (.t 35)),
.e (some 37) (.bs 3 1 #[(.int .i64 0)] [(0,1,(.t 36))]),
.e (some 38) (.ap 3 1 8 #[(.int .i64 0)] (.t 3) (.t 37)),
.r (some 3) (.mv (.t 38))] [0,3,14,15,16])) <|
 .reg false [.r (some 39) (.bi .add (.t 16) (.c (.int .i64 1))),
.r (some 16) (.mv (.t 39))] [0,3,14,15,16]
def ir47:IR:=.seq (.reg false [] [0]) <|
 .seq (.reg false [.r (some 7) (.nn (.t 0)),
.r (some 8) (.fa 9 (.t 7)),
.r (some 9) (.l1 (.t 8)),
.e (some 10) (.call 37 [(.t 9)]),
.r (some 3) (.mv (.t 10))] [0,3]) <|
 .seq (.seq (.reg false [.r (some 12) (.nn (.t 0)),
.r (some 13) (.fa 10 (.t 12)),
.r (some 14) (.l1 (.t 13)),
.r (some 15) (.len (.t 14)),
.r (some 16) (.mv (.c (.int .i64 0)))] [0,3,14,15,16]) <|
 .block 0 (.loop ir47L1)) <|
 .seq (.reg false [.r (some 42) (.nn (.t 0)),
.r (some 43) (.fa 11 (.t 42)),
.r (some 44) (.l1 (.t 43)),
.e (some 45) (.ap 3 1 8 #[(.int .i64 0)] (.t 3) (.t 44)),
.r (some 2) (.mv (.t 45))] [2]) <|
 .ret
theorem fit47:Fits Tryz.prog 47 1 (hOf Tryz.f47 ir47) ir47 [.t 2] 46:=⟨Tryz.f47,_,rfl,rfl,rfl,by decide,by kernel_rfl,by kernel_rfl⟩
def ir48L1:IR:=.seq (.reg false [.r (some 20) (.bi .lss (.t 19) (.t 18))] [0,1,17,18,19,20]) <|
 .seq (.cond (.t 20) (.skip) ((.exit 0))) <|
 .seq (.block 1 (.seq (.reg false [.r (some 21) (.ia 1 (.t 17) (.t 19)),
.r (some 22) (.l1 (.t 21)),
.r (some 5) (.mv (.t 22))] [0,1,5,17,18,19]) <|
 .seq (.reg false [.r (some 25) (.nn (.t 5)),
.r (some 26) (.fa 4 (.t 25)),
.r (some 27) (.l1 (.t 26)),
.e (some 29) (.cp 1 (.t 27) (.t 1)),
.r (some 30) (.sl 1 (.t 1) (some (.t 29)) none none),
.r (some 1) (.mv (.t 30))] [0,1,5,17,18,19]) <|
 .seq (.reg false [.r (some 33) (.nn (.t 5)),
.r (some 34) (.fa 3 (.t 33)),
.r (some 35) (.l1 (.t 34)),
.e (some 37) (.cp 1 (.t 35) (.t 1)),
.r (some 38) (.sl 1 (.t 1) (some (.t 37)) none none),
.r (some 1) (.mv (.t 38))] [0,1,5,17,18,19]) <|
 .reg true [.r (some 39) (.mv (.t 5)),
.r (some 40) (.mv (.t 1)),
.r (some 41) (.ia 1 (.t 40) (.c (.int .i64 0))),
.r (some 42) (.l1 (.t 41)),
.r (some 43) (.mv (.t 1)),
.r (some 44) (.sl 1 (.t 43) (some (.c (.int .i64 1))) none none),
.r (some 45) (.nn (.t 39)),
.r (some 46) (.fa 5 (.t 45)),
.e none (.st 1 (.t 46) (.t 42)),
.r (some 1) (.mv (.t 44))] [0,1,17,18,19])) <|
 .reg false [.r (some 47) (.bi .add (.t 19) (.c (.int .i64 1))),
.r (some 19) (.mv (.t 47))] [0,1,17,18,19]
def ir48:IR:=.seq (.reg false [.r (some 8) (.nn (.t 0)),
.r (some 9) (.fa 9 (.t 8)),
.r (some 10) (.l1 (.t 9)),
.e (some 12) (.cp 1 (.t 10) (.t 1)),
.r (some 13) (.sl 1 (.t 1) (some (.t 12)) none none),
.r (some 1) (.mv (.t 13))] [0,1]) <|
 .seq (.seq (.reg false [.r (some 15) (.nn (.t 0)),
.r (some 16) (.fa 10 (.t 15)),
.r (some 17) (.l1 (.t 16)),
.r (some 18) (.len (.t 17)),
.r (some 19) (.mv (.c (.int .i64 0)))] [0,1,17,18,19]) <|
 .block 0 (.loop ir48L1)) <|
 .reg false [.r (some 49) (.nn (.t 0)),
.r (some 50) (.fa 11 (.t 49)),
.r (some 51) (.l1 (.t 50)),
.e (some 53) (.cp 1 (.t 51) (.t 1))] []
theorem fit48:Fits Tryz.prog 48 2 (hOf Tryz.f48 ir48) ir48 [] 54:=⟨Tryz.f48,_,rfl,rfl,rfl,by decide,by kernel_rfl,by kernel_rfl⟩
def ir49:IR:=.seq (.reg false [] [0]) <|
 .seq (.reg false [.r (some 5) (.len (.t 0)),
.r (some 7) (.len (.t 0)),
.r (some 8) (.sl 2 (.t 0) none (some (.t 5)) (some (.t 7))),
.r (some 2) (.mv (.t 8))] [2]) <|
 .ret
theorem fit49:Fits Tryz.prog 49 1 (hOf Tryz.f49 ir49) ir49 [.t 2] 9:=⟨Tryz.f49,_,rfl,rfl,rfl,by decide,by kernel_rfl,by kernel_rfl⟩
def ir50:IR:=.seq (.reg false [] [0]) <|
 .seq (.seq (.reg false [.r (some 4) (.eq .slice false (.t 0) (.c (.slice none 0 0)))] [0,4]) <|
 .cond (.t 4) (.seq (.reg false [.r (some 2) (.mv (.c (.slice none 0 0)))] [2]) <|
 .ret) (.skip)) <|
 .seq (.reg false [.e (some 5) (.raw ⟨(some 5),(.buildSlice 34 0 #[]),34, "slices.go:362",#[],none⟩),
.r (some 6) (.mv (.t 0)),
.e (some 7) (.ap 72 2 24 #[(.string ⟨#[]⟩),(.int .i64 0)] (.t 5) (.t 6)),
.r (some 2) (.mv (.t 7))] [2]) <|
 .ret
theorem fit50:Fits Tryz.prog 50 1 (hOf Tryz.f50 ir50) ir50 [.t 2] 8:=⟨Tryz.f50,_,rfl,rfl,rfl,by decide,by kernel_rfl,by kernel_rfl⟩
def ir57L1:IR:=.seq (.reg false [.r (some 10) (.bi .lss (.t 9) (.t 8))] [1,3,7,8,9,10]) <|
 .seq (.cond (.t 10) (.skip) ((.exit 0))) <|
 .seq (.block 1 (.seq (.reg false [.r (some 11) (.ia 3 (.t 7) (.t 9)),
.r (some 12) (.ln 3 (.t 11)),
.e (some 5) (.al 70 (.agg #[(.string ⟨#[]⟩),(.int .i64 0),(.slice none 0 0)])),
.e none (.st 3 (.t 5) (.t 12))] [1,3,5,7,8,9]) <|
 .seq (.reg false [.r (some 14) (.fa 2 (.t 5)),
.r (some 15) (.l1 (.t 14)),
.r (some 16) (.len (.t 15)),
.r (some 17) (.bi .add (.t 3) (.t 16)),
.r (some 3) (.mv (.t 17))] [1,3,5,7,8,9]) <|
 .seq (.reg false [.r (some 18) (.fa 2 (.t 5)),
.r (some 19) (.l1 (.t 18)),
.r (some 20) (.len (.t 19)),
.r (some 21) (.bi .gtr (.t 20) (.c (.int .i64 8000)))] [1,3,7,8,9,21]) <|
 .cond (.t 21) (.seq (.reg false [.r (some 2) (.mv (.c (.bool true)))] [2]) <|
 .ret) (.skip))) <|
 .reg false [.r (some 22) (.bi .add (.t 9) (.c (.int .i64 1))),
.r (some 9) (.mv (.t 22))] [1,3,7,8,9]
def ir57:IR:=.seq (.reg false [.e (some 1) (.bx 25 (.t 0))] [1]) <|
 .seq (.reg false [.r (some 3) (.mv (.c (.int .i64 0)))] [1,3]) <|
 .seq (.seq (.reg false [.r (some 6) (.fa 1 (.t 1)),
.r (some 7) (.l1 (.t 6)),
.r (some 8) (.len (.t 7)),
.r (some 9) (.mv (.c (.int .i64 0)))] [1,3,7,8,9]) <|
 .block 0 (.loop ir57L1)) <|
 .seq (.reg false [.r (some 23) (.fa 0 (.t 1)),
.r (some 24) (.l1 (.t 23)),
.r (some 25) (.len (.t 24)),
.r (some 26) (.bi .gtr (.t 25) (.c (.int .i64 2000))),
.gr 26 false (some 28) (.fa 1 (.t 1)),
.gr 26 false (some 29) (.l1 (.t 28)),
.gr 26 false (some 30) (.len (.t 29)),
.gr 26 false (some 31) (.bi .gtr (.t 30) (.c (.int .i64 2000))),
.r (some 32) (.pk (.t 26) (.c (.bool true)) (.t 31)),
.gr 32 false (some 34) (.mv (.t 3)),
.gr 32 false (some 35) (.bi .gtr (.t 34) (.c (.int .i64 200000))),
.r (some 36) (.pk (.t 32) (.c (.bool true)) (.t 35)),
.r (some 2) (.mv (.t 36))] [2]) <|
 .ret
theorem fit57:Fits Tryz.prog 57 1 (hOf Tryz.f57 ir57) ir57 [.t 2] 37:=⟨Tryz.f57,_,rfl,rfl,rfl,by decide,by kernel_rfl,by kernel_rfl⟩
def ir58L1:IR:=.seq (.reg false [.r (some 7) (.bi .lss (.t 6) (.t 5))] [0,5,6,7]) <|
 .seq (.cond (.t 7) (.skip) ((.exit 0))) <|
 .seq (.block 1 (.seq (.reg false [.r (some 3) (.mv (.t 6))] [0,3,5,6]) <|
 .seq (.reg false [.r (some 11) (.ixs (.t 0) (.t 3)),
.r (some 12) (.bi .lss (.t 11) (.c (.int .u8 32))),
.gr 12 false (some 14) (.mv (.t 0)),
.gr 12 false (some 15) (.mv (.t 3)),
.gr 12 false (some 16) (.ixs (.t 14) (.t 15)),
.gr 12 false (some 17) (.bi .gtr (.t 16) (.c (.int .u8 126))),
.r (some 18) (.pk (.t 12) (.c (.bool true)) (.t 17))] [0,5,6,18]) <|
 .cond (.t 18) (.seq (.reg false [.r (some 2) (.mv (.c (.bool false)))] [2]) <|
 .ret) (.skip))) <|
 .reg false [.r (some 19) (.bi .add (.t 6) (.c (.int .i64 1))),
.r (some 6) (.mv (.t 19))] [0,5,6]
def ir58:IR:=.seq (.reg false [] [0]) <|
 .seq (.seq (.reg false [.r (some 5) (.lns (.t 0)),
.r (some 6) (.mv (.c (.int .i64 0)))] [0,5,6]) <|
 .block 0 (.loop ir58L1)) <|
 .seq (.reg false [.r (some 21) (.lns (.t 0)),
.r (some 22) (.bi .geq (.t 21) (.c (.int .i64 1))),
.gr 22 true (some 24) (.mv (.t 0)),
.gr 22 true (some 25) (.lns (.t 24)),
.gr 22 true (some 26) (.bi .leq (.t 25) (.c (.int .i64 4096))),
.r (some 27) (.pk (.t 22) (.t 26) (.c (.bool false))),
.r (some 2) (.mv (.t 27))] [2]) <|
 .ret
theorem fit58:Fits Tryz.prog 58 1 (hOf Tryz.f58 ir58) ir58 [.t 2] 28:=⟨Tryz.f58,_,rfl,rfl,rfl,by decide,by kernel_rfl,by kernel_rfl⟩
def ir59:IR:=.seq (.reg false [] []) <|
 .seq (.reg false [.r (some 1) (.bd #[(.string ⟨#[]⟩),(.int .i64 0)] [(0,1,(.c (.string ⟨#[70,97,108,115,101]⟩)))]),
.r (some 2) (.bd #[(.string ⟨#[]⟩),(.int .i64 0)] [(0,1,(.c (.string ⟨#[84,114,117,101]⟩)))]),
.r (some 3) (.bd #[(.string ⟨#[]⟩),(.int .i64 0)] [(0,1,(.c (.string ⟨#[85,110,105,116]⟩)))]),
.r (some 4) (.bd #[(.string ⟨#[]⟩),(.int .i64 0)] [(0,1,(.c (.string ⟨#[78,105,108]⟩)))]),
.r (some 5) (.bd #[(.string ⟨#[]⟩),(.int .i64 0)] [(0,1,(.c (.string ⟨#[67,111,110,115]⟩))),(1,1,(.c (.int .i64 2)))]),
.r (some 6) (.bd #[(.string ⟨#[]⟩),(.int .i64 0)] [(0,1,(.c (.string ⟨#[80,97,105,114]⟩))),(1,1,(.c (.int .i64 2)))]),
.r (some 7) (.bd #[(.string ⟨#[]⟩),(.int .i64 0)] [(0,1,(.c (.string ⟨#[84,114,105,112,108,101]⟩))),(1,1,(.c (.int .i64 3)))]),
.e (some 8) (.bs 89 7 #[(.string ⟨#[]⟩),(.int .i64 0),(.string ⟨#[]⟩),(.int .i64 0),(.string ⟨#[]⟩),(.int .i64 0),(.string ⟨#[]⟩),(.int .i64 0),(.string ⟨#[]⟩),(.int .i64 0),(.string ⟨#[]⟩),(.int .i64 0),(.string ⟨#[]⟩),(.int .i64 0)] [(0,2,(.t 1)),(2,2,(.t 2)),(4,2,(.t 3)),(6,2,(.t 4)),(8,2,(.t 5)),(10,2,(.t 6)),(12,2,(.t 7))]),
.r (some 0) (.mv (.t 8))] [0]) <|
 .ret
theorem fit59:Fits Tryz.prog 59 0 (hOf Tryz.f59 ir59) ir59 [.t 0] 9:=⟨Tryz.f59,_,rfl,rfl,rfl,by decide,by kernel_rfl,by kernel_rfl⟩
def ir60L1:IR:=.seq (.reg false [.r (some 23) (.bi .lss (.t 22) (.t 21))] [2,3,20,21,22,23]) <|
 .seq (.cond (.t 23) (.skip) ((.exit 0))) <|
 .seq (.block 1 (.seq (.reg false [.r (some 25) (.ia 3 (.t 20) (.t 22)),
.r (some 26) (.ln 3 (.t 25)),
.e (some 6) (.al 66 (.agg #[(.int .i64 0),(.int .i64 0),(.int .i64 0)])),
.r (some 5) (.mv (.t 22)),
.e none (.st 3 (.t 6) (.t 26))] [2,3,5,6,20,21,22]) <|
 .seq (.reg false [.r (some 28) (.fa 0 (.t 6)),
.r (some 29) (.l1 (.t 28)),
.e (some 30) (.call 110 [(.t 29)]),
.r (some 31) (.ex 0 (.t 30)),
.r (some 32) (.ex 1 (.t 30)),
.e (some 7) (.al 153 (.agg #[(.string ⟨#[]⟩),(.int .i64 0),(.int .i64 0)])),
.e none (.st 3 (.t 7) (.t 31)),
.r (some 8) (.mv (.t 32))] [2,3,5,6,7,8,20,21,22]) <|
 .seq (.seq (.reg false [.r (some 34) (.no (.t 8))] [2,3,5,6,7,20,21,22,34]) <|
 .cond (.t 34) (.seq (.reg false [.r (some 4) (.mv (.c (.int .i64 172)))] [4]) <|
 .ret) (.skip)) <|
 .seq (.dr (.r 0 none (some 35) (.ln 2 (.t 2)) <|
   .r 1 none (some 36) (.ln 3 (.t 3)) <|
   .r 2 none (some 37) (.mv (.t 5)) <|
   .r 3 none (some 38) (.fa 1 (.t 6)) <|
   .r 4 none (some 39) (.l1 (.t 38)) <|
   .r 5 none (some 40) (.fa 1 (.t 7)) <|
   .r 6 none (some 41) (.l1 (.t 40)) <|
   .r 8 none (some 43) (.ln 2 (.t 2)) <|
   .r 9 none (some 44) (.ln 3 (.t 3)) <|
   .r 10 none (some 45) (.mv (.t 5)) <|
   .r 11 none (some 46) (.fa 2 (.t 6)) <|
   .r 12 none (some 47) (.l1 (.t 46)) <|
   .r 13 none (some 48) (.fa 2 (.t 7)) <|
   .r 14 none (some 49) (.l1 (.t 48)) <|
   .e 7 none (some 42) (.call 111 [(.t 35),(.t 36),(.t 37),(.t 39),(.t 41)]) [8,9,12,14] <|
   .e 15 none (some 50) (.call 111 [(.t 43),(.t 44),(.t 45),(.t 47),(.t 49)]) [] <|
   .r 16 none (some 9) (.mv (.t 42)) <|
   .r 17 none (some 10) (.mv (.t 50)) <|
   .nil) [2,3,9,10,20,21,22]) <|
 .seq (.seq (.reg false [.r (some 52) (.bi .eql (.t 9) (.c (.int .i64 172))),
.gr 52 false (some 54) (.mv (.t 10)),
.gr 52 false (some 55) (.bi .eql (.t 54) (.c (.int .i64 172))),
.r (some 56) (.pk (.t 52) (.c (.bool true)) (.t 55))] [2,3,9,10,20,21,22,56]) <|
 .cond (.t 56) (.seq (.reg false [.r (some 4) (.mv (.c (.int .i64 172)))] [4]) <|
 .ret) (.skip)) <|
 .seq (.reg false [.r (some 58) (.bi .neq (.t 9) (.c (.int .i64 0))),
.gr 58 false (some 60) (.mv (.t 10)),
.gr 58 false (some 61) (.bi .neq (.t 60) (.c (.int .i64 0))),
.r (some 62) (.pk (.t 58) (.c (.bool true)) (.t 61))] [2,3,20,21,22,62]) <|
 .cond (.t 62) (.seq (.reg false [.r (some 4) (.mv (.c (.int .i64 174)))] [4]) <|
 .ret) (.skip))) <|
 .reg false [.r (some 63) (.bi .add (.t 22) (.c (.int .i64 1))),
.r (some 22) (.mv (.t 63))] [2,3,20,21,22]
def ir60L2:IR:=.seq (.reg false [.r (some 81) (.bi .lss (.t 80) (.t 79))] [2,3,11,78,79,80,81]) <|
 .seq (.cond (.t 81) (.skip) ((.exit 2))) <|
 .seq (.block 3 (.seq (.reg false [.r (some 83) (.ia 3 (.t 78) (.t 80)),
.r (some 84) (.ln 3 (.t 83)),
.e (some 13) (.al 66 (.agg #[(.int .i64 0),(.int .i64 0),(.int .i64 0)])),
.r (some 12) (.mv (.t 80)),
.e none (.st 3 (.t 13) (.t 84))] [2,3,11,12,13,78,79,80]) <|
 .seq (.reg false [.r (some 87) (.ia 1 (.t 11) (.t 12)),
.r (some 88) (.l1 (.t 87)),
.r (some 14) (.mv (.t 88))] [2,3,11,12,13,14,78,79,80]) <|
 .seq (.seq (.reg false [.r (some 90) (.bi .eql (.t 14) (.c (.int .i64 0)))] [2,3,11,12,13,14,78,79,80,90]) <|
 .cond (.t 90) (.seq (.reg false [.r (some 4) (.mv (.c (.int .i64 174)))] [4]) <|
 .ret) (.skip)) <|
 .seq (.reg false [.r (some 92) (.ln 2 (.t 2)),
.r (some 93) (.ln 3 (.t 13)),
.e (some 95) (.call 112 [(.t 92),(.t 93),(.t 14)]),
.r (some 96) (.ex 0 (.t 95)),
.r (some 97) (.ex 1 (.t 95)),
.r (some 15) (.mv (.t 96)),
.r (some 16) (.mv (.t 97))] [2,3,11,12,13,15,16,78,79,80]) <|
 .seq (.seq (.reg false [.r (some 99) (.no (.t 16))] [2,3,11,12,13,15,78,79,80,99]) <|
 .cond (.t 99) (.seq (.reg false [.r (some 4) (.mv (.c (.int .i64 173)))] [4]) <|
 .ret) (.skip)) <|
 .seq (.reg false [.r (some 100) (.fa 0 (.t 13)),
.r (some 101) (.l1 (.t 100)),
.r (some 102) (.bi .neq (.t 101) (.c (.int .i64 13))),
.gr 102 true (some 104) (.fa 0 (.t 13)),
.gr 102 true (some 105) (.l1 (.t 104)),
.gr 102 true (some 106) (.bi .neq (.t 105) (.c (.int .i64 16))),
.r (some 107) (.pk (.t 102) (.t 106) (.c (.bool false))),
.gr 107 true (some 109) (.fa 0 (.t 13)),
.gr 107 true (some 110) (.l1 (.t 109)),
.gr 107 true (some 111) (.bi .neq (.t 110) (.c (.int .i64 17))),
.r (some 112) (.pk (.t 107) (.t 111) (.c (.bool false))),
.r (some 17) (.mv (.t 112))] [2,3,11,12,13,15,17,78,79,80]) <|
 .seq (.seq (.reg false [.gr 17 true (some 115) (.mv (.t 12)),
.gr 17 true (some 116) (.bi .add (.t 115) (.c (.int .i64 1))),
.gr 17 true (some 117) (.fa 2 (.t 3)),
.gr 17 true (some 118) (.l1 (.t 117)),
.gr 17 true (some 119) (.len (.t 118)),
.gr 17 true (some 120) (.bi .eql (.t 116) (.t 119)),
.r (some 121) (.pk (.t 17) (.t 120) (.c (.bool false)))] [2,3,11,12,13,15,17,78,79,80,121]) <|
 .cond (.t 121) (.seq (.reg false [.r (some 4) (.mv (.c (.int .i64 174)))] [4]) <|
 .ret) (.skip)) <|
 .seq (.seq (.reg false [.gr 17 true (some 124) (.mv (.t 11)),
.gr 17 true (some 125) (.mv (.t 12)),
.gr 17 true (some 126) (.bi .add (.t 125) (.c (.int .i64 1))),
.gr 17 true (some 127) (.mv (.t 15)),
.ge 17 true (some 128) (.call 113 [(.t 124),(.t 126),(.t 127)]),
.gr 17 true (some 129) (.no (.t 128)),
.r (some 130) (.pk (.t 17) (.t 129) (.c (.bool false)))] [2,3,11,13,15,78,79,80,130]) <|
 .cond (.t 130) (.seq (.reg false [.r (some 4) (.mv (.c (.int .i64 173)))] [4]) <|
 .ret) (.skip)) <|
 .seq (.reg false [.r (some 18) (.mv (.c (.int .i64 0)))] [2,3,11,13,15,18,78,79,80]) <|
 .seq (.seq (.reg false [.r (some 131) (.fa 0 (.t 13)),
.r (some 132) (.l1 (.t 131))] [2,3,11,13,15,18,78,79,80,132]) <|
 .block 4 (.seq (.reg false [.r (some 134) (.bi .eql (.t 132) (.c (.int .i64 13))),
.r (some 133) (.mv (.t 134))] [2,3,11,13,15,18,78,79,80,132,133]) <|
 .cond (.t 133) (.reg false [.r (some 135) (.fa 1 (.t 13)),
.r (some 136) (.l1 (.t 135)),
.r (some 18) (.mv (.t 136))] [2,3,11,15,18,78,79,80]) (.seq (.seq (.reg false [.r (some 138) (.bi .eql (.t 132) (.c (.int .i64 14))),
.r (some 137) (.mv (.t 138))] [2,3,11,13,15,18,78,79,80,132,137]) <|
 .cond (.t 137) (.skip) (.reg false [.r (some 139) (.bi .eql (.t 132) (.c (.int .i64 15))),
.r (some 137) (.mv (.t 139))] [2,3,11,13,15,18,78,79,80,137])) <|
 .cond (.t 137) (.reg false [.r (some 140) (.fa 2 (.t 13)),
.r (some 141) (.l1 (.t 140)),
.r (some 18) (.mv (.t 141))] [2,3,11,15,18,78,79,80]) (.skip)))) <|
 .seq (.reg false [.r (some 143) (.bi .gtr (.t 18) (.c (.int .i64 0))),
.gr 143 true (some 145) (.mv (.t 11)),
.gr 143 true (some 146) (.mv (.t 18)),
.gr 143 true (some 147) (.mv (.t 15)),
.ge 143 true (some 148) (.call 113 [(.t 145),(.t 146),(.t 147)]),
.gr 143 true (some 149) (.no (.t 148)),
.r (some 150) (.pk (.t 143) (.t 149) (.c (.bool false)))] [2,3,11,78,79,80,150]) <|
 .cond (.t 150) (.seq (.reg false [.r (some 4) (.mv (.c (.int .i64 173)))] [4]) <|
 .ret) (.skip))) <|
 .reg false [.r (some 151) (.bi .add (.t 80) (.c (.int .i64 1))),
.r (some 80) (.mv (.t 151))] [2,3,11,78,79,80]
def ir60:IR:=.seq (.reg false [.e (some 2) (.bx 25 (.t 0)),
.e (some 3) (.bx 70 (.t 1))] [2,3]) <|
 .seq (.seq (.reg false [.r (some 19) (.fa 2 (.t 3)),
.r (some 20) (.l1 (.t 19)),
.r (some 21) (.len (.t 20)),
.r (some 22) (.mv (.c (.int .i64 0)))] [2,3,20,21,22]) <|
 .block 0 (.loop ir60L1)) <|
 .seq (.seq (.reg false [.r (some 64) (.fa 2 (.t 3)),
.r (some 65) (.l1 (.t 64)),
.r (some 66) (.len (.t 65)),
.r (some 67) (.bi .eql (.t 66) (.c (.int .i64 0)))] [2,3,67]) <|
 .cond (.t 67) (.seq (.reg false [.r (some 4) (.mv (.c (.int .i64 174)))] [4]) <|
 .ret) (.skip)) <|
 .seq (.reg false [.r (some 68) (.fa 2 (.t 3)),
.r (some 69) (.l1 (.t 68)),
.r (some 70) (.len (.t 69)),
.e (some 71) (.ms 3 1 8 #[(.int .i64 0)] (.t 70) (.t 70)),
.r (some 11) (.mv (.t 71))] [2,3,11]) <|
 .seq (.reg false [.r (some 73) (.fa 1 (.t 3)),
.r (some 74) (.l1 (.t 73)),
.r (some 75) (.bi .add (.t 74) (.c (.int .i64 1))),
.r (some 76) (.ia 1 (.t 11) (.c (.int .i64 0))),
.e none (.st 1 (.t 76) (.t 75))] [2,3,11]) <|
 .seq (.seq (.reg false [.r (some 77) (.fa 2 (.t 3)),
.r (some 78) (.l1 (.t 77)),
.r (some 79) (.len (.t 78)),
.r (some 80) (.mv (.c (.int .i64 0)))] [2,3,11,78,79,80]) <|
 .block 2 (.loop ir60L2)) <|
 .seq (.reg false [.r (some 4) (.mv (.c (.int .i64 0)))] [4]) <|
 .ret
theorem fit60:Fits Tryz.prog 60 2 (hOf Tryz.f60 ir60) ir60 [.t 4] 152:=⟨Tryz.f60,_,rfl,rfl,rfl,by decide,by kernel_rfl,by kernel_rfl⟩
def ir63:IR:=.seq (.reg false [] [0]) <|
 .seq (.seq (.reg false [.r (some 4) (.eq .slice false (.t 0) (.c (.slice none 0 0)))] [0,4]) <|
 .cond (.t 4) (.seq (.reg false [.r (some 2) (.mv (.c (.slice none 0 0)))] [2]) <|
 .ret) (.skip)) <|
 .seq (.reg false [.e (some 5) (.raw ⟨(some 5),(.buildSlice 22 0 #[]),22, "slices.go:362",#[],none⟩),
.r (some 6) (.mv (.t 0)),
.e (some 7) (.ap 89 2 24 #[(.string ⟨#[]⟩),(.int .i64 0)] (.t 5) (.t 6)),
.r (some 2) (.mv (.t 7))] [2]) <|
 .ret
theorem fit63:Fits Tryz.prog 63 1 (hOf Tryz.f63 ir63) ir63 [.t 2] 8:=⟨Tryz.f63,_,rfl,rfl,rfl,by decide,by kernel_rfl,by kernel_rfl⟩
def ir64:IR:=.seq (.reg false [] [0]) <|
 .seq (.seq (.reg false [.r (some 4) (.eq .slice false (.t 0) (.c (.slice none 0 0)))] [0,4]) <|
 .cond (.t 4) (.seq (.reg false [.r (some 2) (.mv (.c (.slice none 0 0)))] [2]) <|
 .ret) (.skip)) <|
 .seq (.reg false [.e (some 5) (.raw ⟨(some 5),(.buildSlice 67 0 #[]),67, "slices.go:362",#[],none⟩),
.r (some 6) (.mv (.t 0)),
.e (some 7) (.ap 66 3 24 #[(.int .i64 0),(.int .i64 0),(.int .i64 0)] (.t 5) (.t 6)),
.r (some 2) (.mv (.t 7))] [2]) <|
 .ret
theorem fit64:Fits Tryz.prog 64 1 (hOf Tryz.f64 ir64) ir64 [.t 2] 8:=⟨Tryz.f64,_,rfl,rfl,rfl,by decide,by kernel_rfl,by kernel_rfl⟩
def ir65:IR:=.seq (.reg false [.e (some 1) (.bx 66 (.t 0))] []) <|
 .seq (.reg false [.r (some 2) (.mv (.c (.int .i64 0)))] [2]) <|
 .ret
theorem fit65:Fits Tryz.prog 65 1 (hOf Tryz.f65 ir65) ir65 [.t 2] 3:=⟨Tryz.f65,_,rfl,rfl,rfl,by decide,by kernel_rfl,by kernel_rfl⟩
def ir66:IR:=.seq (.reg false [.e (some 5) (.bx 66 (.t 2))] [1,5]) <|
 .reg false [.r (some 8) (.fa 1 (.t 5)),
.r (some 9) (.l1 (.t 8)),
.e (some 10) (.call 68 [(.t 1),(.t 9)]),
.e (some 11) (.call 67 [(.t 1),(.t 10)])] []
theorem fit66:Fits Tryz.prog 66 3 (hOf Tryz.f66 ir66) ir66 [] 12:=⟨Tryz.f66,_,rfl,rfl,rfl,by decide,by kernel_rfl,by kernel_rfl⟩
def ir67:IR:=.reg false [.r (some 6) (.nn (.t 0)),
.r (some 7) (.fa 3 (.t 6)),
.r (some 8) (.l1 (.t 7)),
.e (some 10) (.bs 3 1 #[(.int .i64 0)] [(0,1,(.t 1))]),
.e (some 11) (.ap 3 1 8 #[(.int .i64 0)] (.t 8) (.t 10)),
.r (some 12) (.nn (.t 0)),
.r (some 13) (.fa 3 (.t 12)),
.e none (.st 1 (.t 13) (.t 11))] []
theorem fit67:Fits Tryz.prog 67 2 (hOf Tryz.f67 ir67) ir67 [] 14:=⟨Tryz.f67,_,rfl,rfl,rfl,by decide,by kernel_rfl,by kernel_rfl⟩
def ir68:IR:=.seq (.reg false [] [0,1]) <|
 .seq (.reg true [.r (some 5) (.mv (.t 0)),
.r (some 6) (.nn (.t 5)),
.r (some 7) (.fa 3 (.t 6)),
.r (some 8) (.l1 (.t 7)),
.r (some 9) (.mv (.t 0)),
.r (some 10) (.nn (.t 9)),
.r (some 11) (.fa 3 (.t 10)),
.r (some 12) (.l1 (.t 11)),
.r (some 13) (.len (.t 12)),
.r (some 14) (.bi .sub (.t 13) (.c (.int .i64 1))),
.r (some 15) (.mv (.t 1)),
.r (some 16) (.bi .sub (.t 14) (.t 15)),
.r (some 17) (.ia 1 (.t 8) (.t 16)),
.r (some 18) (.l1 (.t 17)),
.r (some 4) (.mv (.t 18))] [4]) <|
 .ret
theorem fit68:Fits Tryz.prog 68 2 (hOf Tryz.f68 ir68) ir68 [.t 4] 19:=⟨Tryz.f68,_,rfl,rfl,rfl,by decide,by kernel_rfl,by kernel_rfl⟩
def ir69:IR:=.seq (.reg false [.e (some 5) (.bx 66 (.t 2))] [0,1,5]) <|
 .reg true [.r (some 6) (.mv (.t 1)),
.r (some 7) (.mv (.t 0)),
.r (some 8) (.nn (.t 7)),
.r (some 9) (.fa 9 (.t 8)),
.r (some 10) (.l1 (.t 9)),
.r (some 11) (.fa 1 (.t 5)),
.r (some 12) (.l1 (.t 11)),
.r (some 13) (.ia 1 (.t 10) (.t 12)),
.r (some 14) (.l1 (.t 13)),
.e (some 15) (.call 67 [(.t 6),(.t 14)])] []
theorem fit69:Fits Tryz.prog 69 3 (hOf Tryz.f69 ir69) ir69 [] 16:=⟨Tryz.f69,_,rfl,rfl,rfl,by decide,by kernel_rfl,by kernel_rfl⟩
def ir70:IR:=.seq (.reg false [.e (some 1) (.bx 66 (.t 0))] []) <|
 .seq (.reg false [.r (some 2) (.mv (.c (.int .i64 1)))] [2]) <|
 .ret
theorem fit70:Fits Tryz.prog 70 1 (hOf Tryz.f70 ir70) ir70 [.t 2] 3:=⟨Tryz.f70,_,rfl,rfl,rfl,by decide,by kernel_rfl,by kernel_rfl⟩
def ir71:IR:=.seq (.reg false [.e (some 5) (.bx 66 (.t 2))] [0,1,5]) <|
 .reg false [.r (some 8) (.fa 1 (.t 5)),
.r (some 9) (.l1 (.t 8)),
.e (some 10) (.call 72 [(.t 0),(.c (.int .i64 1)),(.t 9),(.c (.slice none 0 0))]),
.e (some 11) (.call 67 [(.t 1),(.t 10)])] []
theorem fit71:Fits Tryz.prog 71 3 (hOf Tryz.f71 ir71) ir71 [] 12:=⟨Tryz.f71,_,rfl,rfl,rfl,by decide,by kernel_rfl,by kernel_rfl⟩
def ir72:IR:=.seq (.reg false [] [0,1,2,3]) <|
 .seq (.reg false [.r (some 12) (.mv (.t 0)),
.r (some 13) (.nn (.t 12)),
.r (some 14) (.fa 6 (.t 13)),
.r (some 15) (.l1 (.t 14)),
.r (some 16) (.mv (.t 1)),
.r (some 17) (.mv (.t 2)),
.r (some 18) (.mv (.t 3)),
.r (some 19) (.bd #[(.int .i64 0),(.int .i64 0),(.slice none 0 0)] [(0,1,(.t 16)),(1,1,(.t 17)),(2,1,(.t 18))]),
.e (some 20) (.raw ⟨(some 20),(.call { callee:=(.invoke (.tmp 15) "Add"),args:=#[(.tmp 19)],argTypes:=#[87]}),62, "machine.go:166",#[⟨3,.data⟩,⟨7,.data⟩],none⟩),
.r (some 11) (.mv (.t 20)),
.r (some 21) (.ex 0 (.t 11)),
.r (some 22) (.ex 1 (.t 11)),
.r (some 9) (.mv (.t 21)),
.r (some 10) (.mv (.t 22))] [9]) <|
 .seq (.reg false [.r (some 8) (.mv (.t 9))] [8]) <|
 .ret
theorem fit72:Fits Tryz.prog 72 4 (hOf Tryz.f72 ir72) ir72 [.t 8] 24:=⟨Tryz.f72,_,rfl,rfl,rfl,by decide,by kernel_rfl,by kernel_rfl⟩
def ir73:IR:=.seq (.reg false [.e (some 5) (.bx 66 (.t 2))] [1,5]) <|
 .reg false [.r (some 7) (.fa 1 (.t 5)),
.r (some 8) (.l1 (.t 7)),
.e (some 9) (.call 74 [(.t 1),(.t 8)])] []
theorem fit73:Fits Tryz.prog 73 3 (hOf Tryz.f73 ir73) ir73 [] 10:=⟨Tryz.f73,_,rfl,rfl,rfl,by decide,by kernel_rfl,by kernel_rfl⟩
def ir74:IR:=.reg true [.r (some 4) (.mv (.t 0)),
.r (some 5) (.mv (.t 0)),
.r (some 6) (.nn (.t 5)),
.r (some 7) (.fa 3 (.t 6)),
.r (some 8) (.l1 (.t 7)),
.r (some 9) (.mv (.t 0)),
.r (some 10) (.nn (.t 9)),
.r (some 11) (.fa 3 (.t 10)),
.r (some 12) (.l1 (.t 11)),
.r (some 13) (.len (.t 12)),
.r (some 14) (.mv (.t 1)),
.r (some 15) (.bi .sub (.t 13) (.t 14)),
.r (some 16) (.sl 1 (.t 8) none (some (.t 15)) none),
.r (some 17) (.nn (.t 4)),
.r (some 18) (.fa 3 (.t 17)),
.e none (.st 1 (.t 18) (.t 16))] []
theorem fit74:Fits Tryz.prog 74 2 (hOf Tryz.f74 ir74) ir74 [] 19:=⟨Tryz.f74,_,rfl,rfl,rfl,by decide,by kernel_rfl,by kernel_rfl⟩
def ir75:IR:=.seq (.reg false [.e (some 5) (.bx 66 (.t 2))] [1,5]) <|
 .seq (.reg false [.e (some 8) (.call 68 [(.t 1),(.c (.int .i64 0))]),
.r (some 6) (.mv (.t 8))] [1,5,6]) <|
 .seq (.reg false [.r (some 10) (.fa 1 (.t 5)),
.r (some 11) (.l1 (.t 10)),
.r (some 12) (.bi .add (.t 11) (.c (.int .i64 1))),
.e (some 13) (.call 74 [(.t 1),(.t 12)])] [1,6]) <|
 .reg false [.e (some 16) (.call 67 [(.t 1),(.t 6)])] []
theorem fit75:Fits Tryz.prog 75 3 (hOf Tryz.f75 ir75) ir75 [] 17:=⟨Tryz.f75,_,rfl,rfl,rfl,by decide,by kernel_rfl,by kernel_rfl⟩
def ir76:IR:=.seq (.reg false [.e (some 5) (.bx 66 (.t 2))] [0,1]) <|
 .seq (.reg false [.e (some 9) (.call 68 [(.t 1),(.c (.int .i64 0))]),
.e (some 11) (.call 68 [(.t 1),(.c (.int .i64 1))]),
.e (some 12) (.bs 3 2 #[(.int .i64 0),(.int .i64 0)] [(0,1,(.t 9)),(1,1,(.t 11))]),
.e (some 13) (.call 72 [(.t 0),(.c (.int .i64 3)),(.c (.int .i64 0)),(.t 12)]),
.r (some 6) (.mv (.t 13))] [1,6]) <|
 .seq (.reg false [.e (some 15) (.call 74 [(.t 1),(.c (.int .i64 2))])] [1,6]) <|
 .reg false [.e (some 18) (.call 67 [(.t 1),(.t 6)])] []
theorem fit76:Fits Tryz.prog 76 3 (hOf Tryz.f76 ir76) ir76 [] 19:=⟨Tryz.f76,_,rfl,rfl,rfl,by decide,by kernel_rfl,by kernel_rfl⟩
def ir77:IR:=.seq (.reg false [.e (some 5) (.bx 66 (.t 2))] [0,1,5]) <|
 .seq (.reg false [.r (some 13) (.fa 1 (.t 5)),
.r (some 14) (.l1 (.t 13)),
.e (some 15) (.call 68 [(.t 1),(.t 14)]),
.e (some 16) (.call 95 [(.t 0),(.t 15)]),
.r (some 17) (.ex 0 (.t 16)),
.r (some 18) (.ex 1 (.t 16)),
.e (some 7) (.al 87 (.agg #[(.int .i64 0),(.int .i64 0),(.slice none 0 0)])),
.r (some 6) (.mv (.t 17)),
.e none (.st 3 (.t 7) (.t 18))] [0,1,6]) <|
 .seq (.reg false [.e (some 22) (.call 68 [(.t 1),(.c (.int .i64 0))]),
.e (some 23) (.call 95 [(.t 0),(.t 22)]),
.r (some 24) (.ex 0 (.t 23)),
.r (some 25) (.ex 1 (.t 23)),
.e (some 9) (.al 87 (.agg #[(.int .i64 0),(.int .i64 0),(.slice none 0 0)])),
.r (some 8) (.mv (.t 24)),
.e none (.st 3 (.t 9) (.t 25))] [0,1,6,8]) <|
 .seq (.reg false [.r (some 26) (.mv (.t 0)),
.r (some 27) (.nn (.t 26)),
.r (some 28) (.fa 6 (.t 27)),
.r (some 29) (.l1 (.t 28)),
.r (some 30) (.mv (.t 6)),
.r (some 31) (.mv (.t 8)),
.e (some 32) (.bs 3 1 #[(.int .i64 0)] [(0,1,(.t 31))]),
.r (some 33) (.bd #[(.int .i64 0),(.int .i64 0),(.slice none 0 0)] [(0,1,(.c (.int .i64 5))),(2,1,(.t 32))]),
.e (some 34) (.raw ⟨(some 34),(.call { callee:=(.invoke (.tmp 29) "Set"),args:=#[(.tmp 30),(.tmp 33)],argTypes:=#[3,87]}),35, "run.go:80",#[⟨3,.data⟩,⟨4,.data⟩,⟨7,.data⟩],none⟩)] [1]) <|
 .reg false [.e (some 36) (.call 74 [(.t 1),(.c (.int .i64 1))])] []
theorem fit77:Fits Tryz.prog 77 3 (hOf Tryz.f77 ir77) ir77 [] 37:=⟨Tryz.f77,_,rfl,rfl,rfl,by decide,by kernel_rfl,by kernel_rfl⟩
def ir78:IR:=.seq (.reg false [.e (some 1) (.bx 66 (.t 0))] [1]) <|
 .seq (.reg false [.r (some 3) (.fa 1 (.t 1)),
.r (some 4) (.l1 (.t 3)),
.r (some 2) (.mv (.t 4))] [2]) <|
 .ret
theorem fit78:Fits Tryz.prog 78 1 (hOf Tryz.f78 ir78) ir78 [.t 2] 5:=⟨Tryz.f78,_,rfl,rfl,rfl,by decide,by kernel_rfl,by kernel_rfl⟩
def ir79L1:IR:=.seq (.reg false [.r (some 9) (.bi .lss (.t 8) (.t 7))] [0,1,7,8,9]) <|
 .seq (.cond (.t 9) (.skip) ((.exit 0))) <|
 .seq (.block 1 (.reg false [.e (some 12) (.call 72 [(.t 0),(.c (.int .i64 6)),(.c (.int .i64 0)),(.c (.slice none 0 0))]),
.e (some 13) (.call 67 [(.t 1),(.t 12)])] [0,1,7,8])) <|
 .reg false [.r (some 14) (.bi .add (.t 8) (.c (.int .i64 1))),
.r (some 8) (.mv (.t 14))] [0,1,7,8]
def ir79:IR:=.seq (.reg false [.e (some 5) (.bx 66 (.t 2))] [0,1,5]) <|
 .seq (.reg false [.r (some 6) (.fa 1 (.t 5)),
.r (some 7) (.l1 (.t 6)),
.r (some 8) (.mv (.c (.int .i64 0)))] [0,1,7,8]) <|
 .block 0 (.loop ir79L1)
theorem fit79:Fits Tryz.prog 79 3 (hOf Tryz.f79 ir79) ir79 [] 15:=⟨Tryz.f79,_,rfl,rfl,rfl,by decide,by kernel_rfl,by kernel_rfl⟩
def ir80L1:IR:=.seq (.reg false [.r (some 23) (.bi .lss (.t 22) (.t 21))] [0,1,5,6,21,22,23]) <|
 .seq (.cond (.t 23) (.skip) ((.exit 0))) <|
 .seq (.block 1 (.seq (.reg false [.r (some 7) (.mv (.t 22))] [0,1,5,6,7,21,22]) <|
 .reg false [.e (some 29) (.call 68 [(.t 1),(.t 7)]),
.r (some 30) (.ia 1 (.t 6) (.t 7)),
.e none (.st 1 (.t 30) (.t 29))] [0,1,5,6,21,22])) <|
 .reg false [.r (some 31) (.bi .add (.t 22) (.c (.int .i64 1))),
.r (some 22) (.mv (.t 31))] [0,1,5,6,21,22]
def ir80:IR:=.seq (.reg false [.e (some 5) (.bx 66 (.t 2))] [0,1,5]) <|
 .seq (.reg true [.r (some 9) (.mv (.t 0)),
.r (some 10) (.nn (.t 9)),
.r (some 11) (.fa 0 (.t 10)),
.r (some 12) (.fa 0 (.t 11)),
.r (some 13) (.l1 (.t 12)),
.r (some 14) (.fa 1 (.t 5)),
.r (some 15) (.l1 (.t 14)),
.r (some 16) (.ia 2 (.t 13) (.t 15)),
.r (some 17) (.fa 1 (.t 16)),
.r (some 18) (.l1 (.t 17)),
.e (some 19) (.ms 3 1 8 #[(.int .i64 0)] (.t 18) (.t 18)),
.r (some 6) (.mv (.t 19))] [0,1,5,6]) <|
 .seq (.seq (.reg false [.r (some 21) (.len (.t 6)),
.r (some 22) (.mv (.c (.int .i64 0)))] [0,1,5,6,21,22]) <|
 .block 0 (.loop ir80L1)) <|
 .seq (.reg false [.r (some 33) (.fa 1 (.t 5)),
.r (some 34) (.l1 (.t 33)),
.e (some 36) (.call 72 [(.t 0),(.c (.int .i64 2)),(.t 34),(.t 6)]),
.r (some 8) (.mv (.t 36))] [1,6,8]) <|
 .seq (.reg false [.r (some 39) (.len (.t 6)),
.e (some 40) (.call 74 [(.t 1),(.t 39)])] [1,8]) <|
 .reg false [.e (some 43) (.call 67 [(.t 1),(.t 8)])] []
theorem fit80:Fits Tryz.prog 80 3 (hOf Tryz.f80 ir80) ir80 [] 44:=⟨Tryz.f80,_,rfl,rfl,rfl,by decide,by kernel_rfl,by kernel_rfl⟩
def ir81B1:IR:=.block 1 (.reg false [.r (some 52) (.l1 (.t 4)),
.e (some 54) (.call 67 [(.t 52),(.t 9)])] [])
def ir81:K:=.seq (.ir (.reg false [.e (some 4) (.bx 104 (.t 1)),
.e (some 5) (.bx 66 (.t 2))] [0,4,5])) <|
 .seq (.ir (.reg false [.r (some 12) (.l1 (.t 4)),
.e (some 13) (.call 68 [(.t 12),(.c (.int .i64 0))]),
.e (some 14) (.call 95 [(.t 0),(.t 13)]),
.r (some 15) (.ex 0 (.t 14)),
.r (some 16) (.ex 1 (.t 14)),
.e (some 7) (.al 87 (.agg #[(.int .i64 0),(.int .i64 0),(.slice none 0 0)])),
.e none (.st 3 (.t 7) (.t 16))] [0,4,5,7])) <|
 .seq (.ir (.seq (.reg true [.r (some 17) (.fa 0 (.t 7)),
.r (some 18) (.l1 (.t 17)),
.r (some 19) (.bi .neq (.t 18) (.c (.int .i64 2))),
.r (some 20) (.mv (.t 19)),
.gr 20 false (some 21) (.fa 1 (.t 7)),
.gr 20 false (some 22) (.l1 (.t 21)),
.gr 20 false (some 23) (.fa 1 (.t 5)),
.gr 20 false (some 24) (.l1 (.t 23)),
.gr 20 false (some 25) (.bi .neq (.t 22) (.t 24)),
.r (some 26) (.pk (.t 20) (.c (.bool true)) (.t 25)),
.r (some 27) (.mv (.t 26)),
.gr 27 false (some 28) (.fa 2 (.t 7)),
.gr 27 false (some 29) (.l1 (.t 28)),
.gr 27 false (some 30) (.len (.t 29)),
.gr 27 false (some 31) (.mv (.t 0)),
.gr 27 false (some 32) (.nn (.t 31)),
.gr 27 false (some 33) (.fa 0 (.t 32)),
.gr 27 false (some 34) (.fa 0 (.t 33)),
.gr 27 false (some 35) (.l1 (.t 34)),
.gr 27 false (some 36) (.fa 1 (.t 5)),
.gr 27 false (some 37) (.l1 (.t 36)),
.gr 27 false (some 38) (.ia 2 (.t 35) (.t 37)),
.gr 27 false (some 39) (.fa 1 (.t 38)),
.gr 27 false (some 40) (.l1 (.t 39)),
.gr 27 false (some 41) (.bi .neq (.t 30) (.t 40)),
.r (some 42) (.pk (.t 27) (.c (.bool true)) (.t 41))] [0,4,7,42]) <|
 .cond (.t 42) (.seq (.reg false [.e (some 44) (.call 88 [(.t 0),(.c (.int .i64 5))])] []) <|
 .ret) (.skip))) <|
 .seq (.ir (.reg false [.r (some 45) (.l1 (.t 4)),
.e (some 46) (.call 74 [(.t 45),(.c (.int .i64 1))])] [4,7])) <|
 .seq (.ir (.reg false [.r (some 47) (.fa 2 (.t 7)),
.r (some 48) (.l1 (.t 47)),
.e (some 49) (.call 96 [(.t 48)])] [4,49])) <|
 .blk 0 (.rng 49 50 51 9 ir81B1)
theorem fit81:FitsK Tryz.prog 81 3 [(0,[0,4,5],[]),(1,[0,4,5,7],[]),(2,[0,4,7,42],[0,1,3,7,15,31,15,79,255,511,1023,2047,4095,8191,2047,18431,51199,116735,247807,2047,526335,2082815,4179967,8374271,16777215,33554431]),(3,[],[]),(4,[4,7],[]),(5,[4,49],[]),(7,[],[])] ir81 [] 55:=
 ⟨Tryz.f81,_,rfl,rfl,rfl,by decide,by kernel_rfl,by kernel_rfl⟩
def ir82:IR:=.seq (.reg false [.e (some 5) (.bx 66 (.t 2))] [0,1]) <|
 .seq (.reg false [.e (some 11) (.call 68 [(.t 1),(.c (.int .i64 0))]),
.e (some 12) (.call 95 [(.t 0),(.t 11)]),
.r (some 13) (.ex 0 (.t 12)),
.r (some 14) (.ex 1 (.t 12)),
.e (some 7) (.al 87 (.agg #[(.int .i64 0),(.int .i64 0),(.slice none 0 0)])),
.e none (.st 3 (.t 7) (.t 14))] [0,1,7]) <|
 .seq (.reg false [.r (some 15) (.fa 0 (.t 7)),
.r (some 16) (.l1 (.t 15)),
.r (some 17) (.bi .neq (.t 16) (.c (.int .i64 1))),
.gr 17 true (some 19) (.fa 0 (.t 7)),
.gr 17 true (some 20) (.l1 (.t 19)),
.gr 17 true (some 21) (.bi .neq (.t 20) (.c (.int .i64 2))),
.r (some 22) (.pk (.t 17) (.t 21) (.c (.bool false)))] [0,1,22]) <|
 .cond (.t 22) (.dr (.r 0 none (some 23) (.mv (.t 0)) <|
   .r 1 none (some 24) (.mv (.t 0)) <|
   .r 2 none (some 25) (.nn (.t 24)) <|
   .r 3 none (some 26) (.fa 10 (.t 25)) <|
   .r 4 none (some 27) (.l1 (.t 26)) <|
   .r 5 none (some 28) (.mv (.t 1)) <|
   .e 6 none (some 29) (.call 68 [(.t 28),(.c (.int .i64 0))]) [4] <|
   .r 7 none (some 30) (.bd #[(.bool false),(.int .i64 0),(.int .i64 0),(.slice none 0 0),(.slice none 0 0),(.int .i64 0)] [(5,1,(.t 29))]) <|
   .e 8 none (some 31) (.bx 106 (.t 30)) [4] <|
   .e 9 none (some 32) (.bs 104 1 #[(.pointer none)] [(0,1,(.t 31))]) [4] <|
   .e 10 none (some 33) (.ap 104 1 8 #[(.pointer none)] (.t 27) (.t 32)) [] <|
   .r 11 none (some 34) (.nn (.t 23)) <|
   .r 12 none (some 35) (.fa 10 (.t 34)) <|
   .e 13 none none (.st 1 (.t 35) (.t 33)) [] <|
   .nil) []) (.skip)
theorem fit82:Fits Tryz.prog 82 3 (hOf Tryz.f82 ir82) ir82 [] 36:=⟨Tryz.f82,_,rfl,rfl,rfl,by decide,by kernel_rfl,by kernel_rfl⟩
def ir83:IR:=.seq (.reg false [.e (some 5) (.bx 66 (.t 2))] [0,1,5]) <|
 .seq (.reg false [.e (some 14) (.call 68 [(.t 1),(.c (.int .i64 0))]),
.e (some 15) (.call 95 [(.t 0),(.t 14)]),
.r (some 16) (.ex 0 (.t 15)),
.r (some 17) (.ex 1 (.t 15)),
.e (some 7) (.al 87 (.agg #[(.int .i64 0),(.int .i64 0),(.slice none 0 0)])),
.e none (.st 3 (.t 7) (.t 17))] [0,1,5,7]) <|
 .seq (.reg false [.e (some 21) (.call 68 [(.t 1),(.c (.int .i64 1))]),
.e (some 22) (.call 95 [(.t 0),(.t 21)]),
.r (some 23) (.ex 0 (.t 22)),
.r (some 24) (.ex 1 (.t 22)),
.e (some 9) (.al 87 (.agg #[(.int .i64 0),(.int .i64 0),(.slice none 0 0)])),
.e none (.st 3 (.t 9) (.t 24))] [0,1,5,7,9]) <|
 .seq (.reg false [.r (some 10) (.mv (.c (.int .i64 0)))] [0,1,5,7,9,10]) <|
 .seq (.block 0 (.seq (.reg false [.r (some 28) (.fa 0 (.t 7)),
.r (some 29) (.l1 (.t 28)),
.r (some 30) (.bi .neq (.t 29) (.c (.int .i64 1))),
.gr 30 false (some 32) (.fa 0 (.t 9)),
.gr 30 false (some 33) (.l1 (.t 32)),
.gr 30 false (some 34) (.bi .neq (.t 33) (.c (.int .i64 1))),
.r (some 35) (.pk (.t 30) (.c (.bool true)) (.t 34)),
.r (some 27) (.mv (.t 35))] [0,1,5,7,9,10,27]) <|
 .cond (.t 27) (.reg false [.e (some 37) (.call 88 [(.t 0),(.c (.int .i64 5))])] [0,1,10]) (.seq (.reg false [.r (some 39) (.fa 1 (.t 5)),
.r (some 40) (.l1 (.t 39)),
.r (some 41) (.bi .eql (.t 40) (.c (.int .i64 4))),
.gr 41 false (some 43) (.fa 1 (.t 5)),
.gr 41 false (some 44) (.l1 (.t 43)),
.gr 41 false (some 45) (.bi .eql (.t 44) (.c (.int .i64 5))),
.r (some 46) (.pk (.t 41) (.c (.bool true)) (.t 45)),
.gr 46 true (some 48) (.fa 1 (.t 9)),
.gr 46 true (some 49) (.l1 (.t 48)),
.gr 46 true (some 50) (.bi .eql (.t 49) (.c (.int .i64 0))),
.r (some 51) (.pk (.t 46) (.t 50) (.c (.bool false))),
.r (some 38) (.mv (.t 51))] [0,1,5,7,9,10,38]) <|
 .cond (.t 38) (.reg false [.e (some 53) (.call 88 [(.t 0),(.c (.int .i64 3))])] [0,1,10]) (.seq (.reg false [.r (some 55) (.fa 1 (.t 5)),
.r (some 56) (.l1 (.t 55)),
.r (some 57) (.bi .eql (.t 56) (.c (.int .i64 1))),
.r (some 54) (.mv (.t 57))] [0,1,5,7,9,54]) <|
 .cond (.t 54) (.reg false [.r (some 59) (.fa 1 (.t 7)),
.r (some 60) (.l1 (.t 59)),
.r (some 61) (.fa 1 (.t 9)),
.r (some 62) (.l1 (.t 61)),
.r (some 63) (.bi .add (.t 60) (.t 62)),
.e (some 64) (.call 114 [(.t 63)]),
.e (some 65) (.call 72 [(.t 0),(.c (.int .i64 1)),(.t 64),(.c (.slice none 0 0))]),
.r (some 10) (.mv (.t 65))] [0,1,10]) (.seq (.reg false [.r (some 67) (.fa 1 (.t 5)),
.r (some 68) (.l1 (.t 67)),
.r (some 69) (.bi .eql (.t 68) (.c (.int .i64 2))),
.r (some 66) (.mv (.t 69))] [0,1,5,7,9,66]) <|
 .cond (.t 66) (.reg false [.r (some 71) (.fa 1 (.t 7)),
.r (some 72) (.l1 (.t 71)),
.r (some 73) (.fa 1 (.t 9)),
.r (some 74) (.l1 (.t 73)),
.r (some 75) (.bi .sub (.t 72) (.t 74)),
.e (some 76) (.call 114 [(.t 75)]),
.e (some 77) (.call 72 [(.t 0),(.c (.int .i64 1)),(.t 76),(.c (.slice none 0 0))]),
.r (some 10) (.mv (.t 77))] [0,1,10]) (.seq (.reg false [.r (some 79) (.fa 1 (.t 5)),
.r (some 80) (.l1 (.t 79)),
.r (some 81) (.bi .eql (.t 80) (.c (.int .i64 3))),
.r (some 78) (.mv (.t 81))] [0,1,5,7,9,78]) <|
 .cond (.t 78) (.reg false [.r (some 83) (.fa 1 (.t 7)),
.r (some 84) (.l1 (.t 83)),
.r (some 85) (.fa 1 (.t 9)),
.r (some 86) (.l1 (.t 85)),
.r (some 87) (.bi .mul (.t 84) (.t 86)),
.e (some 88) (.call 114 [(.t 87)]),
.e (some 89) (.call 72 [(.t 0),(.c (.int .i64 1)),(.t 88),(.c (.slice none 0 0))]),
.r (some 10) (.mv (.t 89))] [0,1,10]) (.seq (.reg false [.r (some 91) (.fa 1 (.t 5)),
.r (some 92) (.l1 (.t 91)),
.r (some 93) (.bi .eql (.t 92) (.c (.int .i64 4))),
.r (some 90) (.mv (.t 93))] [0,1,5,7,9,90]) <|
 .cond (.t 90) (.reg false [.r (some 95) (.fa 1 (.t 7)),
.r (some 96) (.l1 (.t 95)),
.r (some 97) (.fa 1 (.t 9)),
.r (some 98) (.l1 (.t 97)),
.r (some 99) (.bi .quo (.t 96) (.t 98)),
.e (some 100) (.call 114 [(.t 99)]),
.e (some 101) (.call 72 [(.t 0),(.c (.int .i64 1)),(.t 100),(.c (.slice none 0 0))]),
.r (some 10) (.mv (.t 101))] [0,1,10]) (.seq (.reg false [.r (some 103) (.fa 1 (.t 5)),
.r (some 104) (.l1 (.t 103)),
.r (some 105) (.bi .eql (.t 104) (.c (.int .i64 5))),
.r (some 102) (.mv (.t 105))] [0,1,5,7,9,102]) <|
 .cond (.t 102) (.reg false [.r (some 107) (.fa 1 (.t 7)),
.r (some 108) (.l1 (.t 107)),
.r (some 109) (.fa 1 (.t 9)),
.r (some 110) (.l1 (.t 109)),
.r (some 111) (.bi .rem (.t 108) (.t 110)),
.e (some 112) (.call 114 [(.t 111)]),
.e (some 113) (.call 72 [(.t 0),(.c (.int .i64 1)),(.t 112),(.c (.slice none 0 0))]),
.r (some 10) (.mv (.t 113))] [0,1,10]) (.seq (.reg false [.r (some 115) (.fa 1 (.t 5)),
.r (some 116) (.l1 (.t 115)),
.r (some 117) (.fa 1 (.t 7)),
.r (some 118) (.l1 (.t 117)),
.r (some 119) (.fa 1 (.t 9)),
.r (some 120) (.l1 (.t 119)),
.e (some 121) (.call 115 [(.t 116),(.t 118),(.t 120)]),
.r (some 114) (.mv (.t 121))] [0,1,114]) <|
 .cond (.t 114) (.reg false [.e (some 123) (.call 72 [(.t 0),(.c (.int .i64 2)),(.c (.int .i64 1)),(.c (.slice none 0 0))]),
.r (some 10) (.mv (.t 123))] [0,1,10]) (.reg false [.e (some 26) (.call 72 [(.t 0),(.c (.int .i64 2)),(.c (.int .i64 0)),(.c (.slice none 0 0))]),
.r (some 10) (.mv (.t 26))] [0,1,10])))))))))) <|
 .seq (.reg false [.r (some 125) (.nn (.t 0)),
.r (some 126) (.fa 15 (.t 125)),
.r (some 127) (.l1 (.t 126)),
.r (some 128) (.bi .eql (.t 127) (.c (.int .i64 0)))] [1,10,128]) <|
 .cond (.t 128) (.seq (.reg false [.e (some 130) (.call 74 [(.t 1),(.c (.int .i64 2))])] [1,10]) <|
 .reg false [.e (some 133) (.call 67 [(.t 1),(.t 10)])] []) (.skip)
theorem fit83:Fits Tryz.prog 83 3 (hOf Tryz.f83 ir83) ir83 [] 134:=⟨Tryz.f83,_,rfl,rfl,rfl,by decide,by kernel_rfl,by kernel_rfl⟩
def ir84:IR:=.seq (.reg false [.e (some 5) (.bx 66 (.t 2))] [1,5]) <|
 .reg false [.r (some 7) (.fa 1 (.t 5)),
.r (some 8) (.l1 (.t 7)),
.r (some 9) (.nn (.t 1)),
.r (some 10) (.fa 2 (.t 9)),
.e none (.st 1 (.t 10) (.t 8))] []
theorem fit84:Fits Tryz.prog 84 3 (hOf Tryz.f84 ir84) ir84 [] 11:=⟨Tryz.f84,_,rfl,rfl,rfl,by decide,by kernel_rfl,by kernel_rfl⟩
def ir85:IR:=.seq (.reg false [.e (some 5) (.bx 66 (.t 2))] [0,1,5]) <|
 .seq (.reg false [.e (some 11) (.call 68 [(.t 1),(.c (.int .i64 0))]),
.e (some 12) (.call 95 [(.t 0),(.t 11)]),
.r (some 13) (.ex 0 (.t 12)),
.r (some 14) (.ex 1 (.t 12)),
.e (some 7) (.al 87 (.agg #[(.int .i64 0),(.int .i64 0),(.slice none 0 0)])),
.e none (.st 3 (.t 7) (.t 14))] [0,1,5,7]) <|
 .block 0 (.seq (.reg false [.r (some 16) (.fa 0 (.t 7)),
.r (some 17) (.l1 (.t 16)),
.r (some 18) (.bi .neq (.t 17) (.c (.int .i64 2))),
.r (some 15) (.mv (.t 18))] [0,1,5,7,15]) <|
 .cond (.t 15) (.reg false [.e (some 20) (.call 88 [(.t 0),(.c (.int .i64 5))])] []) (.seq (.reg false [.r (some 22) (.fa 1 (.t 7)),
.r (some 23) (.l1 (.t 22)),
.r (some 24) (.fa 1 (.t 5)),
.r (some 25) (.l1 (.t 24)),
.r (some 26) (.bi .neq (.t 23) (.t 25)),
.r (some 21) (.mv (.t 26))] [1,5,21]) <|
 .cond (.t 21) (.reg false [.r (some 28) (.fa 2 (.t 5)),
.r (some 29) (.l1 (.t 28)),
.r (some 30) (.nn (.t 1)),
.r (some 31) (.fa 2 (.t 30)),
.e none (.st 1 (.t 31) (.t 29))] []) (.skip)))
theorem fit85:Fits Tryz.prog 85 3 (hOf Tryz.f85 ir85) ir85 [] 32:=⟨Tryz.f85,_,rfl,rfl,rfl,by decide,by kernel_rfl,by kernel_rfl⟩
def ir86:IR:=.seq (.reg false [.e (some 5) (.bx 66 (.t 2))] [0,1,5]) <|
 .seq (.reg false [.e (some 11) (.call 68 [(.t 1),(.c (.int .i64 0))]),
.e (some 12) (.call 95 [(.t 0),(.t 11)]),
.r (some 13) (.ex 0 (.t 12)),
.r (some 14) (.ex 1 (.t 12)),
.e (some 7) (.al 87 (.agg #[(.int .i64 0),(.int .i64 0),(.slice none 0 0)])),
.e none (.st 3 (.t 7) (.t 14))] [0,1,5,7]) <|
 .block 0 (.seq (.reg false [.r (some 16) (.fa 0 (.t 7)),
.r (some 17) (.l1 (.t 16)),
.r (some 18) (.bi .neq (.t 17) (.c (.int .i64 1))),
.r (some 15) (.mv (.t 18))] [0,1,5,7,15]) <|
 .cond (.t 15) (.reg false [.e (some 20) (.call 88 [(.t 0),(.c (.int .i64 5))])] []) (.seq (.reg false [.r (some 22) (.fa 1 (.t 7)),
.r (some 23) (.l1 (.t 22)),
.r (some 24) (.fa 1 (.t 5)),
.r (some 25) (.l1 (.t 24)),
.r (some 26) (.bi .neq (.t 23) (.t 25)),
.r (some 21) (.mv (.t 26))] [1,5,21]) <|
 .cond (.t 21) (.reg false [.r (some 28) (.fa 2 (.t 5)),
.r (some 29) (.l1 (.t 28)),
.r (some 30) (.nn (.t 1)),
.r (some 31) (.fa 2 (.t 30)),
.e none (.st 1 (.t 31) (.t 29))] []) (.skip)))
theorem fit86:Fits Tryz.prog 86 3 (hOf Tryz.f86 ir86) ir86 [] 32:=⟨Tryz.f86,_,rfl,rfl,rfl,by decide,by kernel_rfl,by kernel_rfl⟩
def ir87:IR:=.seq (.reg false [.e (some 5) (.bx 66 (.t 2))] [0,5]) <|
 .reg false [.r (some 7) (.fa 1 (.t 5)),
.r (some 8) (.l1 (.t 7)),
.e (some 9) (.call 88 [(.t 0),(.t 8)])] []
theorem fit87:Fits Tryz.prog 87 3 (hOf Tryz.f87 ir87) ir87 [] 10:=⟨Tryz.f87,_,rfl,rfl,rfl,by decide,by kernel_rfl,by kernel_rfl⟩
def ir88:IR:=.reg false [.r (some 7) (.nn (.t 0)),
.r (some 8) (.fa 15 (.t 7)),
.e none (.st 1 (.t 8) (.c (.int .i64 3))),
.r (some 9) (.nn (.t 0)),
.r (some 10) (.fa 16 (.t 9)),
.e none (.st 1 (.t 10) (.t 1))] []
theorem fit88:Fits Tryz.prog 88 2 (hOf Tryz.f88 ir88) ir88 [] 11:=⟨Tryz.f88,_,rfl,rfl,rfl,by decide,by kernel_rfl,by kernel_rfl⟩
def ir89:IR:=.seq (.reg false [.e (some 5) (.bx 66 (.t 2))] [1]) <|
 .reg false [.r (some 10) (.nn (.t 1)),
.r (some 11) (.fa 3 (.t 10)),
.r (some 12) (.l1 (.t 11)),
.r (some 13) (.ia 1 (.t 12) (.c (.int .i64 0))),
.r (some 14) (.l1 (.t 13)),
.r (some 15) (.nn (.t 1)),
.r (some 16) (.fa 0 (.t 15)),
.e none (.st 1 (.t 16) (.c (.bool false))),
.r (some 17) (.nn (.t 1)),
.r (some 18) (.fa 5 (.t 17)),
.e none (.st 1 (.t 18) (.t 14)),
.r (some 19) (.nn (.t 1)),
.r (some 20) (.fa 3 (.t 19)),
.e none (.st 1 (.t 20) (.c (.slice none 0 0)))] []
theorem fit89:Fits Tryz.prog 89 3 (hOf Tryz.f89 ir89) ir89 [] 21:=⟨Tryz.f89,_,rfl,rfl,rfl,by decide,by kernel_rfl,by kernel_rfl⟩
def ir95L1:IR:=.seq (.seq (.reg false [.r (some 17) (.fa 0 (.t 6)),
.r (some 18) (.l1 (.t 17)),
.r (some 19) (.bi .eql (.t 18) (.c (.int .i64 5))),
.gr 19 true (some 21) (.fa 2 (.t 6)),
.gr 19 true (some 22) (.l1 (.t 21)),
.gr 19 true (some 23) (.ia 1 (.t 22) (.c (.int .i64 0))),
.gr 19 true (some 24) (.l1 (.t 23)),
.gr 19 true (some 25) (.mv (.t 1)),
.gr 19 true (some 26) (.bi .neq (.t 24) (.t 25)),
.r (some 27) (.pk (.t 19) (.t 26) (.c (.bool false)))] [0,1,5,6,27]) <|
 .cond (.t 27) (.skip) ((.exit 0))) <|
 .block 1 (.seq (.reg false [.r (some 28) (.fa 2 (.t 6)),
.r (some 29) (.l1 (.t 28)),
.r (some 30) (.ia 1 (.t 29) (.c (.int .i64 0))),
.r (some 31) (.l1 (.t 30)),
.r (some 1) (.mv (.t 31))] [0,1,5,6]) <|
 .reg false [.r (some 33) (.mv (.t 0)),
.r (some 34) (.nn (.t 33)),
.r (some 35) (.fa 6 (.t 34)),
.r (some 36) (.l1 (.t 35)),
.r (some 37) (.mv (.t 1)),
.e (some 38) (.raw ⟨(some 38),(.call { callee:=(.invoke (.tmp 36) "Get"),args:=#[(.tmp 37)],argTypes:=#[3]}),173, "machine.go:159",#[⟨3,.data⟩,⟨4,.data⟩],none⟩),
.r (some 32) (.mv (.t 38)),
.r (some 39) (.ex 0 (.t 32)),
.r (some 40) (.ex 1 (.t 32)),
.e none (.st 3 (.t 6) (.t 39))] [0,1,5,6])
def ir95:IR:=.seq (.reg false [.e (some 5) (.al 87 (.agg #[(.int .i64 0),(.int .i64 0),(.slice none 0 0)]))] [0,1,5]) <|
 .seq (.reg false [.r (some 9) (.mv (.t 0)),
.r (some 10) (.nn (.t 9)),
.r (some 11) (.fa 6 (.t 10)),
.r (some 12) (.l1 (.t 11)),
.r (some 13) (.mv (.t 1)),
.e (some 14) (.raw ⟨(some 14),(.call { callee:=(.invoke (.tmp 12) "Get"),args:=#[(.tmp 13)],argTypes:=#[3]}),173, "machine.go:156",#[⟨3,.data⟩,⟨4,.data⟩],none⟩),
.r (some 8) (.mv (.t 14)),
.r (some 15) (.ex 0 (.t 8)),
.r (some 16) (.ex 1 (.t 8)),
.e (some 6) (.al 87 (.agg #[(.int .i64 0),(.int .i64 0),(.slice none 0 0)])),
.e none (.st 3 (.t 6) (.t 15)),
.r (some 7) (.mv (.t 16))] [0,1,5,6]) <|
 .seq (.block 0 (.loop ir95L1)) <|
 .seq (.reg true [.r (some 41) (.mv (.t 1)),
.r (some 42) (.ln 3 (.t 6)),
.r (some 4) (.mv (.t 41)),
.e none (.st 3 (.t 5) (.t 42))] [4,5]) <|
 .ret
theorem fit95:Fits Tryz.prog 95 2 (hOf Tryz.f95 ir95) ir95 [.t 4,.n 5 3] 43:=⟨Tryz.f95,_,rfl,rfl,rfl,by decide,by kernel_rfl,by kernel_rfl⟩
def ir96:IR:=.seq (.reg false [.e (some 1) (.bx 26 (.t 0))] [1]) <|
 .seq (.reg false [.r (some 3) (.mf (.func 129) [] [(.t 1)]),
.r (some 2) (.mv (.t 3))] [2]) <|
 .ret
theorem fit96:Fits Tryz.prog 96 1 (hOf Tryz.f96 ir96) ir96 [.t 2] 4:=⟨Tryz.f96,_,rfl,rfl,rfl,by decide,by kernel_rfl,by kernel_rfl⟩
def ir97:IR:=.seq (.reg false [] [0,1]) <|
 .seq (.reg false [.r (some 8) (.mv (.t 0)),
.r (some 9) (.nn (.t 8)),
.r (some 10) (.fa 6 (.t 9)),
.r (some 11) (.l1 (.t 10)),
.e (some 12) (.raw ⟨(some 12),(.call { callee:=(.invoke (.tmp 11) "Used"),args:=#[],argTypes:=#[]}),3, "machine.go:139",#[⟨3,.data⟩],none⟩),
.r (some 5) (.mv (.t 12))] [0,1,5]) <|
 .seq (.seq (.reg true [.r (some 13) (.mv (.t 1)),
.r (some 14) (.mv (.t 0)),
.r (some 15) (.nn (.t 14)),
.r (some 16) (.fa 3 (.t 15)),
.r (some 17) (.fa 0 (.t 16)),
.r (some 18) (.l1 (.t 17)),
.r (some 19) (.mv (.t 5)),
.r (some 20) (.bi .sub (.t 18) (.t 19)),
.r (some 21) (.bi .leq (.t 13) (.t 20)),
.r (some 22) (.mv (.t 21)),
.gr 22 true (some 23) (.mv (.t 0)),
.gr 22 true (some 24) (.nn (.t 23)),
.gr 22 true (some 25) (.fa 3 (.t 24)),
.gr 22 true (some 26) (.fa 1 (.t 25)),
.gr 22 true (some 27) (.l1 (.t 26)),
.gr 22 true (some 28) (.no (.t 27)),
.gr 22 true (some 29) (.mv (.t 28)),
.gr 29 false (some 30) (.mv (.t 5)),
.gr 29 false (some 31) (.mv (.t 0)),
.gr 29 false (some 32) (.nn (.t 31)),
.gr 29 false (some 33) (.fa 8 (.t 32)),
.gr 29 false (some 34) (.l1 (.t 33)),
.gr 29 false (some 35) (.bi .sub (.t 30) (.t 34)),
.gr 29 false (some 36) (.mv (.t 1)),
.gr 29 false (some 37) (.bi .add (.t 35) (.t 36)),
.gr 29 false (some 38) (.mv (.t 0)),
.gr 29 false (some 39) (.nn (.t 38)),
.gr 29 false (some 40) (.fa 7 (.t 39)),
.gr 29 false (some 41) (.l1 (.t 40)),
.gr 29 false (some 42) (.bi .leq (.t 37) (.t 41)),
.gr 22 true (some 43) (.pk (.t 29) (.c (.bool true)) (.t 42)),
.r (some 44) (.pk (.t 22) (.t 43) (.c (.bool false)))] [0,1,44]) <|
 .cond (.t 44) (.seq (.reg false [.r (some 4) (.mv (.c (.bool true)))] [4]) <|
 .ret) (.skip)) <|
 .seq (.dr (.r 0 none (some 46) (.mv (.t 0)) <|
   .r 1 none (some 47) (.nn (.t 46)) <|
   .r 2 none (some 48) (.fa 6 (.t 47)) <|
   .r 3 none (some 49) (.l1 (.t 48)) <|
   .r 4 none (some 50) (.mv (.t 1)) <|
   .r 5 none (some 51) (.mv (.t 0)) <|
   .r 7 none (some 53) (.nn (.t 49)) <|
   .r 8 none (some 54) (.mv (.t 49)) <|
   .e 6 none (some 52) (.call 47 [(.t 51)]) [3] <|
   .e 9 none (some 55) (.raw ⟨(some 55),(.call { callee:=(.invoke (.tmp 54) "Room"),args:=#[(.tmp 50),(.tmp 52)],argTypes:=#[3,26]}),109, "machine.go:143",#[⟨8,.data⟩,⟨4,.data⟩,⟨6,.data⟩,⟨6,.chain⟩],none⟩) [] <|
   .r 10 none (some 45) (.mv (.t 55)) <|
   .r 11 none (some 56) (.ex 0 (.t 45)) <|
   .r 12 none (some 57) (.ex 1 (.t 45)) <|
   .r 13 none (some 6) (.mv (.t 56)) <|
   .r 14 none (some 7) (.mv (.t 57)) <|
   .nil) [0,6,7]) <|
 .seq (.seq (.reg false [.r (some 59) (.bi .neq (.t 7) (.c (.int .i64 0)))] [0,6,59]) <|
 .cond (.t 59) (.seq (.reg false [.r (some 60) (.mv (.t 0)),
.r (some 61) (.mv (.t 0)),
.r (some 62) (.nn (.t 61)),
.r (some 63) (.fa 6 (.t 62)),
.r (some 64) (.l1 (.t 63)),
.e (some 65) (.raw ⟨(some 65),(.call { callee:=(.invoke (.tmp 64) "Used"),args:=#[],argTypes:=#[]}),3, "machine.go:145",#[⟨4,.data⟩],none⟩),
.r (some 66) (.nn (.t 60)),
.r (some 67) (.fa 17 (.t 66)),
.e none (.st 1 (.t 67) (.t 65))] [0]) <|
 .seq (.reg false [.r (some 69) (.nn (.t 0)),
.r (some 70) (.fa 15 (.t 69)),
.e none (.st 1 (.t 70) (.c (.int .i64 5)))] []) <|
 .seq (.reg false [.r (some 4) (.mv (.c (.bool false)))] [4]) <|
 .ret) (.skip)) <|
 .seq (.reg false [.e (some 73) (.call 48 [(.t 0),(.t 6)])] [0]) <|
 .seq (.reg false [.r (some 74) (.mv (.t 0)),
.r (some 75) (.mv (.t 0)),
.r (some 76) (.nn (.t 75)),
.r (some 77) (.fa 6 (.t 76)),
.r (some 78) (.l1 (.t 77)),
.e (some 79) (.raw ⟨(some 79),(.call { callee:=(.invoke (.tmp 78) "Used"),args:=#[],argTypes:=#[]}),3, "machine.go:150",#[⟨4,.data⟩],none⟩),
.r (some 80) (.nn (.t 74)),
.r (some 81) (.fa 8 (.t 80)),
.e none (.st 1 (.t 81) (.t 79))] []) <|
 .seq (.reg false [.r (some 4) (.mv (.c (.bool true)))] [4]) <|
 .ret
theorem fit97:Fits Tryz.prog 97 2 (hOf Tryz.f97 ir97) ir97 [.t 4] 82:=⟨Tryz.f97,_,rfl,rfl,rfl,by decide,by kernel_rfl,by kernel_rfl⟩
def ir98L1:IR:=.seq (.reg false [.r (some 41) (.bi .lss (.t 40) (.t 39))] [0,1,3,8,10,38,39,40,41]) <|
 .seq (.cond (.t 41) (.skip) ((.exit 0))) <|
 .seq (.block 1 (.seq (.reg false [.r (some 43) (.ia 1 (.t 38) (.t 40)),
.r (some 44) (.l1 (.t 43)),
.r (some 11) (.mv (.t 40)),
.r (some 12) (.mv (.t 44))] [0,1,3,8,10,11,12,38,39,40]) <|
 .seq (.reg false [.e (some 48) (.call 95 [(.t 0),(.t 12)]),
.r (some 49) (.ex 0 (.t 48)),
.r (some 50) (.ex 1 (.t 48)),
.e (some 14) (.al 87 (.agg #[(.int .i64 0),(.int .i64 0),(.slice none 0 0)])),
.r (some 13) (.mv (.t 49)),
.e none (.st 3 (.t 14) (.t 50))] [0,1,3,8,10,11,13,14,38,39,40]) <|
 .seq (.seq (.reg false [.r (some 51) (.fa 0 (.t 14)),
.r (some 52) (.l1 (.t 51)),
.r (some 53) (.bi .neq (.t 52) (.c (.int .i64 3)))] [0,1,3,8,10,11,13,14,38,39,40,53]) <|
 .cond (.t 53) (.seq (.reg false [.e (some 55) (.call 88 [(.t 0),(.c (.int .i64 5))])] []) <|
 .ret) (.skip)) <|
 .seq (.seq (.reg false [.r (some 57) (.bi .eql (.t 11) (.c (.int .i64 0)))] [0,1,3,8,10,13,14,38,39,40,57]) <|
 .cond (.t 57) (.reg false [.r (some 60) (.ia 1 (.t 10) (.c (.int .i64 0))),
.e none (.st 1 (.t 60) (.t 13))] [0,1,3,8,10,14,38,39,40]) (.skip)) <|
 .reg false [.r (some 62) (.fa 2 (.t 14)),
.r (some 63) (.l1 (.t 62)),
.r (some 64) (.ia 1 (.t 63) (.c (.int .i64 1))),
.r (some 65) (.l1 (.t 64)),
.e (some 66) (.bs 3 1 #[(.int .i64 0)] [(0,1,(.t 65))]),
.e (some 67) (.ap 3 1 8 #[(.int .i64 0)] (.t 10) (.t 66)),
.r (some 10) (.mv (.t 67))] [0,1,3,8,10,38,39,40])) <|
 .reg false [.r (some 68) (.bi .add (.t 40) (.c (.int .i64 1))),
.r (some 40) (.mv (.t 68))] [0,1,3,8,10,38,39,40]
def ir98:IR:=.seq (.reg false [.r (some 16) (.nn (.t 0)),
.r (some 17) (.fa 0 (.t 16)),
.r (some 18) (.fa 1 (.t 17)),
.r (some 19) (.l1 (.t 18)),
.r (some 21) (.ia 3 (.t 19) (.t 3)),
.r (some 22) (.fa 1 (.t 21)),
.r (some 23) (.l1 (.t 22)),
.r (some 8) (.mv (.t 23))] [0,1,2,3,8]) <|
 .seq (.reg true [.r (some 24) (.mv (.t 1)),
.r (some 25) (.nn (.t 24)),
.r (some 26) (.fa 4 (.t 25)),
.r (some 27) (.l1 (.t 26)),
.r (some 28) (.mv (.t 1)),
.r (some 29) (.nn (.t 28)),
.r (some 30) (.fa 4 (.t 29)),
.r (some 31) (.l1 (.t 30)),
.r (some 32) (.len (.t 31)),
.r (some 33) (.mv (.t 8)),
.r (some 34) (.bi .sub (.t 32) (.t 33)),
.r (some 35) (.sl 1 (.t 27) (some (.t 34)) none none),
.r (some 9) (.mv (.t 35))] [0,1,2,3,8,9]) <|
 .seq (.reg false [.e (some 37) (.bs 3 1 #[(.int .i64 0)] [(0,1,(.t 2))]),
.r (some 10) (.mv (.t 37))] [0,1,3,8,9,10]) <|
 .seq (.seq (.reg false [.r (some 38) (.mv (.t 9)),
.r (some 39) (.len (.t 38)),
.r (some 40) (.mv (.c (.int .i64 0)))] [0,1,3,8,10,38,39,40]) <|
 .block 0 (.loop ir98L1)) <|
 .seq (.reg true [.r (some 69) (.mv (.t 0)),
.r (some 70) (.nn (.t 69)),
.r (some 71) (.fa 6 (.t 70)),
.r (some 72) (.l1 (.t 71)),
.r (some 73) (.mv (.t 10)),
.r (some 74) (.ia 1 (.t 73) (.c (.int .i64 0))),
.r (some 75) (.l1 (.t 74)),
.r (some 76) (.bd #[(.int .i64 0),(.int .i64 0),(.slice none 0 0)] [(0,1,(.c (.int .i64 7)))]),
.r (some 77) (.nn (.t 72)),
.r (some 78) (.mv (.t 72)),
.e (some 79) (.raw ⟨(some 79),(.call { callee:=(.invoke (.tmp 78) "Set"),args:=#[(.tmp 75),(.tmp 76)],argTypes:=#[3,87]}),35, "machine.go:279",#[⟨9,.data⟩,⟨6,.data⟩,⟨7,.data⟩],none⟩)] [1,3,8,10]) <|
 .seq (.reg true [.r (some 80) (.mv (.t 1)),
.r (some 81) (.mv (.t 1)),
.r (some 82) (.nn (.t 81)),
.r (some 83) (.fa 4 (.t 82)),
.r (some 84) (.l1 (.t 83)),
.r (some 85) (.mv (.t 1)),
.r (some 86) (.nn (.t 85)),
.r (some 87) (.fa 4 (.t 86)),
.r (some 88) (.l1 (.t 87)),
.r (some 89) (.len (.t 88)),
.r (some 90) (.mv (.t 8)),
.r (some 91) (.bi .sub (.t 89) (.t 90)),
.r (some 92) (.sl 1 (.t 84) none (some (.t 91)) none),
.r (some 93) (.nn (.t 80)),
.r (some 94) (.fa 4 (.t 93)),
.e none (.st 1 (.t 94) (.t 92))] [1,3,10]) <|
 .reg false [.r (some 101) (.nn (.t 1)),
.r (some 102) (.fa 0 (.t 101)),
.e none (.st 1 (.t 102) (.c (.bool true))),
.r (some 103) (.nn (.t 1)),
.r (some 104) (.fa 1 (.t 103)),
.e none (.st 1 (.t 104) (.t 3)),
.r (some 105) (.nn (.t 1)),
.r (some 106) (.fa 2 (.t 105)),
.e none (.st 1 (.t 106) (.c (.int .i64 0))),
.r (some 107) (.nn (.t 1)),
.r (some 108) (.fa 3 (.t 107)),
.e none (.st 1 (.t 108) (.t 10))] []
theorem fit98:Fits Tryz.prog 98 4 (hOf Tryz.f98 ir98) ir98 [] 109:=⟨Tryz.f98,_,rfl,rfl,rfl,by decide,by kernel_rfl,by kernel_rfl⟩
def ir99:IR:=.block 0 (.seq (.reg false [.r (some 8) (.nn (.t 0)),
.r (some 9) (.fa 10 (.t 8)),
.r (some 10) (.l1 (.t 9)),
.r (some 11) (.len (.t 10)),
.r (some 12) (.bi .gtr (.t 11) (.c (.int .i64 1))),
.r (some 6) (.mv (.t 12))] [0,1,6]) <|
 .cond (.t 6) (.reg false [.e (some 14) (.call 100 [(.t 0)])] []) (.seq (.reg false [.r (some 17) (.nn (.t 0)),
.r (some 18) (.fa 12 (.t 17)),
.r (some 19) (.l1 (.t 18)),
.gr 19 false (some 21) (.mv (.t 0)),
.gr 19 false (some 22) (.nn (.t 21)),
.gr 19 false (some 23) (.fa 13 (.t 22)),
.gr 19 false (some 24) (.l1 (.t 23)),
.gr 19 false (some 25) (.len (.t 24)),
.gr 19 false (some 26) (.bi .gtr (.t 25) (.c (.int .i64 0))),
.r (some 27) (.pk (.t 19) (.c (.bool true)) (.t 26)),
.r (some 15) (.mv (.t 27))] [0,1,15]) <|
 .cond (.t 15) (.reg false [.e (some 29) (.call 88 [(.t 0),(.c (.int .i64 5))])] []) (.seq (.reg false [.e (some 32) (.call 97 [(.t 0),(.c (.int .i64 2))]),
.r (some 30) (.mv (.t 32))] [0,1,30]) <|
 .cond (.t 30) (.seq (.reg false [.r (some 34) (.nn (.t 0)),
.r (some 35) (.fa 12 (.t 34)),
.e none (.st 1 (.t 35) (.c (.bool true)))] [0,1]) <|
 .seq (.reg false [.r (some 37) (.nn (.t 0)),
.r (some 38) (.fa 11 (.t 37)),
.r (some 39) (.l1 (.t 38)),
.r (some 40) (.len (.t 39)),
.r (some 41) (.bi .sub (.t 40) (.c (.int .i64 1))),
.r (some 4) (.mv (.t 41))] [0,1,4]) <|
 .seq (.reg false [.e (some 43) (.call 72 [(.t 0),(.c (.int .i64 8)),(.c (.int .i64 0)),(.c (.slice none 0 0))]),
.r (some 5) (.mv (.t 43))] [0,1,4,5]) <|
 .seq (.dr (.r 0 none (some 44) (.mv (.t 0)) <|
   .r 1 none (some 45) (.nn (.t 44)) <|
   .r 2 none (some 46) (.fa 11 (.t 45)) <|
   .r 3 none (some 47) (.l1 (.t 46)) <|
   .r 4 none (some 48) (.mv (.t 4)) <|
   .r 5 none (some 49) (.mv (.t 0)) <|
   .r 6 none (some 50) (.mv (.t 0)) <|
   .r 7 none (some 51) (.nn (.t 50)) <|
   .r 8 none (some 52) (.fa 11 (.t 51)) <|
   .r 9 none (some 53) (.l1 (.t 52)) <|
   .r 10 none (some 54) (.mv (.t 4)) <|
   .r 11 none (some 55) (.ia 1 (.t 53) (.t 54)) <|
   .r 12 none (some 56) (.l1 (.t 55)) <|
   .r 13 none (some 57) (.mv (.t 5)) <|
   .e 14 none (some 58) (.bs 3 2 #[(.int .i64 0),(.int .i64 0)] [(0,1,(.t 56)),(1,1,(.t 57))]) [3] <|
   .e 15 none (some 59) (.call 72 [(.t 49),(.c (.int .i64 3)),(.c (.int .i64 0)),(.t 58)]) [3] <|
   .r 16 none (some 60) (.ia 1 (.t 47) (.t 48)) <|
   .e 17 none none (.st 1 (.t 60) (.t 59)) [] <|
   .nil) [0,1,4]) <|
 .reg false [.r (some 64) (.nn (.t 0)),
.r (some 65) (.fa 11 (.t 64)),
.r (some 66) (.l1 (.t 65)),
.r (some 68) (.ia 1 (.t 66) (.t 4)),
.r (some 69) (.l1 (.t 68)),
.r (some 70) (.nn (.t 1)),
.r (some 71) (.fa 5 (.t 70)),
.e none (.st 1 (.t 71) (.t 69)),
.r (some 72) (.nn (.t 1)),
.r (some 73) (.fa 4 (.t 72)),
.e none (.st 1 (.t 73) (.c (.slice none 0 0)))] []) (.skip))))
theorem fit99:Fits Tryz.prog 99 2 (hOf Tryz.f99 ir99) ir99 [] 74:=⟨Tryz.f99,_,rfl,rfl,rfl,by decide,by kernel_rfl,by kernel_rfl⟩
def ir100:IR:=.reg true [.r (some 2) (.mv (.t 0)),
.r (some 3) (.mv (.t 0)),
.r (some 4) (.nn (.t 3)),
.r (some 5) (.fa 10 (.t 4)),
.r (some 6) (.l1 (.t 5)),
.r (some 7) (.mv (.t 0)),
.r (some 8) (.nn (.t 7)),
.r (some 9) (.fa 10 (.t 8)),
.r (some 10) (.l1 (.t 9)),
.r (some 11) (.len (.t 10)),
.r (some 12) (.bi .sub (.t 11) (.c (.int .i64 1))),
.r (some 13) (.sl 1 (.t 6) none (some (.t 12)) none),
.r (some 14) (.nn (.t 2)),
.r (some 15) (.fa 10 (.t 14)),
.e none (.st 1 (.t 15) (.t 13))] []
theorem fit100:Fits Tryz.prog 100 1 (hOf Tryz.f100 ir100) ir100 [] 16:=⟨Tryz.f100,_,rfl,rfl,rfl,by decide,by kernel_rfl,by kernel_rfl⟩
def ir101:IR:=.seq (.seq (.reg false [.r (some 14) (.nn (.t 0)),
.r (some 15) (.fa 2 (.t 14)),
.r (some 16) (.l1 (.t 15)),
.r (some 17) (.len (.t 16)),
.r (some 18) (.bi .geq (.t 2) (.t 17))] [0,1,2,18]) <|
 .cond (.t 18) (.seq (.reg false [.r (some 22) (.nn (.t 1)),
.r (some 23) (.fa 5 (.t 22)),
.r (some 24) (.l1 (.t 23)),
.e (some 25) (.call 95 [(.t 0),(.t 24)]),
.r (some 26) (.ex 0 (.t 25)),
.r (some 27) (.ex 1 (.t 25)),
.e (some 7) (.al 87 (.agg #[(.int .i64 0),(.int .i64 0),(.slice none 0 0)])),
.r (some 6) (.mv (.t 26)),
.e none (.st 3 (.t 7) (.t 27))] [0,6]) <|
 .seq (.reg false [.r (some 28) (.mv (.t 0)),
.r (some 29) (.nn (.t 28)),
.r (some 30) (.fa 6 (.t 29)),
.r (some 31) (.l1 (.t 30)),
.r (some 32) (.mv (.t 6)),
.r (some 33) (.bd #[(.int .i64 0),(.int .i64 0),(.slice none 0 0)] [(0,1,(.c (.int .i64 2))),(1,1,(.c (.int .i64 3)))]),
.e (some 34) (.raw ⟨(some 34),(.call { callee:=(.invoke (.tmp 31) "Set"),args:=#[(.tmp 32),(.tmp 33)],argTypes:=#[3,87]}),35, "machine.go:304",#[⟨3,.data⟩,⟨4,.data⟩,⟨5,.data⟩],none⟩)] []) <|
 .ret) (.skip)) <|
 .seq (.reg false [.e (some 36) (.call 97 [(.t 0),(.c (.int .i64 2))])] [0,1,2,36]) <|
 .cond (.t 36) (.seq (.reg false [.r (some 40) (.nn (.t 1)),
.r (some 41) (.fa 5 (.t 40)),
.r (some 42) (.l1 (.t 41)),
.e (some 43) (.call 95 [(.t 0),(.t 42)]),
.r (some 44) (.ex 0 (.t 43)),
.r (some 45) (.ex 1 (.t 43)),
.e (some 9) (.al 87 (.agg #[(.int .i64 0),(.int .i64 0),(.slice none 0 0)])),
.r (some 8) (.mv (.t 44)),
.e none (.st 3 (.t 9) (.t 45))] [0,2,8]) <|
 .seq (.reg false [.r (some 48) (.nn (.t 0)),
.r (some 49) (.fa 2 (.t 48)),
.r (some 50) (.l1 (.t 49)),
.r (some 52) (.ia 1 (.t 50) (.t 2)),
.r (some 53) (.l1 (.t 52)),
.e (some 54) (.call 72 [(.t 0),(.c (.int .i64 1)),(.t 53),(.c (.slice none 0 0))]),
.r (some 10) (.mv (.t 54))] [0,2,8,10]) <|
 .seq (.reg false [.r (some 57) (.bi .add (.t 2) (.c (.int .i64 1))),
.e (some 58) (.call 72 [(.t 0),(.c (.int .i64 8)),(.t 57),(.c (.slice none 0 0))]),
.r (some 11) (.mv (.t 58))] [0,8,10,11]) <|
 .reg false [.r (some 59) (.mv (.t 0)),
.r (some 60) (.nn (.t 59)),
.r (some 61) (.fa 6 (.t 60)),
.r (some 62) (.l1 (.t 61)),
.r (some 63) (.mv (.t 8)),
.r (some 64) (.mv (.t 10)),
.r (some 65) (.mv (.t 11)),
.e (some 66) (.bs 3 2 #[(.int .i64 0),(.int .i64 0)] [(0,1,(.t 64)),(1,1,(.t 65))]),
.r (some 67) (.bd #[(.int .i64 0),(.int .i64 0),(.slice none 0 0)] [(0,1,(.c (.int .i64 2))),(1,1,(.c (.int .i64 4))),(2,1,(.t 66))]),
.e (some 68) (.raw ⟨(some 68),(.call { callee:=(.invoke (.tmp 62) "Set"),args:=#[(.tmp 63),(.tmp 67)],argTypes:=#[3,87]}),35, "machine.go:311",#[⟨3,.data⟩,⟨4,.data⟩,⟨8,.data⟩],none⟩)] []) (.skip)
theorem fit101:Fits Tryz.prog 101 3 (hOf Tryz.f101 ir101) ir101 [] 69:=⟨Tryz.f101,_,rfl,rfl,rfl,by decide,by kernel_rfl,by kernel_rfl⟩
def ir110:IR:=.seq (.reg false [.e (some 2) (.al 153 (.agg #[(.string ⟨#[]⟩),(.int .i64 0),(.int .i64 0)]))] [0,2]) <|
 .seq (.reg false [.r (some 5) (.bd #[(.string ⟨#[]⟩),(.int .i64 0),(.int .i64 0)] []),
.r (some 6) (.bd #[(.string ⟨#[]⟩),(.int .i64 0),(.int .i64 0)] [(0,1,(.c (.string ⟨#[112,117,115,104]⟩))),(1,1,(.c (.int .i64 1))),(2,1,(.c (.int .i64 0)))]),
.r (some 7) (.bd #[(.string ⟨#[]⟩),(.int .i64 0),(.int .i64 0)] [(0,1,(.c (.string ⟨#[103,108,111,98]⟩))),(1,1,(.c (.int .i64 4))),(2,1,(.c (.int .i64 0)))]),
.r (some 8) (.bd #[(.string ⟨#[]⟩),(.int .i64 0),(.int .i64 0)] [(0,1,(.c (.string ⟨#[105,110,116]⟩))),(1,1,(.c (.int .i64 3))),(2,1,(.c (.int .i64 0)))]),
.r (some 9) (.bd #[(.string ⟨#[]⟩),(.int .i64 0),(.int .i64 0)] [(0,1,(.c (.string ⟨#[112,111,112]⟩))),(1,1,(.c (.int .i64 1))),(2,1,(.c (.int .i64 0)))]),
.r (some 10) (.bd #[(.string ⟨#[]⟩),(.int .i64 0),(.int .i64 0)] [(0,1,(.c (.string ⟨#[115,108,105,100,101]⟩))),(1,1,(.c (.int .i64 1))),(2,1,(.c (.int .i64 0)))]),
.r (some 11) (.bd #[(.string ⟨#[]⟩),(.int .i64 0),(.int .i64 0)] [(0,1,(.c (.string ⟨#[97,112,112,108,121]⟩))),(1,1,(.c (.int .i64 0))),(2,1,(.c (.int .i64 0)))]),
.r (some 12) (.bd #[(.string ⟨#[]⟩),(.int .i64 0),(.int .i64 0)] [(0,1,(.c (.string ⟨#[117,112,100,97,116,101]⟩))),(1,1,(.c (.int .i64 2))),(2,1,(.c (.int .i64 0)))]),
.r (some 13) (.bd #[(.string ⟨#[]⟩),(.int .i64 0),(.int .i64 0)] [(0,1,(.c (.string ⟨#[97,108,108,111,99]⟩))),(1,1,(.c (.int .i64 1))),(2,1,(.c (.int .i64 0)))]),
.r (some 14) (.bd #[(.string ⟨#[]⟩),(.int .i64 0),(.int .i64 0)] [(0,1,(.c (.string ⟨#[112,97,99,107]⟩))),(1,1,(.c (.int .i64 5))),(2,1,(.c (.int .i64 0)))]),
.r (some 15) (.bd #[(.string ⟨#[]⟩),(.int .i64 0),(.int .i64 0)] [(0,1,(.c (.string ⟨#[115,112,108,105,116]⟩))),(1,1,(.c (.int .i64 5))),(2,1,(.c (.int .i64 0)))]),
.r (some 16) (.bd #[(.string ⟨#[]⟩),(.int .i64 0),(.int .i64 0)] [(0,1,(.c (.string ⟨#[101,118,97,108]⟩))),(1,1,(.c (.int .i64 0))),(2,1,(.c (.int .i64 0)))]),
.r (some 17) (.bd #[(.string ⟨#[]⟩),(.int .i64 0),(.int .i64 0)] [(0,1,(.c (.string ⟨#[97,114,105,116,104]⟩))),(1,1,(.c (.int .i64 6))),(2,1,(.c (.int .i64 0)))]),
.r (some 18) (.bd #[(.string ⟨#[]⟩),(.int .i64 0),(.int .i64 0)] [(0,1,(.c (.string ⟨#[106,117,109,112]⟩))),(1,1,(.c (.int .i64 8))),(2,1,(.c (.int .i64 0)))]),
.r (some 19) (.bd #[(.string ⟨#[]⟩),(.int .i64 0),(.int .i64 0)] [(0,1,(.c (.string ⟨#[116,101,115,116,99,111,110]⟩))),(1,1,(.c (.int .i64 5))),(2,1,(.c (.int .i64 8)))]),
.r (some 20) (.bd #[(.string ⟨#[]⟩),(.int .i64 0),(.int .i64 0)] [(0,1,(.c (.string ⟨#[116,101,115,116,105,110,116]⟩))),(1,1,(.c (.int .i64 3))),(2,1,(.c (.int .i64 8)))]),
.r (some 21) (.bd #[(.string ⟨#[]⟩),(.int .i64 0),(.int .i64 0)] [(0,1,(.c (.string ⟨#[102,97,105,108]⟩))),(1,1,(.c (.int .i64 7))),(2,1,(.c (.int .i64 0)))]),
.r (some 22) (.bd #[(.string ⟨#[]⟩),(.int .i64 0),(.int .i64 0)] [(0,1,(.c (.string ⟨#[117,110,119,105,110,100]⟩))),(1,1,(.c (.int .i64 0))),(2,1,(.c (.int .i64 0)))]),
.e (some 23) (.raw ⟨(some 23),(.build 176 #[(0,(.tmp 5)),(1,(.tmp 6)),(2,(.tmp 7)),(3,(.tmp 8)),(4,(.tmp 9)),(5,(.tmp 10)),(6,(.tmp 11)),(7,(.tmp 12)),(8,(.tmp 13)),(9,(.tmp 14)),(10,(.tmp 15)),(11,(.tmp 16)),(12,(.tmp 17)),(13,(.tmp 18)),(14,(.tmp 19)),(15,(.tmp 20)),(16,(.tmp 21)),(17,(.tmp 22))]),176, "check.go:27",#[⟨0,.data⟩,⟨1,.data⟩,⟨2,.data⟩,⟨3,.data⟩,⟨4,.data⟩,⟨5,.data⟩,⟨6,.data⟩,⟨7,.data⟩,⟨8,.data⟩,⟨9,.data⟩,⟨10,.data⟩,⟨11,.data⟩,⟨12,.data⟩,⟨13,.data⟩,⟨14,.data⟩,⟨15,.data⟩,⟨16,.data⟩,⟨17,.data⟩],none⟩),
.e (some 4) (.al 176 (.agg #[(.string ⟨#[]⟩),(.int .i64 0),(.int .i64 0),(.string ⟨#[]⟩),(.int .i64 0),(.int .i64 0),(.string ⟨#[]⟩),(.int .i64 0),(.int .i64 0),(.string ⟨#[]⟩),(.int .i64 0),(.int .i64 0),(.string ⟨#[]⟩),(.int .i64 0),(.int .i64 0),(.string ⟨#[]⟩),(.int .i64 0),(.int .i64 0),(.string ⟨#[]⟩),(.int .i64 0),(.int .i64 0),(.string ⟨#[]⟩),(.int .i64 0),(.int .i64 0),(.string ⟨#[]⟩),(.int .i64 0),(.int .i64 0),(.string ⟨#[]⟩),(.int .i64 0),(.int .i64 0),(.string ⟨#[]⟩),(.int .i64 0),(.int .i64 0),(.string ⟨#[]⟩),(.int .i64 0),(.int .i64 0),(.string ⟨#[]⟩),(.int .i64 0),(.int .i64 0),(.string ⟨#[]⟩),(.int .i64 0),(.int .i64 0),(.string ⟨#[]⟩),(.int .i64 0),(.int .i64 0),(.string ⟨#[]⟩),(.int .i64 0),(.int .i64 0),(.string ⟨#[]⟩),(.int .i64 0),(.int .i64 0),(.string ⟨#[]⟩),(.int .i64 0),(.int .i64 0)])),
.e none (.st 54 (.t 4) (.t 23))] [0,2,4]) <|
 .seq (.seq (.reg false [.r (some 25) (.bi .lss (.t 0) (.c (.int .i64 1))),
.gr 25 false (some 27) (.mv (.t 0)),
.gr 25 false (some 28) (.bi .geq (.t 27) (.c (.int .i64 18))),
.r (some 29) (.pk (.t 25) (.c (.bool true)) (.t 28))] [0,2,4,29]) <|
 .cond (.t 29) (.seq (.reg false [.r (some 30) (.bd #[(.string ⟨#[]⟩),(.int .i64 0),(.int .i64 0)] []),
.e none (.st 3 (.t 2) (.t 30)),
.r (some 3) (.mv (.c (.bool false)))] [2,3]) <|
 .ret) (.skip)) <|
 .seq (.reg false [.r (some 31) (.mv (.t 0)),
.e (some 32) (.raw ⟨(some 32),(.indexAddr 176 (.tmp 4) (.tmp 31)),0, "check.go:33",#[⟨0,.data⟩],none⟩),
.r (some 33) (.ln 3 (.t 32)),
.e none (.st 3 (.t 2) (.t 33)),
.r (some 3) (.mv (.c (.bool true)))] [2,3]) <|
 .ret
theorem fit110:Fits Tryz.prog 110 1 (hOf Tryz.f110 ir110) ir110 [.n 2 3,.t 3] 34:=⟨Tryz.f110,_,rfl,rfl,rfl,by decide,by kernel_rfl,by kernel_rfl⟩
def ir111:IR:=.seq (.reg false [.e (some 5) (.bx 25 (.t 0)),
.e (some 6) (.bx 70 (.t 1))] [2,3,4,5,6]) <|
 .seq (.reg false [.r (some 11) (.mv (.c (.bool true)))] [2,3,4,5,6,11]) <|
 .seq (.seq (.reg false [.r (some 12) (.mv (.t 4))] [2,3,5,6,11,12]) <|
 .block 0 (.seq (.reg false [.r (some 14) (.bi .eql (.t 12) (.c (.int .i64 0))),
.r (some 13) (.mv (.t 14))] [2,3,5,6,11,12,13]) <|
 .cond (.t 13) (.reg false [.r (some 16) (.bi .eql (.t 3) (.c (.int .i64 0))),
.r (some 11) (.mv (.t 16))] [11]) (.seq (.reg false [.r (some 18) (.bi .eql (.t 12) (.c (.int .i64 1))),
.r (some 17) (.mv (.t 18))] [2,3,5,6,11,12,17]) <|
 .cond (.t 17) (.reg false [.r (some 20) (.bi .geq (.t 3) (.c (.int .i64 0))),
.r (some 11) (.mv (.t 20))] [11]) (.seq (.reg false [.r (some 22) (.bi .eql (.t 12) (.c (.int .i64 2))),
.r (some 21) (.mv (.t 22))] [2,3,5,6,11,12,21]) <|
 .cond (.t 21) (.reg false [.r (some 24) (.bi .geq (.t 3) (.c (.int .i64 1))),
.r (some 11) (.mv (.t 24))] [11]) (.seq (.reg false [.r (some 26) (.bi .eql (.t 12) (.c (.int .i64 3))),
.r (some 25) (.mv (.t 26))] [2,3,5,6,11,12,25]) <|
 .cond (.t 25) (.reg false [.r (some 28) (.bi .geq (.t 3) (.c (.int .i64 (-4611686018427387904)))),
.gr 28 true (some 30) (.mv (.t 3)),
.gr 28 true (some 31) (.bi .leq (.t 30) (.c (.int .i64 4611686018427387903))),
.r (some 32) (.pk (.t 28) (.t 31) (.c (.bool false))),
.r (some 11) (.mv (.t 32))] [11]) (.seq (.reg false [.r (some 34) (.bi .eql (.t 12) (.c (.int .i64 4))),
.r (some 33) (.mv (.t 34))] [2,3,5,6,11,12,33]) <|
 .cond (.t 33) (.reg false [.r (some 36) (.bi .geq (.t 3) (.c (.int .i64 0))),
.gr 36 true (some 38) (.mv (.t 3)),
.gr 36 true (some 39) (.fa 1 (.t 5)),
.gr 36 true (some 40) (.l1 (.t 39)),
.gr 36 true (some 41) (.len (.t 40)),
.gr 36 true (some 42) (.bi .lss (.t 38) (.t 41)),
.r (some 43) (.pk (.t 36) (.t 42) (.c (.bool false))),
.r (some 11) (.mv (.t 43))] [11]) (.seq (.reg false [.r (some 45) (.bi .eql (.t 12) (.c (.int .i64 5))),
.r (some 44) (.mv (.t 45))] [2,3,5,6,11,12,44]) <|
 .cond (.t 44) (.reg false [.r (some 47) (.bi .geq (.t 3) (.c (.int .i64 0))),
.gr 47 true (some 49) (.mv (.t 3)),
.gr 47 true (some 50) (.fa 0 (.t 5)),
.gr 47 true (some 51) (.l1 (.t 50)),
.gr 47 true (some 52) (.len (.t 51)),
.gr 47 true (some 53) (.bi .lss (.t 49) (.t 52)),
.r (some 54) (.pk (.t 47) (.t 53) (.c (.bool false))),
.r (some 11) (.mv (.t 54))] [11]) (.seq (.reg false [.r (some 56) (.bi .eql (.t 12) (.c (.int .i64 6))),
.r (some 55) (.mv (.t 56))] [2,3,6,11,12,55]) <|
 .cond (.t 55) (.reg false [.r (some 58) (.bi .geq (.t 3) (.c (.int .i64 1))),
.gr 58 true (some 60) (.mv (.t 3)),
.gr 58 true (some 61) (.bi .leq (.t 60) (.c (.int .i64 11))),
.r (some 62) (.pk (.t 58) (.t 61) (.c (.bool false))),
.r (some 11) (.mv (.t 62))] [11]) (.seq (.reg false [.r (some 64) (.bi .eql (.t 12) (.c (.int .i64 7))),
.r (some 63) (.mv (.t 64))] [2,3,6,11,12,63]) <|
 .cond (.t 63) (.reg false [.r (some 66) (.bi .geq (.t 3) (.c (.int .i64 1))),
.gr 66 true (some 68) (.mv (.t 3)),
.gr 66 true (some 69) (.bi .leq (.t 68) (.c (.int .i64 4))),
.r (some 70) (.pk (.t 66) (.t 69) (.c (.bool false))),
.r (some 11) (.mv (.t 70))] [11]) (.seq (.reg false [.r (some 72) (.bi .eql (.t 12) (.c (.int .i64 8))),
.r (some 71) (.mv (.t 72))] [2,3,6,11,71]) <|
 .cond (.t 71) (.seq (.reg false [.r (some 75) (.bi .leq (.t 3) (.t 2)),
.gr 75 false (some 77) (.mv (.t 3)),
.gr 75 false (some 78) (.fa 2 (.t 6)),
.gr 75 false (some 79) (.l1 (.t 78)),
.gr 75 false (some 80) (.len (.t 79)),
.gr 75 false (some 81) (.bi .geq (.t 77) (.t 80)),
.r (some 82) (.pk (.t 75) (.c (.bool true)) (.t 81))] [11,82]) <|
 .cond (.t 82) (.seq (.reg false [.r (some 10) (.mv (.c (.int .i64 174)))] [10]) <|
 .ret) (.skip)) (.skip))))))))))) <|
 .seq (.seq (.reg false [.r (some 84) (.no (.t 11))] [84]) <|
 .cond (.t 84) (.seq (.reg false [.r (some 10) (.mv (.c (.int .i64 172)))] [10]) <|
 .ret) (.skip)) <|
 .seq (.reg false [.r (some 10) (.mv (.c (.int .i64 0)))] [10]) <|
 .ret
theorem fit111:Fits Tryz.prog 111 5 (hOf Tryz.f111 ir111) ir111 [.t 10] 85:=⟨Tryz.f111,_,rfl,rfl,rfl,by decide,by kernel_rfl,by kernel_rfl⟩
def ir112:IR:=.seq (.reg false [.e (some 3) (.bx 25 (.t 0)),
.e (some 4) (.bx 66 (.t 1))] [2,3,4]) <|
 .seq (.reg false [.r (some 8) (.mv (.c (.bool true))),
.r (some 9) (.mv (.t 2))] [2,3,4,8,9]) <|
 .seq (.seq (.reg false [.r (some 12) (.fa 0 (.t 4)),
.r (some 13) (.l1 (.t 12))] [2,3,4,8,9,13]) <|
 .block 0 (.seq (.reg false [.r (some 15) (.bi .eql (.t 13) (.c (.int .i64 1))),
.r (some 14) (.mv (.t 15))] [2,3,4,8,9,13,14]) <|
 .cond (.t 14) (.reg false [.r (some 16) (.fa 1 (.t 4)),
.r (some 17) (.l1 (.t 16)),
.r (some 19) (.bi .lss (.t 17) (.t 2)),
.r (some 21) (.bi .add (.t 2) (.c (.int .i64 1))),
.r (some 8) (.mv (.t 19)),
.r (some 9) (.mv (.t 21))] [8,9]) (.seq (.seq (.reg false [.r (some 23) (.bi .eql (.t 13) (.c (.int .i64 2))),
.r (some 22) (.mv (.t 23))] [2,3,4,8,9,13,22]) <|
 .cond (.t 22) (.skip) (.reg false [.r (some 24) (.bi .eql (.t 13) (.c (.int .i64 3))),
.r (some 22) (.mv (.t 24))] [2,3,4,8,9,13,22])) <|
 .cond (.t 22) (.reg false [.r (some 26) (.bi .add (.t 2) (.c (.int .i64 1))),
.r (some 9) (.mv (.t 26))] [8,9]) (.seq (.reg false [.r (some 28) (.bi .eql (.t 13) (.c (.int .i64 4))),
.r (some 27) (.mv (.t 28))] [2,3,4,8,9,13,27]) <|
 .cond (.t 27) (.reg true [.r (some 29) (.fa 1 (.t 4)),
.r (some 30) (.l1 (.t 29)),
.r (some 31) (.mv (.t 2)),
.r (some 32) (.bi .lss (.t 30) (.t 31)),
.r (some 33) (.mv (.t 2)),
.r (some 34) (.fa 1 (.t 4)),
.r (some 35) (.l1 (.t 34)),
.r (some 36) (.bi .sub (.t 33) (.t 35)),
.r (some 8) (.mv (.t 32)),
.r (some 9) (.mv (.t 36))] [8,9]) (.seq (.reg false [.r (some 38) (.bi .eql (.t 13) (.c (.int .i64 5))),
.r (some 37) (.mv (.t 38))] [2,3,4,8,9,13,37]) <|
 .cond (.t 37) (.reg true [.r (some 39) (.fa 1 (.t 4)),
.r (some 40) (.l1 (.t 39)),
.r (some 41) (.mv (.t 2)),
.r (some 42) (.bi .sub (.t 41) (.c (.int .i64 1))),
.r (some 43) (.bi .lss (.t 40) (.t 42)),
.r (some 44) (.mv (.t 2)),
.r (some 45) (.fa 1 (.t 4)),
.r (some 46) (.l1 (.t 45)),
.r (some 47) (.bi .sub (.t 44) (.t 46)),
.r (some 8) (.mv (.t 43)),
.r (some 9) (.mv (.t 47))] [8,9]) (.seq (.seq (.reg false [.r (some 49) (.bi .eql (.t 13) (.c (.int .i64 6))),
.r (some 48) (.mv (.t 49))] [2,3,4,8,9,13,48]) <|
 .cond (.t 48) (.skip) (.reg false [.r (some 50) (.bi .eql (.t 13) (.c (.int .i64 12))),
.r (some 48) (.mv (.t 50))] [2,3,4,8,9,13,48])) <|
 .cond (.t 48) (.reg false [.r (some 52) (.bi .gtr (.t 2) (.c (.int .i64 2))),
.r (some 54) (.bi .sub (.t 2) (.c (.int .i64 1))),
.r (some 8) (.mv (.t 52)),
.r (some 9) (.mv (.t 54))] [8,9]) (.seq (.reg false [.r (some 56) (.bi .eql (.t 13) (.c (.int .i64 7))),
.r (some 55) (.mv (.t 56))] [2,3,4,8,9,13,55]) <|
 .cond (.t 55) (.reg false [.r (some 57) (.fa 1 (.t 4)),
.r (some 58) (.l1 (.t 57)),
.r (some 60) (.bi .lss (.t 58) (.t 2)),
.r (some 62) (.bi .sub (.t 2) (.c (.int .i64 1))),
.r (some 8) (.mv (.t 60)),
.r (some 9) (.mv (.t 62))] [8,9]) (.seq (.reg false [.r (some 64) (.bi .eql (.t 13) (.c (.int .i64 8))),
.r (some 63) (.mv (.t 64))] [2,3,4,8,9,13,63]) <|
 .cond (.t 63) (.reg true [.r (some 65) (.fa 1 (.t 4)),
.r (some 66) (.l1 (.t 65)),
.r (some 67) (.bi .leq (.t 66) (.c (.int .i64 8000))),
.r (some 68) (.mv (.t 2)),
.r (some 69) (.fa 1 (.t 4)),
.r (some 70) (.l1 (.t 69)),
.r (some 71) (.mm false (.t 70) (.c (.int .i64 8000))),
.r (some 72) (.bi .add (.t 68) (.t 71)),
.r (some 8) (.mv (.t 67)),
.r (some 9) (.mv (.t 72))] [8,9]) (.seq (.reg false [.r (some 74) (.bi .eql (.t 13) (.c (.int .i64 9))),
.r (some 73) (.mv (.t 74))] [2,3,4,8,9,13,73]) <|
 .cond (.t 73) (.seq (.reg false [.r (some 75) (.fa 0 (.t 3)),
.r (some 76) (.l1 (.t 75)),
.r (some 77) (.fa 1 (.t 4)),
.r (some 78) (.l1 (.t 77)),
.r (some 79) (.ia 2 (.t 76) (.t 78)),
.r (some 80) (.fa 1 (.t 79)),
.r (some 81) (.l1 (.t 80)),
.r (some 10) (.mv (.t 81))] [2,10]) <|
 .reg false [.r (some 84) (.bi .lss (.t 10) (.t 2)),
.r (some 87) (.bi .sub (.t 2) (.t 10)),
.r (some 88) (.bi .add (.t 87) (.c (.int .i64 1))),
.r (some 8) (.mv (.t 84)),
.r (some 9) (.mv (.t 88))] [8,9]) (.seq (.reg false [.r (some 90) (.bi .eql (.t 13) (.c (.int .i64 10))),
.r (some 89) (.mv (.t 90))] [2,3,4,8,9,13,89]) <|
 .cond (.t 89) (.reg true [.r (some 91) (.mv (.t 2)),
.r (some 92) (.bi .gtr (.t 91) (.c (.int .i64 1))),
.r (some 93) (.mv (.t 2)),
.r (some 94) (.bi .sub (.t 93) (.c (.int .i64 1))),
.r (some 95) (.fa 0 (.t 3)),
.r (some 96) (.l1 (.t 95)),
.r (some 97) (.fa 1 (.t 4)),
.r (some 98) (.l1 (.t 97)),
.r (some 99) (.ia 2 (.t 96) (.t 98)),
.r (some 100) (.fa 1 (.t 99)),
.r (some 101) (.l1 (.t 100)),
.r (some 102) (.bi .add (.t 94) (.t 101)),
.r (some 8) (.mv (.t 92)),
.r (some 9) (.mv (.t 102))] [8,9]) (.seq (.seq (.reg false [.r (some 104) (.bi .eql (.t 13) (.c (.int .i64 11))),
.r (some 103) (.mv (.t 104))] [2,8,9,13,103]) <|
 .cond (.t 103) (.skip) (.seq (.reg false [.r (some 105) (.bi .eql (.t 13) (.c (.int .i64 14))),
.r (some 103) (.mv (.t 105))] [2,8,9,13,103]) <|
 .cond (.t 103) (.skip) (.reg false [.r (some 106) (.bi .eql (.t 13) (.c (.int .i64 15))),
.r (some 103) (.mv (.t 106))] [2,8,9,13,103]))) <|
 .cond (.t 103) (.reg false [.r (some 108) (.bi .gtr (.t 2) (.c (.int .i64 1))),
.r (some 8) (.mv (.t 108))] [8,9]) (.seq (.reg false [.r (some 110) (.bi .eql (.t 13) (.c (.int .i64 17))),
.r (some 109) (.mv (.t 110))] [2,8,9,109]) <|
 .cond (.t 109) (.reg false [.r (some 112) (.bi .eql (.t 2) (.c (.int .i64 1))),
.r (some 8) (.mv (.t 112))] [8,9]) (.skip))))))))))))) <|
 .seq (.reg false [.gr 8 true (some 116) (.mv (.t 9)),
.gr 8 true (some 117) (.bi .leq (.t 116) (.c (.int .i64 8000))),
.r (some 118) (.pk (.t 8) (.t 117) (.c (.bool false))),
.r (some 6) (.mv (.t 9)),
.r (some 7) (.mv (.t 118))] [6,7]) <|
 .ret
theorem fit112:Fits Tryz.prog 112 3 (hOf Tryz.f112 ir112) ir112 [.t 6,.t 7] 119:=⟨Tryz.f112,_,rfl,rfl,rfl,by decide,by kernel_rfl,by kernel_rfl⟩
def ir113:IR:=.seq (.reg false [] [0,1,2]) <|
 .seq (.seq (.reg false [.r (some 9) (.ia 1 (.t 0) (.t 1)),
.r (some 10) (.l1 (.t 9)),
.r (some 11) (.bi .eql (.t 10) (.c (.int .i64 0)))] [0,1,2,11]) <|
 .cond (.t 11) (.reg false [.r (some 15) (.ia 1 (.t 0) (.t 1)),
.e none (.st 1 (.t 15) (.t 2))] [0,1,2]) (.skip)) <|
 .seq (.reg false [.r (some 18) (.ia 1 (.t 0) (.t 1)),
.r (some 19) (.l1 (.t 18)),
.r (some 21) (.bi .eql (.t 19) (.t 2)),
.r (some 6) (.mv (.t 21))] [6]) <|
 .ret
theorem fit113:Fits Tryz.prog 113 3 (hOf Tryz.f113 ir113) ir113 [.t 6] 22:=⟨Tryz.f113,_,rfl,rfl,rfl,by decide,by kernel_rfl,by kernel_rfl⟩
def ir114:IR:=.seq (.reg false [] [0]) <|
 .seq (.reg false [.r (some 4) (.bi .shl (.t 0) (.c (.int .u64 1))),
.r (some 5) (.bi .shr (.t 4) (.c (.int .u64 1))),
.r (some 2) (.mv (.t 5))] [2]) <|
 .ret
theorem fit114:Fits Tryz.prog 114 1 (hOf Tryz.f114 ir114) ir114 [.t 2] 6:=⟨Tryz.f114,_,rfl,rfl,rfl,by decide,by kernel_rfl,by kernel_rfl⟩
def ir115:IR:=.seq (.reg false [] [0,1,2]) <|
 .seq (.seq (.reg false [.r (some 7) (.mv (.t 0))] [1,2,7]) <|
 .block 0 (.seq (.reg false [.r (some 9) (.bi .eql (.t 7) (.c (.int .i64 6))),
.r (some 8) (.mv (.t 9))] [1,2,7,8]) <|
 .cond (.t 8) (.seq (.reg false [.r (some 12) (.bi .eql (.t 1) (.t 2)),
.r (some 6) (.mv (.t 12))] [6]) <|
 .ret) (.seq (.reg false [.r (some 14) (.bi .eql (.t 7) (.c (.int .i64 7))),
.r (some 13) (.mv (.t 14))] [1,2,7,13]) <|
 .cond (.t 13) (.seq (.reg false [.r (some 17) (.bi .neq (.t 1) (.t 2)),
.r (some 6) (.mv (.t 17))] [6]) <|
 .ret) (.seq (.reg false [.r (some 19) (.bi .eql (.t 7) (.c (.int .i64 8))),
.r (some 18) (.mv (.t 19))] [1,2,7,18]) <|
 .cond (.t 18) (.seq (.reg false [.r (some 22) (.bi .lss (.t 1) (.t 2)),
.r (some 6) (.mv (.t 22))] [6]) <|
 .ret) (.seq (.reg false [.r (some 24) (.bi .eql (.t 7) (.c (.int .i64 9))),
.r (some 23) (.mv (.t 24))] [1,2,7,23]) <|
 .cond (.t 23) (.seq (.reg false [.r (some 27) (.bi .leq (.t 1) (.t 2)),
.r (some 6) (.mv (.t 27))] [6]) <|
 .ret) (.seq (.reg false [.r (some 29) (.bi .eql (.t 7) (.c (.int .i64 10))),
.r (some 28) (.mv (.t 29))] [1,2,28]) <|
 .cond (.t 28) (.seq (.reg false [.r (some 32) (.bi .gtr (.t 1) (.t 2)),
.r (some 6) (.mv (.t 32))] [6]) <|
 .ret) (.skip))))))) <|
 .seq (.reg false [.r (some 35) (.bi .geq (.t 1) (.t 2)),
.r (some 6) (.mv (.t 35))] [6]) <|
 .ret
theorem fit115:Fits Tryz.prog 115 3 (hOf Tryz.f115 ir115) ir115 [.t 6] 36:=⟨Tryz.f115,_,rfl,rfl,rfl,by decide,by kernel_rfl,by kernel_rfl⟩
end
section
open Go Go.W
theorem mhAdd (a:Addr) (w:World):(method (Tryz.prog.types.size+Made.depth) 125 (.pointer (some a)) "Add").run Tryz.prog w = .ok (197,.pointer (some a)) w:=by kernel_rfl
theorem mhGet (a:Addr) (w:World):(method (Tryz.prog.types.size+Made.depth) 125 (.pointer (some a)) "Get").run Tryz.prog w = .ok (200,.pointer (some a)) w:=by kernel_rfl
theorem mhSet (a:Addr) (w:World):(method (Tryz.prog.types.size+Made.depth) 125 (.pointer (some a)) "Set").run Tryz.prog w = .ok (202,.pointer (some a)) w:=by kernel_rfl
theorem mhRoom (a:Addr) (w:World):(method (Tryz.prog.types.size+Made.depth) 125 (.pointer (some a)) "Room").run Tryz.prog w = .ok (201,.pointer (some a)) w:=by kernel_rfl
theorem mhCollect (a:Addr) (w:World):(method (Tryz.prog.types.size+Made.depth) 125 (.pointer (some a)) "Collect").run Tryz.prog w = .ok (198,.pointer (some a)) w:=by kernel_rfl
theorem mhUsed (a:Addr) (w:World):(method (Tryz.prog.types.size+Made.depth) 125 (.pointer (some a)) "Used").run Tryz.prog w = .ok (203,.pointer (some a)) w:=by kernel_rfl
theorem mgAdd (a:Addr) (w:World):(method (Tryz.prog.types.size+Made.depth) 122 (.pointer (some a)) "Add").run Tryz.prog w = .ok (151,.pointer (some a)) w:=by kernel_rfl
theorem mgGet (a:Addr) (w:World):(method (Tryz.prog.types.size+Made.depth) 122 (.pointer (some a)) "Get").run Tryz.prog w = .ok (154,.pointer (some a)) w:=by kernel_rfl
theorem mgSet (a:Addr) (w:World):(method (Tryz.prog.types.size+Made.depth) 122 (.pointer (some a)) "Set").run Tryz.prog w = .ok (156,.pointer (some a)) w:=by kernel_rfl
theorem mgRoom (a:Addr) (w:World):(method (Tryz.prog.types.size+Made.depth) 122 (.pointer (some a)) "Room").run Tryz.prog w = .ok (155,.pointer (some a)) w:=by kernel_rfl
theorem mgCollect (a:Addr) (w:World):(method (Tryz.prog.types.size+Made.depth) 122 (.pointer (some a)) "Collect").run Tryz.prog w = .ok (152,.pointer (some a)) w:=by kernel_rfl
theorem mgUsed (a:Addr) (w:World):(method (Tryz.prog.types.size+Made.depth) 122 (.pointer (some a)) "Used").run Tryz.prog w = .ok (157,.pointer (some a)) w:=by kernel_rfl
inductive Kd where
 | hp (times:Int)
 | gn (young:Int) (old:Nat) (times:Int)
 | ref
structure St where
 kd:Kd
 size:Int
 ns:List Nd
def Kd.ok (n:Nat):Kd→Prop
 | .gn y o _=>o≤n∧0≤y∧y≤1048576
 | _=>True
structure St.Ok (s:St):Prop where
 wf:WF s.ns
 len:(s.ns.length:Int)≤s.size
 lo:1≤s.size
 hi:s.size≤1048576
 kd:s.kd.ok s.ns.length
theorem St.Ok.n {s:St} (h:s.Ok):s.ns.length≤1048576:=by have:=h.len;have:=h.hi;omega
theorem wf_args8 {ns:List Nd} (hw:WF ns):∀ nd∈ns,nd.args.length≤8:=by
 intro nd hnd
 have h:=(hw nd hnd).1
 simp only [Nd.may,mayB,decide_eq_true_eq] at h
 omega
def StAt (w:World) (sv:Value) (s:St) (F:Nat→Prop):Prop:=
 match s.kd with
 | .hp t=>∃ a,sv = .iface 125 (.pointer (some ⟨a,0,none⟩))∧ArenaAt 165 235 w a s.size t s.ns F
 | .gn y o t=>∃ a,sv = .iface 122 (.pointer (some ⟨a,0,none⟩))∧GAt w a s.size y o t s.ns F
 | .ref=>False
theorem StAt.lt {w:World} {sv:Value} {s:St} {F:Nat→Prop} (h:StAt w sv s F):∀ b,F b→b < w.heap.size:=by
 obtain ⟨kd,sz,ns⟩:=s
 cases kd with
 | hp t=>obtain ⟨a,_,h⟩:=h;obtain ⟨_,_,_,_,_,_,_,_,_,h⟩:=h;exact h
 | gn y o t=>obtain ⟨a,_,h⟩:=h;exact gat_lt h
 | ref=>exact h.elim
theorem StAt.mod {w w':World} {sv:Value} {s:St} {F S:Nat→Prop} (h:StAt w sv s F) (hm:Mod S w w') (hd:∀ b,F b→¬ S b):StAt w' sv s F:=by
 obtain ⟨kd,sz,ns⟩:=s
 cases kd with
 | hp t=>obtain ⟨a,e,h⟩:=h;exact ⟨a,e,h.mod hm hd⟩
 | gn y o t=>obtain ⟨a,e,h⟩:=h;exact ⟨a,e,gat_mod h hm hd⟩
 | ref=>exact h.elim
def stRoom (s:St) (n:Int) (roots:List Int):Option (List Int)×St:=
 match s.kd with
 | .hp t=>((roomS s.size t s.ns n roots).out,⟨.hp (roomS s.size t s.ns n roots).times,s.size,(roomS s.size t s.ns n roots).ns⟩)
 | .gn y o t=>((groomS s.size y o t s.ns n roots).res,⟨.gn y (groomS s.size y o t s.ns n roots).old (groomS s.size y o t s.ns n roots).times,s.size,(groomS s.size y o t s.ns n roots).ns⟩)
 | .ref=>if n > s.size - (colNs s.ns roots).length then (none,s) else (some (colRoots s.ns roots),⟨.ref,s.size,colNs s.ns roots⟩)
def stCol (s:St) (roots:List Int):List Int×St:=
 match s.kd with
 | .hp t=>(colRoots s.ns roots,⟨.hp (IntKind.i64.wrap (t+1)),s.size,colNs s.ns roots⟩)
 | .gn y o t=>(smallRoots s.ns 0 roots,⟨.gn y (smallNs s.ns 0 roots).length (IntKind.i64.wrap (t+1)),s.size,smallNs s.ns 0 roots⟩)
 | .ref=>(colRoots s.ns roots,⟨.ref,s.size,colNs s.ns roots⟩)
section
variable {d:Option Nat} {ty:TypeId} {pos:String} {af:Array Edge} {ρ:Env} {w:World} {K:Value→World→Prop} {x:Operand} {args:Array Operand} {at':Array TypeId} {sv:Value} {s:St} {F:Nat→Prop}
theorem s_used (hx:(toO x).ev ρ=some sv) (h:StAt w sv s F) (hk:K (I s.ns.length) w):E.wp Tryz.prog w ρ K (.raw ⟨d,.call { callee:=.invoke x "Used",args:=#[],argTypes:=at'},ty,pos,af,none⟩):=by
 obtain ⟨kd,sz,ns⟩:=s
 cases kd with
 | ref=>exact h.elim
 | hp t=>
   obtain ⟨a,rfl,h⟩:=h
   refine e_iv hx rfl (mhUsed _ _) Tryz.func203 rfl rfl ((used_ok a _ _ _ _ w h).mono ?_)
   rintro r _ ⟨rfl,rfl⟩;exact hk
 | gn y o t=>
   obtain ⟨a,rfl,h⟩:=h
   refine e_iv hx rfl (mgUsed _ _) Tryz.func157 rfl rfl ((gused_ok w a _ _ _ _ _ _ h).mono ?_)
   rintro r _ ⟨rfl,rfl⟩;exact hk
theorem s_get {p:Int} (hx:(toO x).ev ρ=some sv) (ha:evs ρ (args.toList.map toO)=some [I p]) (h:StAt w sv s F) (hw:WF s.ns) (hn:s.ns.length≤1048576) (hp:0≤p∧p < s.ns.length)
   (hk:∀ v w',NewOwn w w' v (ndAt s.ns p.toNat).args→Mod (fun _=>False) w w'→K (.tuple #[.agg #[I (ndAt s.ns p.toNat).kind,I (ndAt s.ns p.toNat).num,v],I 0]) w') :
   E.wp Tryz.prog w ρ K (.raw ⟨d,.call { callee:=.invoke x "Get",args:=args,argTypes:=at'},ty,pos,af,none⟩):=by
 obtain ⟨i,rfl⟩:∃ i:Nat,p=i:=⟨p.toNat,by omega⟩
 rw [Int.toNat_natCast] at hk
 have hi:i < s.ns.length:=by omega
 obtain ⟨kd,sz,ns⟩:=s
 cases kd with
 | ref=>exact h.elim
 | hp t=>
   obtain ⟨a,rfl,h⟩:=h
   refine e_iv hx ha (mhGet _ _) Tryz.func200 rfl rfl ((get_ok a _ _ _ _ _ w h hn (wf_args8 hw)).mono ?_)
   rintro r w' ⟨h1,h2,_⟩
   obtain ⟨v,rfl,h3⟩:=h2 i (ndAt ns i) rfl (by simp only [ndAt,List.getD_eq_getElem?_getD,List.getElem?_eq_getElem hi,Option.getD_some])
   exact hk v w' h3 h1
 | gn y o t=>
   obtain ⟨a,rfl,h⟩:=h
   refine e_iv hx ha (mgGet _ _) Tryz.func154 rfl rfl ((gget_ok w a _ _ _ _ _ _ _ h (wf_args8 hw)).mono ?_)
   rintro r w' ⟨h1,v,fp,hr,h2,h3⟩
   have e:ggetS ns (i:Int)=(ndAt ns i,0):=by simp only [ggetS,Int.toNat_natCast];rw [if_pos (by omega)]
   rw [e] at hr h2
   subst hr
   exact hk v w' ⟨fp,h2,h3⟩ h1
theorem s_set {p:Int} {nd:Nd} {v:Value} (hx:(toO x).ev ρ=some sv) (ha:evs ρ (args.toList.map toO)=some [I p,.agg #[I nd.kind,I nd.num,v]]) (h:StAt w sv s F) (ho:s.Ok) (hp:0≤p∧p < s.ns.length)
   (hm:nd.may=true) (hpl:okPl s.ns.length nd.args=true) (hv:Ints w v nd.args)
   (hk:∀ w' F',StAt w' sv { s with ns:=s.ns.set p.toNat nd} F'→Grow F F' w w'→K (I 0) w') :
   E.wp Tryz.prog w ρ K (.raw ⟨d,.call { callee:=.invoke x "Set",args:=args,argTypes:=at'},ty,pos,af,none⟩):=by
 have hn:=ho.n
 have hw:=ho.wf
 have hkd:=ho.kd
 obtain ⟨kd,sz,ns⟩:=s
 have e1:setS ns p nd=(0,ns.set p.toNat nd):=by unfold setS;rw [if_neg (by simpa using hp),if_neg (by simp [hm]),if_neg (by simpa using hpl)]
 have e2:gsetS ns p nd=(0,ns.set p.toNat nd):=by unfold gsetS;rw [if_neg (by simpa using hp),if_neg (by simp [hm]),if_neg (by simpa using hpl)]
 cases kd with
 | ref=>exact h.elim
 | hp t=>
   obtain ⟨a,rfl,h⟩:=h
   refine e_iv hx ha (mhSet _ _) Tryz.func202 rfl rfl ((set_ok a _ _ _ _ _ v _ w h hn (wf_args8 hw) hv).mono ?_)
   rintro r w' ⟨rfl,F',h1,h2⟩
   rw [e1] at h1 ⊢
   exact hk w' F' ⟨a,rfl,h1⟩ h2
 | gn y o t=>
   obtain ⟨a,rfl,h⟩:=h
   refine e_iv hx ha (mgSet _ _) Tryz.func156 rfl rfl ((gset_ok w a _ _ _ _ _ _ _ v _ h hkd.1 hn (wf_args8 hw) hv).mono ?_)
   rintro r w' ⟨rfl,F',h1,h2⟩
   rw [e2] at h1 ⊢
   exact hk w' F' ⟨a,rfl,h1⟩ h2
theorem s_add {nd:Nd} {v:Value} (hx:(toO x).ev ρ=some sv) (ha:evs ρ (args.toList.map toO)=some [.agg #[I nd.kind,I nd.num,v]]) (h:StAt w sv s F) (ho:s.Ok)
   (hm:nd.may=true) (hpl:okPl s.ns.length nd.args=true) (hv:Ints w v nd.args)
   (hk:(s.ns.length:Int) < s.size→∀ w' F',StAt w' sv { s with ns:=s.ns++[nd]} F'→Grow F F' w w'→K (.tuple #[I s.ns.length,I 0]) w')
   (hk':(s.ns.length:Int)=s.size→∀ w' F' e,e≠0→StAt w' sv s F'→Grow F F' w w'→K (.tuple #[I 0,I e]) w') :
   E.wp Tryz.prog w ρ K (.raw ⟨d,.call { callee:=.invoke x "Add",args:=args,argTypes:=at'},ty,pos,af,none⟩):=by
 have hn:=ho.n
 have hw:=ho.wf
 have hkd:=ho.kd
 have hl:=ho.len
 have hhi:=ho.hi
 obtain ⟨kd,sz,ns⟩:=s
 cases kd with
 | ref=>exact h.elim
 | hp t=>
   obtain ⟨a,rfl,h⟩:=h
   refine e_iv hx ha (mhAdd _ _) Tryz.func197 rfl rfl ((add_ok a _ _ _ _ v _ w h hl hhi hv).mono ?_)
   rintro r w' ⟨rfl,F',h1,h2⟩
   by_cases hs:(ns.length:Int)=sz
   · have e:addS sz ns nd=(0,201,ns):=by unfold addS;rw [if_neg (by simp [hm]),if_neg (by simpa using hpl),if_pos hs]
     rw [e] at h1 ⊢
     exact hk' hs w' F' 201 (by decide) ⟨a,rfl,h1⟩ h2
   · have e:addS sz ns nd=((ns.length:Int),0,ns++[nd]):=by unfold addS;rw [if_neg (by simp [hm]),if_neg (by simpa using hpl),if_neg hs]
     rw [e] at h1 ⊢
     exact hk (show (ns.length:Int) < sz by have:(ns.length:Int)≤sz:=hl;omega) w' F' ⟨a,rfl,h1⟩ h2
 | gn y o t=>
   obtain ⟨a,rfl,h⟩:=h
   refine e_iv hx ha (mgAdd _ _) Tryz.func151 rfl rfl ((gadd_ok w a _ _ _ _ _ _ v _ h hkd.1 hn hv).mono ?_)
   rintro r w' ⟨rfl,F',h1,h2⟩
   by_cases hs:(ns.length:Int)=sz
   · have e:gaddS sz ns nd=(0,211,ns):=by unfold gaddS;rw [if_neg (by simp [hm]),if_neg (by simpa using hpl),if_pos (by omega)]
     rw [e] at h1 ⊢
     exact hk' hs w' F' 211 (by decide) ⟨a,rfl,h1⟩ h2
   · have e:gaddS sz ns nd=((ns.length:Int),0,ns++[nd]):=by unfold gaddS;rw [if_neg (by simp [hm]),if_neg (by simpa using hpl),if_neg (by have:(ns.length:Int)≤sz:=hl;omega)]
     rw [e] at h1 ⊢
     exact hk (show (ns.length:Int) < sz by have:(ns.length:Int)≤sz:=hl;omega) w' F' ⟨a,rfl,h1⟩ h2
def OutAt (w w':World) (F':Nat→Prop) (v:Value) (l:List Int):Prop:=∃ fp,OwnS w' 3 1 v (l.map I) l.length fp∧∀ b,fp=some b→w.heap.size≤b∧¬ F' b
theorem room_err (size t:Int) (ns:List Nd) (n:Int) (roots:List Int):((roomS size t ns n roots).out=none↔(roomS size t ns n roots).err≠0):=by
 unfold roomS;split
 · simp
 split
 · simp
 split
 · simp
 split<;>simp
theorem groom_err (size y:Int) (o:Nat) (t:Int) (ns:List Nd) (n:Int) (roots:List Int):((groomS size y o t ns n roots).res=none↔(groomS size y o t ns n roots).err≠0):=by
 unfold groomS;split
 · simp
 split
 · simp
 split
 · simp
 split
 · unfold endS;split<;>simp
 · simp
theorem s_room {n:Int} {v:Value} {roots:List Int} (hx:(toO x).ev ρ=some sv) (ha:evs ρ (args.toList.map toO)=some [I n,v]) (h:StAt w sv s F) (ho:s.Ok) (hr:Ints w v roots)
   (hv:roots≠[]→∀ x,vblk v=some x→¬ F x) (hsm:roots.length≤17592186044416)
   (hk0:(stRoom s n roots).1=none→∀ w' F' e,e≠0→StAt w' sv (stRoom s n roots).2 F'→Grow F F' w w'→K (.tuple #[.slice none 0 0,I e]) w')
   (hk1:∀ l,(stRoom s n roots).1=some l→∀ w' F' v',StAt w' sv (stRoom s n roots).2 F'→Grow F F' w w'→OutAt w w' F' v' l→K (.tuple #[v',I 0]) w') :
   E.wp Tryz.prog w ρ K (.raw ⟨d,.call { callee:=.invoke x "Room",args:=args,argTypes:=at'},ty,pos,af,none⟩):=by
 have hn:=ho.n
 have hw:=ho.wf
 have hkd:=ho.kd
 have hlo:=ho.lo
 have hhi:=ho.hi
 obtain ⟨kd,sz,ns⟩:=s
 cases kd with
 | ref=>exact h.elim
 | hp t=>
   obtain ⟨a,rfl,h⟩:=h
   refine e_iv hx ha (mhRoom _ _) Tryz.func201 rfl rfl ((room_ok a _ _ _ _ w n v roots h hn (by have:1≤sz:=hlo;omega) hhi hw hr).mono ?_)
   rintro r w' ⟨F',h1,h2,h3,h4⟩
   cases ho:(roomS sz t ns n roots).out with
   | none=>
     rw [h3 ho]
     exact hk0 ho w' F' _ ((room_err _ _ _ _ _).1 ho) ⟨a,rfl,h1⟩ h2
   | some l=>
     obtain ⟨v',fp,rfl,h5,h6⟩:=h4 l ho
     have e:(roomS sz t ns n roots).err=0:=by
       apply Classical.byContradiction
       intro hne
       rw [(room_err _ _ _ _ _).2 hne] at ho;cases ho
     rw [e]
     exact hk1 l ho w' F' v' ⟨a,rfl,h1⟩ h2 ⟨fp,h5,h6⟩
 | gn y o t=>
   obtain ⟨a,rfl,h⟩:=h
   refine e_iv hx ha (mgRoom _ _) Tryz.func155 rfl rfl ((groom_ok w a _ _ _ _ _ _ h hkd.1 hw hn ⟨by have:1≤sz:=hlo;omega,hhi⟩ hkd.2 n v roots hr hv hsm).mono ?_)
   rintro r w' ⟨v',F',rfl,h1,h2,h3,h4⟩
   cases ho:(groomS sz y o t ns n roots).res with
   | none=>
     rw [h3 ho]
     exact hk0 ho w' F' _ ((groom_err _ _ _ _ _ _ _).1 ho) ⟨a,rfl,h1⟩ h2
   | some l=>
     have e:(groomS sz y o t ns n roots).err=0:=by
       apply Classical.byContradiction
       intro hne
       rw [(groom_err _ _ _ _ _ _ _).2 hne] at ho;cases ho
     rw [e]
     exact hk1 l ho w' F' v' ⟨a,rfl,h1⟩ h2 (h4 l ho)
theorem s_col {v:Value} {roots:List Int} (hx:(toO x).ev ρ=some sv) (ha:evs ρ (args.toList.map toO)=some [v]) (h:StAt w sv s F) (ho:s.Ok) (hr:Ints w v roots) (hok:okPl s.ns.length roots=true)
   (hv:roots≠[]→∀ x,vblk v=some x→¬ F x) (hsm:roots.length≤17592186044416)
   (hk:∀ w' F' v',StAt w' sv (stCol s roots).2 F'→Grow F F' w w'→OutAt w w' F' v' (stCol s roots).1→K (.tuple #[v',I 0]) w') :
   E.wp Tryz.prog w ρ K (.raw ⟨d,.call { callee:=.invoke x "Collect",args:=args,argTypes:=at'},ty,pos,af,none⟩):=by
 have hn:=ho.n
 have hw:=ho.wf
 have hkd:=ho.kd
 obtain ⟨kd,sz,ns⟩:=s
 cases kd with
 | ref=>exact h.elim
 | hp t=>
   obtain ⟨a,rfl,h⟩:=h
   refine e_iv hx ha (mhCollect _ _) Tryz.func198 rfl rfl ((col_ok a _ _ _ _ w v roots h hn hw hr).mono ?_)
   rintro r w' ⟨_,h1⟩
   obtain ⟨v',fp,F',rfl,h2,h3,h4,h5⟩:=h1 hok
   exact hk w' F' v' ⟨a,rfl,h3⟩ h4 ⟨fp,h2,h5⟩
 | gn y o t=>
   obtain ⟨a,rfl,h⟩:=h
   refine e_iv hx ha (mgCollect _ _) Tryz.func152 rfl rfl ((gcol_ok w a _ _ _ _ _ _ h hw hn v roots hr hv hsm).mono ?_)
   rintro r w' ⟨_,h1⟩
   obtain ⟨v',rfl,fq,F',h2,h3,h4,h5⟩:=h1 hok
   refine hk w' F' v' ⟨a,rfl,h3⟩ h4 ⟨fq,?_,h5⟩
   have e:(smallRoots ns 0 roots).length=roots.length:=by simp [smallRoots]
   show OwnS w' 3 1 v' ((smallRoots ns 0 roots).map I) (smallRoots ns 0 roots).length fq
   rw [e];exact h2
end
end
section
open Go Go.W
structure Ins where
 op:Int
 a:Int
 b:Int
structure Gl where
 name:ByteArray
 arity:Int
 code:List Ins
structure Shp where
 name:ByteArray
 fields:Int
 deriving DecidableEq
structure Tab where
 shapes:List Shp
 globals:List Gl
structure It where
 con:ByteArray
 num:Int
structure Fr where
 runs:Bool
 glob:Int
 at':Int
 stack:List Int
 spine:List Int
 stands:Int
structure Mc where
 tab:Tab
 input:List Int
 gens:Bool
 every:Int
 young:Int
 base:Int
 globals:List Int
 frames:List Fr
 wait:List Int
 given:Bool
 told:List It
 steps:Int
 ended:Int
 stuck:Int
 live:Int
 st:St
def Tab.gl (t:Tab) (g:Int):Gl:=t.globals.getD g.toNat ⟨⟨#[]⟩,0,[]⟩
def Tab.sh (t:Tab) (c:Int):Shp:=t.shapes.getD c.toNat ⟨⟨#[]⟩,0⟩
def Gl.ins (g:Gl) (i:Int):Ins:=g.code.getD i.toNat ⟨0,0,0⟩
def St.ov (s:St) (p:Int):Nat:=over s.ns p.toNat
def St.nd (s:St) (p:Int):Nd:=ndAt s.ns (s.ov p)
def St.set (s:St) (p:Nat) (nd:Nd):St:={ s with ns:=s.ns.set p nd}
def St.add (s:St) (nd:Nd):St:={ s with ns:=s.ns++[nd]}
def Fr.mapP (g:Int→Int) (f:Fr):Fr:={ f with stack:=f.stack.map g,spine:=f.spine.map g,stands:=g f.stands}
def Mc.mapP (g:Int→Int) (M:Mc):Mc:={ M with globals:=M.globals.map g,frames:=M.frames.map (Fr.mapP g),wait:=M.wait.map g}
def Fr.roots (f:Fr):List Int:=f.spine++f.stack++[f.stands]
def Mc.roots (M:Mc):List Int:=M.globals++M.frames.flatMap Fr.roots++M.wait
def Fr.place (f:Fr) (n:Int):Int:=f.stack.getD (f.stack.length - 1 - n.toNat) 0
def Fr.push (f:Fr) (p:Int):Fr:={ f with stack:=f.stack++[p]}
def Fr.pop (f:Fr) (n:Int):Fr:={ f with stack:=f.stack.take (f.stack.length - n.toNat)}
def Mc.top (M:Mc):Fr:=M.frames.getD (M.frames.length - 1) ⟨false,0,0,[],[],0⟩
def Mc.setTop (M:Mc) (f:Fr):Mc:={ M with frames:=M.frames.set (M.frames.length - 1) f}
def Mc.ref (M:Mc):Bool:=match M.st.kd with | .ref=>true | _=>false
def Mc.nv (M:Mc) (p:Int):Int:=if M.ref then (M.st.ov p:Int) else p
def Mc.fail (M:Mc) (how:Int):Mc:={ M with ended:=3,stuck:=how}
def Mc.leave (M:Mc):Mc:={ M with frames:=M.frames.take (M.frames.length - 1)}
def newFr (p:Int):Fr:=⟨false,0,0,[],[],p⟩
def Mc.enter (M:Mc) (p:Int):Mc:={ M with frames:=M.frames++[newFr p]}
def Mc.quick (M:Mc) (n:Int):Bool:=decide (n≤M.st.size - M.st.ns.length)&&(M.ref || !M.gens||decide (M.st.ns.length - M.base+n≤M.young))
def stRen (s:St) (n:Int) (roots:List Int):Int→Int:=
 match s.kd with
 | .hp _=>if n≤s.size - s.ns.length then id else num s.ns (reached s.ns roots)
 | .ref=>num s.ns (reached s.ns roots)
 | .gn y o _=>if n≤y - (s.ns.length - o)∧n≤s.size - s.ns.length then id
   else if n > s.size - (smallNs s.ns o roots).length then fun p=>numF (smallNs s.ns o roots) 0 (smallO (smallNs s.ns o roots) 0 (smallRoots s.ns o roots)) (numF s.ns o (smallO s.ns o roots) p)
   else numF s.ns o (smallO s.ns o roots)
def Mc.after (M:Mc) (g:Int→Int) (s:St):Mc:={ M.mapP g with st:=s,base:=s.ns.length}
def Mc.room (M:Mc) (n:Int):Bool×Mc:=
 if M.quick n=true then (true,M) else
 match (stRoom M.st n M.roots).1 with
 | none=>(false,{ M with st:=(stRoom M.st n M.roots).2,live:=if M.ref then (reached M.st.ns M.roots).length else (stRoom M.st n M.roots).2.ns.length,ended:=5})
 | some _=>(true,M.after (stRen M.st n M.roots) (stRoom M.st n M.roots).2)
def Mc.item (M:Mc) (nd:Nd):It:=if nd.kind=1 then ⟨⟨#[]⟩,nd.num⟩ else ⟨(M.tab.sh nd.num).name,0⟩
def Mc.last (M:Mc):Int:=M.wait.getD (M.wait.length - 1) 0
def Mc.tell (M:Mc):Mc:=
 if (M.st.nd M.last).kind=1∨(M.st.nd M.last).kind=2 then
   { M with told := M.told ++ [M.item (M.st.nd M.last)], wait := M.wait.take (M.wait.length - 1) ++ (M.st.nd M.last).args.reverse,
            ended:=if (M.wait.take (M.wait.length - 1)++(M.st.nd M.last).args.reverse).length=0 then 2 else M.ended}
 else M.enter (M.nv M.last)
def Fr.own (f:Fr) (ar:Int):List Int:=f.spine.drop (f.spine.length - ar.toNat)
def Mc.head (M:Mc) (f:Fr) (ar:Int):Int:=match f.own ar with
 | []=>M.st.ov f.stands
 | s::_=>if M.ref then s else M.st.ov s
def Mc.call (M:Mc) (f:Fr) (g:Int):Mc:=
 if (f.own (M.tab.gl g).arity).all (fun s=>decide ((M.st.nd s).kind=3))=true then
   { M.setTop { f with runs:=true,glob:=g,at':=0,stack:=M.head f (M.tab.gl g).arity::(f.own (M.tab.gl g).arity).map (fun s=>(M.st.nd s).args.getD 1 0),spine:=f.spine.take (f.spine.length - (M.tab.gl g).arity.toNat)}
     with st:=M.st.set (M.st.ov (M.head f (M.tab.gl g).arity)) ⟨7,0,[]⟩}
 else M.fail 5
def Mc.lacks2 (M:Mc):Mc:=
 { M.setTop { M.top with stands:=(M.st.ns.length:Int)+1,spine:=[]} with
   given:=true,wait:=M.wait.set (M.wait.length - 1) ((M.st.ns.length:Int)+1),st:=(M.st.add ⟨8,0,[]⟩).add ⟨3,0,[M.last,M.st.ns.length]⟩}
def Mc.lacks (M:Mc):Mc:=
 if M.frames.length > 1 then M.leave
 else if M.given=true∨M.told.length > 0 then M.fail 5
 else if (M.room 2).1=true then (M.room 2).2.lacks2 else (M.room 2).2
def Mc.read2 (M:Mc) (k:Int):Mc:=
 { M with st:=((M.st.add ⟨1,M.input.getD k.toNat 0,[]⟩).add ⟨8,k+1,[]⟩).set (M.st.ov M.top.stands) ⟨2,4,[(M.st.ns.length:Int),(M.st.ns.length:Int)+1]⟩}
def Mc.read (M:Mc) (f:Fr) (k:Int):Mc:=
 if k≥M.input.length then { M with st:=M.st.set (M.st.ov f.stands) ⟨2,3,[]⟩}
 else if (M.room 2).1=true then (M.room 2).2.read2 k else (M.room 2).2
def Mc.unwind (M:Mc) (f:Fr):Mc:=
 if (M.st.nd f.stands).kind=3 then M.setTop { f with spine:=f.spine++[(M.st.ov f.stands:Int)],stands:=(M.st.nd f.stands).args.getD 0 0}
 else if (M.st.nd f.stands).kind=4 then (if (f.spine.length:Int)≥(M.tab.gl (M.st.nd f.stands).num).arity then M.call f (M.st.nd f.stands).num else M.lacks)
 else if (M.st.nd f.stands).kind=1∨(M.st.nd f.stands).kind=2 then (if f.spine.length > 0 then M.fail 5 else M.leave)
 else if (M.st.nd f.stands).kind=8 then M.read f (M.st.nd f.stands).num
 else if (M.st.nd f.stands).kind=6 then M.fail 5
 else M.fail 4
def cellsOf (x:Ins):Int:=if x.op=3∨x.op=6∨x.op=9∨x.op=12 then 1 else if x.op=8 then x.a else 0
def Mc.put (M:Mc) (nd:Nd) (drop:Int):Mc:={ M.setTop ((M.top.pop drop).push M.st.ns.length) with st:=M.st.add nd}
def cmpI (op a b:Int):Bool:=
 if op=6 then decide (a=b) else if op=7 then decide (a≠b) else if op=8 then decide (a < b) else if op=9 then decide (a≤b) else if op=10 then decide (a > b) else decide (a≥b)
def wrap63 (n:Int):Int:=(n+4611686018427387904) % 9223372036854775808 - 4611686018427387904
def arithNd (op a b:Int):Nd:=
 if op=1 then ⟨1,wrap63 (a+b),[]⟩ else if op=2 then ⟨1,wrap63 (a - b),[]⟩ else if op=3 then ⟨1,wrap63 (a*b),[]⟩ else if op=4 then ⟨1,wrap63 (a.tdiv b),[]⟩ else if op=5 then ⟨1,wrap63 (a.tmod b),[]⟩
 else if cmpI op a b=true then ⟨2,1,[]⟩ else ⟨2,0,[]⟩
def Mc.arith (M:Mc) (x:Ins):Mc:=
 if (M.st.nd (M.top.place 0)).kind≠1∨(M.st.nd (M.top.place 1)).kind≠1 then M.fail 5
 else if (x.a=4∨x.a=5)∧(M.st.nd (M.top.place 1)).num=0 then M.fail 3
 else M.put (arithNd x.a (M.st.nd (M.top.place 0)).num (M.st.nd (M.top.place 1)).num) 2
def Mc.alloc (M:Mc) (n:Nat):Mc:=
 { M.setTop { M.top with stack:=M.top.stack++(List.range n).map fun i=>((M.st.ns.length+i:Nat):Int)} with st:={ M.st with ns:=M.st.ns++List.replicate n ⟨6,0,[]⟩}}
def Mc.jumpIf (M:Mc) (bad go:Bool) (b:Int):Mc:=if bad=true then M.fail 5 else if go=true then M.setTop { M.top with at':=b} else M
def Mc.exec (M:Mc) (x:Ins):Mc:=
 if x.op=1 then M.setTop (M.top.push (M.top.place x.a))
 else if x.op=2 then M.setTop (M.top.push (M.globals.getD x.a.toNat 0))
 else if x.op=3 then M.put ⟨1,x.a,[]⟩ 0
 else if x.op=4 then M.setTop (M.top.pop x.a)
 else if x.op=5 then M.setTop ((M.top.pop (x.a+1)).push (M.top.place 0))
 else if x.op=6 then M.put ⟨3,0,[M.top.place 0,M.top.place 1]⟩ 2
 else if x.op=7 then { M.setTop (M.top.pop 1) with st:=M.st.set (M.st.ov (M.top.place x.a)) ⟨5,0,[(M.st.ov (M.top.place 0):Int)]⟩}
 else if x.op=8 then M.alloc x.a.toNat
 else if x.op=9 then M.put ⟨2,x.a,(List.range (M.tab.sh x.a).fields.toNat).map fun i:Nat=>M.top.place (i:Int)⟩ (M.tab.sh x.a).fields
 else if x.op=10 then
   (if (M.st.nd (M.top.place 0)).kind≠2∨(M.st.nd (M.top.place 0)).num≠x.a∨((M.st.nd (M.top.place 0)).args.length:Int)≠(M.tab.sh x.a).fields then M.fail 5
     else M.setTop { M.top.pop 1 with stack:=(M.top.pop 1).stack++(M.st.nd (M.top.place 0)).args.reverse})
 else if x.op=11 then (if (M.st.nd (M.top.place 0)).kind≠1∧(M.st.nd (M.top.place 0)).kind≠2 then M.enter (M.nv (M.top.place 0)) else M)
 else if x.op=12 then M.arith x
 else if x.op=13 then M.setTop { M.top with at':=x.a}
 else if x.op=14 then M.jumpIf (decide ((M.st.nd (M.top.place 0)).kind≠2)) (decide ((M.st.nd (M.top.place 0)).num≠x.a)) x.b
 else if x.op=15 then M.jumpIf (decide ((M.st.nd (M.top.place 0)).kind≠1)) (decide ((M.st.nd (M.top.place 0)).num≠x.a)) x.b
 else if x.op=16 then M.fail x.a
 else M.setTop { M.top with runs:=false,stands:=M.top.stack.getD 0 0,stack:=[]}
def Mc.insOf (M:Mc):Ins:=(M.tab.gl M.top.glob).ins M.top.at'
def Mc.next (M:Mc):Mc:=M.setTop { M.top with at':=M.top.at'+1}
def Mc.run (M:Mc):Mc:=
 if cellsOf M.insOf > 0∧(M.room (cellsOf M.insOf)).1=false then (M.room (cellsOf M.insOf)).2
 else if cellsOf M.insOf > 0 then (M.room (cellsOf M.insOf)).2.next.exec M.insOf
 else M.next.exec M.insOf
def Mc.work (M:Mc):Mc:=if M.frames.length=0 then M.tell else if M.top.runs=true then M.run else M.unwind M.top
def colRen (s:St) (roots:List Int):Int→Int:=
 match s.kd with
 | .gn _ _ _=>numF s.ns 0 (smallO s.ns 0 roots)
 | _=>num s.ns (reached s.ns roots)
def Mc.tidy (M:Mc):Mc:=if M.every > 0∧M.steps.tmod M.every=0 then M.after (colRen M.st M.roots) (stCol M.st M.roots).2 else M
def Mc.step (M:Mc):Mc:=
 if M.ended≠0 then M
 else if M.work.ended=5 then M.work
 else ({ M.work with steps:=M.work.steps+1}).tidy
end
section
open Go Go.W
inductive Tg where
 | no | tb | m | gl | fr | wt | tl | st
 | fb (i:Nat)
 | fs (i:Nat)
 | fp (i:Nat)
 deriving DecidableEq
abbrev Tag:=Nat→Tg
def Tag.is (τ:Tag) (fp:Option Nat) (t:Tg):Prop:=∀ b,fp=some b→τ b=t
def Tag.ext (τ τ':Tag) (w:World):Prop:=∀ b,b < w.heap.size→τ' b=τ b
def Tag.wx (τ τ':Tag) (w:World):Prop:=∀ b,b < w.heap.size→τ b≠.no→τ' b=τ b
theorem Tag.ext.wx {τ τ':Tag} {w:World} (h:τ.ext τ' w):τ.wx τ' w:=fun b hb _=>h b hb
theorem ext_refl (τ:Tag) (w:World):τ.ext τ w:=fun _ _=>rfl
theorem ext_trans {τ τ' τ'':Tag} {w w':World} (h:τ.ext τ' w) (h':τ'.ext τ'' w') (hs:w.heap.size≤w'.heap.size):τ.ext τ'' w:=
 fun b hb=>(h' b (Nat.lt_of_lt_of_le hb hs)).trans (h b hb)
def newTag (τ:Tag) (w:World) (t:Tg):Tag:=fun b=>if b < w.heap.size then τ b else t
theorem newTag_ext (τ:Tag) (w:World) (t:Tg):τ.ext (newTag τ w t) w:=fun b hb=>by simp [newTag,hb]
theorem newTag_new {τ:Tag} {w:World} {t:Tg} {b:Nat} (h:w.heap.size≤b):newTag τ w t b=t:=by simp [newTag,Nat.not_lt.2 h]
theorem is_ext {τ τ':Tag} {w:World} {fp:Option Nat} {t:Tg} (h:τ.is fp t) (he:τ.wx τ' w) (hl:∀ b,fp=some b→b < w.heap.size) (ht:t≠.no:=by decide):τ'.is fp t:=
 fun b hb=>(he b (hl b hb) (by rw [h b hb];exact ht)).trans (h b hb)
theorem is_new {τ:Tag} {w:World} {fp fp':Option Nat} {t:Tg} (h:τ.is fp t) (hl:∀ b,fp=some b→b < w.heap.size) (hf:∀ b,fp'=some b→fp=some b∨w.heap.size≤b):(newTag τ w t).is fp' t:=by
 intro b hb
 rcases hf b hb with h1 | h1
 · exact (newTag_ext τ w t b (hl b h1)).trans (h b h1)
 · exact newTag_new h1
def RowsAt (w:World) (v:Value) (sz:Nat) (rows:List (List Value)) (B:Nat→Prop):Prop:=
 ∃ a c,v = .slice a rows.length c∧(0 < rows.length→∀ ad,a=some ad→B ad.block)∧∀ i (h:i < rows.length),∃ ad,a=some ad∧rows[i].length=sz∧∀ k (hk:k < rows[i].length),w.cell? ((ad.add (i*sz)).add k)=some rows[i][k]
theorem RowsAt.mod {w w':World} {v:Value} {sz:Nat} {rows:List (List Value)} {B B' S:Nat→Prop} (h:RowsAt w v sz rows B) (hm:Mod S w w') (hd:∀ b,B b→¬ S b) (hB:∀ b,B b→B' b):RowsAt w' v sz rows B':=by
 obtain ⟨a,c,rfl,hb,h⟩:=h
 refine ⟨a,c,rfl,fun h0 ad h=>hB _ (hb h0 ad h),fun i hi=>?_⟩
 obtain ⟨ad,rfl,hl,hc⟩:=h i hi
 refine ⟨ad,rfl,hl,fun k hk=>hm.cell (hc k hk) ?_⟩
 rw [add_block,add_block]
 exact hd _ (hb (by omega) _ rfl)
def insRow (x:Ins):List Value:=[I x.op,I x.a,I x.b]
def shRow (s:Shp):List Value:=[.string s.name,I s.fields]
def TabAt (w:World) (vsh vgl:Value) (T:Tab) (B:Nat→Prop):Prop:=
 RowsAt w vsh 2 (T.shapes.map shRow) B∧∃ codes:List Value,codes.length=T.globals.length∧RowsAt w vgl 3 (List.zipWith (fun (g:Gl) (v:Value)=>[.string g.name,I g.arity,v]) T.globals codes) B ∧
   ∀ (i:Nat) (g:Gl) (v:Value),T.globals[i]? = some g→codes[i]? = some v→RowsAt w v 3 (g.code.map insRow) B
theorem TabAt.mod {w w':World} {vsh vgl:Value} {T:Tab} {B B' S:Nat→Prop} (h:TabAt w vsh vgl T B) (hm:Mod S w w') (hd:∀ b,B b→¬ S b) (hB:∀ b,B b→B' b):TabAt w' vsh vgl T B':=by
 obtain ⟨h1,codes,h2,h3,h4⟩:=h
 exact ⟨h1.mod hm hd hB,codes,h2,h3.mod hm hd hB,fun i g v hg hv=>(h4 i g v hg hv).mod hm hd hB⟩
def frCells (f:Fr) (vs vp:Value):List Value:=[.bool f.runs,I f.glob,I f.at',vs,vp,I f.stands]
structure FrIn (w:World) (τ:Tag) (i k:Nat) (f:Fr) (vs vp:Value) (fs fp:Option Nat):Prop where
 cells:w.heap[k]? = some (.cells (frCells f vs vp).toArray 106 (0,0))
 tk:τ k = .fb i
 stack:OwnS w 3 1 vs (f.stack.map I) f.stack.length fs
 ts:τ.is fs (.fs i)
 spine:OwnS w 3 1 vp (f.spine.map I) f.spine.length fp
 tp:τ.is fp (.fp i)
def FrAt (w:World) (τ:Tag) (i k:Nat) (f:Fr):Prop:=∃ vs vp fs fp,FrIn w τ i k f vs vp fs fp
def Tg.frm (i:Nat) (t:Tg):Prop:=t = .fb i∨t = .fs i∨t = .fp i
theorem FrIn.lt {w:World} {τ:Tag} {i k:Nat} {f:Fr} {vs vp:Value} {fs fp:Option Nat} (h:FrIn w τ i k f vs vp fs fp):k < w.heap.size∧(∀ b,fs=some b→b < w.heap.size)∧∀ b,fp=some b→b < w.heap.size:=
 ⟨lt_of_heap h.cells,fun b hb=>h.stack.lt hb,fun b hb=>h.spine.lt hb⟩
theorem FrIn.mod {w w':World} {τ τ':Tag} {i k:Nat} {f:Fr} {vs vp:Value} {fs fp:Option Nat} {S:Nat→Prop} (h:FrIn w τ i k f vs vp fs fp) (hm:Mod S w w') (he:τ.wx τ' w) (hd:∀ b,b < w.heap.size→S b→¬ (τ b).frm i):FrIn w' τ' i k f vs vp fs fp:=by
 obtain ⟨l1,l2,l3⟩:=h.lt
 exact ⟨hm.at h.cells (fun hs=>hd _ l1 hs (.inl h.tk)),(he _ l1 (by rw [h.tk];simp)).trans h.tk,h.stack.mod hm (fun b hb hs=>hd _ (l2 b hb) hs (.inr (.inl (h.ts b hb)))),is_ext h.ts he l2 (by simp),
   h.spine.mod hm (fun b hb hs=>hd _ (l3 b hb) hs (.inr (.inr (h.tp b hb)))),is_ext h.tp he l3 (by simp)⟩
theorem FrAt.mod {w w':World} {τ τ':Tag} {i k:Nat} {f:Fr} {S:Nat→Prop} (h:FrAt w τ i k f) (hm:Mod S w w') (he:τ.wx τ' w) (hd:∀ b,b < w.heap.size→S b→¬ (τ b).frm i):FrAt w' τ' i k f:=by
 obtain ⟨vs,vp,fs,fp,h⟩:=h
 exact ⟨vs,vp,fs,fp,h.mod hm he hd⟩
def FrOp (w:World) (τ:Tag) (i k:Nat) (f':Fr) (w':World):Prop:=∃ τ',τ.ext τ' w∧FrAt w' τ' i k f'∧Mod (fun b=>(τ b).frm i) w w'
theorem sl_same (a:Option Addr) (c:Nat):(if c=0 then a else Option.map (fun x=>x) a)=a:=by
 split
 · rfl
 · cases a<;>rfl
theorem own_pre {w:World} {T sz n c:Nat} {a:Option Addr} {xs:List Value} {fp:Option Nat} (h:OwnS w T sz (.slice a n c) xs n fp) {k:Nat} (hk:k≤n):OwnS w T sz (.slice a k c) (xs.take (k*sz)) k fp:=by
 obtain ⟨h1,h2⟩:=h
 refine ⟨by rw [List.length_take,h1];exact Nat.min_eq_left (Nat.mul_le_mul_right _ hk),?_⟩
 rcases h2 with ⟨e,rfl,rfl⟩ | ⟨b,c',sp,e,rfl,h3,h4,h5⟩
 · cases e
   obtain rfl:k=0:=by omega
   exact .inl ⟨rfl,rfl,rfl⟩
 · cases e
   refine .inr ⟨b,c,xs.drop (k*sz)++sp,rfl,rfl,?_,?_,by omega⟩
   · rw [← List.append_assoc,List.take_append_drop];exact h3
   · rw [← List.append_assoc,List.take_append_drop];exact h4
theorem own_cell {w:World} {T n c:Nat} {a:Option Addr} {xs:List Value} {fp:Option Nat} (h:OwnS w T 1 (.slice a n c) xs n fp) {i:Nat} (hi:i < n):∃ b,a=some ⟨b,0,none⟩∧fp=some b∧w.cell? ⟨b,i,none⟩=xs[i]?:=by
 obtain ⟨b,c',sp,e,h1,h2,_⟩:=h.pos (by omega)
 cases e
 refine ⟨b,rfl,h1,?_⟩
 rw [cell_of h2]
 have:i < xs.length:=by rw [h.1];omega
 simp [List.getElem?_append_left this]
theorem f_place {w:World} {τ:Tag} {i k:Nat} {f:Fr} (h:FrAt w τ i k f) (hs:f.stack.length≤4294967296) {n:Int} (hn:0≤n∧n < f.stack.length) :
   CallsR Tryz.prog 68 [.pointer (some ⟨k,0,none⟩),I n] w fun r w'=>r=I (f.place n)∧w'=w.drew:=by
 obtain ⟨vs,vp,fs,fp,h⟩:=h
 obtain ⟨n,rfl⟩:∃ m:Nat,n=m:=⟨n.toNat,by omega⟩
 obtain ⟨a,c,rfl,hc,_⟩:=h.stack.val
 have hl:=h.stack.1
 have hc0:=h.cells
 refine fit68.calls rfl ?_
 unfold ir68
 obtain ⟨b,rfl,_,e⟩:=own_cell h.stack (i:=f.stack.length - 1 - n) (by omega)
 have e1:IntKind.i64.wrap (IntKind.i64.wrap ((f.stack.length:Int) - 1) - n)=((f.stack.length - 1 - n:Nat):Int):=by
   rw [wrap_in (n:=(f.stack.length:Int) - 1) (by omega) (by omega),wrap_in (by omega) (by omega)];omega
 have e2:(0:Int)≤((f.stack.length - 1 - n:Nat):Int)∧((f.stack.length - 1 - n:Nat):Int) < f.stack.length:=by omega
 have e3:w.cell? ⟨b,f.stack.length - 1 - n,none⟩=some (I (f.place n)):=by
   rw [e,List.getElem?_map,List.getElem?_eq_getElem (by omega:f.stack.length - 1 - n < f.stack.length)]
   simp only [Fr.place,Int.toNat_natCast,List.getD_eq_getElem?_getD,List.getElem?_eq_getElem (by omega:f.stack.length - 1 - n < f.stack.length),Option.getD_some,Option.map_some]
 (try simp only [go_sem,simprocAttr,zb4,zb6,cell_of hc0,frCells,e1,e2,e3,add_at])
theorem fr_apart {w:World} {τ:Tag} {i k:Nat} {f:Fr} {vs vp:Value} {fs fp:Option Nat} (h:FrIn w τ i k f vs vp fs fp):fs≠some k∧fp≠some k∧∀ b,fs=some b→fp≠some b:=by
 refine ⟨fun e=>?_,fun e=>?_,fun b e e'=>?_⟩
 · have:=h.ts k e;rw [h.tk] at this;cases this
 · have:=h.tp k e;rw [h.tk] at this;cases this
 · have:=h.ts b e;rw [h.tp b e'] at this;cases this
theorem fr_stack {w w2 w3:World} {τ:Tag} {i k:Nat} {f f':Fr} {vs vp vs':Value} {fs fp fs':Option Nat} (h:FrIn w τ i k f vs vp fs fp) (ho:OwnS w2 3 1 vs' (f'.stack.map I) f'.stack.length fs') (e:f'.spine=f.spine)
   (hb:w3.heap[k]? = some (.cells (frCells f' vs' vp).toArray 106 (0,0))) (hm2:Mod (fun b=>fs=some b) w w2) (hm3:Mod (· = k) w2 w3) (hf:∀ b,fs'=some b→fs=some b∨w.heap.size≤b):FrOp w τ i k f' w3:=by
 obtain ⟨l1,l2,l3⟩:=h.lt
 obtain ⟨a1,a2,a3⟩:=fr_apart h
 have hm:Mod (fun b=>fs=some b∨b=k) w w3:=(hm2.weak (fun _ h=>.inl h)).step (hm3.weak (fun _ h=>.inr h)) (fun x hx _=>hx)
 have hk:fs'≠some k:=fun e=>by
   rcases hf k e with h1 | h1
   · exact a1 h1
   · omega
 have ht:=newTag_ext τ w (.fs i)
 refine ⟨newTag τ w (.fs i),ht,⟨vs',vp,fs',fp,hb,(ht k l1).trans h.tk,ho.mod hm3 (fun b hb hh=>hk (by rw [hb,hh])),is_new h.ts l2 hf,?_,is_ext h.tp ht.wx l3 (by simp)⟩,hm.weak ?_⟩
 · rw [e]
   refine h.spine.mod hm (fun b hb2 hh=>?_)
   rcases hh with hh | hh
   · exact a3 b hh hb2
   · exact a2 (hh ▸ hb2)
 · rintro b (hh | rfl)
   · exact .inr (.inl (h.ts b hh))
   · exact .inl h.tk
theorem fr_spine {w w2 w3:World} {τ:Tag} {i k:Nat} {f f':Fr} {vs vp vp':Value} {fs fp fp':Option Nat} (h:FrIn w τ i k f vs vp fs fp) (ho:OwnS w2 3 1 vp' (f'.spine.map I) f'.spine.length fp') (e:f'.stack=f.stack)
   (hb:w3.heap[k]? = some (.cells (frCells f' vs vp').toArray 106 (0,0))) (hm2:Mod (fun b=>fp=some b) w w2) (hm3:Mod (· = k) w2 w3) (hf:∀ b,fp'=some b→fp=some b∨w.heap.size≤b):FrOp w τ i k f' w3:=by
 obtain ⟨l1,l2,l3⟩:=h.lt
 obtain ⟨a1,a2,a3⟩:=fr_apart h
 have hm:Mod (fun b=>fp=some b∨b=k) w w3:=(hm2.weak (fun _ h=>.inl h)).step (hm3.weak (fun _ h=>.inr h)) (fun x hx _=>hx)
 have hk:fp'≠some k:=fun e=>by
   rcases hf k e with h1 | h1
   · exact a2 h1
   · omega
 have ht:=newTag_ext τ w (.fp i)
 refine ⟨newTag τ w (.fp i),ht,⟨vs,vp',fs,fp',hb,(ht k l1).trans h.tk,?_,is_ext h.ts ht.wx l2 (by simp),ho.mod hm3 (fun b hb hh=>hk (by rw [hb,hh])),is_new h.tp l3 hf⟩,hm.weak ?_⟩
 · rw [e]
   refine h.stack.mod hm (fun b hb2 hh=>?_)
   rcases hh with hh | hh
   · exact a3 b hb2 hh
   · exact a1 (hh ▸ hb2)
 · rintro b (hh | rfl)
   · exact .inr (.inr (h.tp b hh))
   · exact .inl h.tk
theorem fr_cells {w w3:World} {τ:Tag} {i k:Nat} {f f':Fr} {vs vp:Value} {fs fp:Option Nat} (h:FrIn w τ i k f vs vp fs fp) (e:f'.stack=f.stack) (e':f'.spine=f.spine)
   (hb:w3.heap[k]? = some (.cells (frCells f' vs vp).toArray 106 (0,0))) (hm3:Mod (· = k) w w3):FrOp w τ i k f' w3:=
 fr_stack h (by rw [e];exact h.stack) e' hb (Mod.refl _ w) hm3 (fun b hb=>.inl hb)
theorem f_push {w:World} {τ:Tag} {i k:Nat} {f:Fr} (h:FrAt w τ i k f) (hs:f.stack.length≤4294967296) (p:Int) :
   CallsR Tryz.prog 67 [.pointer (some ⟨k,0,none⟩),I p] w fun _ w'=>FrOp w τ i k (f.push p) w':=by
 obtain ⟨vs,vp,fs,fp,h⟩:=h
 obtain ⟨a,c,rfl,hc,_⟩:=h.stack.val
 have hc0:=h.cells
 obtain ⟨l1,l2,l3⟩:=h.lt
 refine fit67.calls rfl ?_
 unfold ir67
 (try simp only [go_sem,simprocAttr,cell_of hc0,frCells])
 refine e_bs (by rfl) (by rfl) ?_
 intro w1 hb1 hm1 hs1
 (try simp only [go_sem,simprocAttr])
 refine e_ap (v:=.slice a f.stack.length c) (news:=[I p]) rfl (h.stack.mod hm1 (fun _ _ h=>h)) rfl (fun h=>by cases h) (rd_block (xs:=[I p]) hb1) (oneI [p]) rfl (by omega) (by omega) ?_
 intro v2 w2 fs2 ho2 hm2 hf2
 have hm12:Mod (fun b=>fs=some b) w w2:=(hm1.weak (fun _ h=>h.elim)).step hm2 (fun x hx _=>hx)
 have hc2:=hm12.at hc0 (fun hh=>own_kind h.stack hh hc0 (by decide))
 obtain ⟨va,vc,rfl,_,_⟩:=ho2.val
 (try simp only [go_sem,simprocAttr])
 refine e_st1 (cs:=frCells f (.slice a f.stack.length c) vp) rfl rfl hc2 rfl (by simp [frCells]) ?_
 intro w3 hb3 hm3 hs3
 (try simp only [go_sem,simprocAttr])
 refine fr_stack (f':=f.push p) h (by simpa [Fr.push] using ho2) rfl hb3 hm12 hm3 (fun b hb=>(hf2 b hb).imp id (fun hh=>by have:=hm1.size;omega))
theorem f_pop {w:World} {τ:Tag} {i k:Nat} {f:Fr} (h:FrAt w τ i k f) (hs:f.stack.length≤4294967296) {n:Int} (hn:0≤n∧n≤f.stack.length) :
   CallsR Tryz.prog 74 [.pointer (some ⟨k,0,none⟩),I n] w fun _ w'=>FrOp w τ i k (f.pop n) w':=by
 obtain ⟨vs,vp,fs,fp,h⟩:=h
 obtain ⟨n,rfl⟩:∃ m:Nat,n=m:=⟨n.toNat,by omega⟩
 obtain ⟨a,c,rfl,hc,_⟩:=h.stack.val
 have hl:=h.stack.1
 have hc0:=h.cells
 refine fit74.calls rfl ?_
 unfold ir74
 have e1:IntKind.i64.wrap ((f.stack.length:Int) - n)=((f.stack.length - n:Nat):Int):=by rw [wrap_in (by omega) (by omega)];omega
 have e2:(0:Int)≤((f.stack.length - n:Nat):Int)∧((f.stack.length - n:Nat):Int)≤c:=by omega
 (try simp only [go_sem,simprocAttr,zb4,zb6,cell_of hc0,frCells,e1,e2,sl_same])
 refine e_st1 (cs:=frCells f (.slice a f.stack.length c) vp) (off:=3) rfl rfl hc0 rfl (by simp [frCells]) ?_
 intro w3 hb3 hm3 hs3
 (try simp only [go_sem,simprocAttr])
 exact fr_stack (w2:=w.drew) (fs':=fs) (f':=f.pop n) h (by have h2:OwnS w.drew 3 1 _ _ _ _:=own_pre h.stack (k:=f.stack.length - n) (by omega);simpa [Fr.pop,List.map_take] using h2) rfl (by simpa [frCells,Fr.pop] using hb3) ((Mod.refl _ w).drew) hm3 (fun b hb=>.inl hb)
end
section
open Go Go.W
structure SV where
 vsh:Value
 vgl:Value
 vin:Value
 vR:Value
 sv:Value
def mcCells (S:SV) (M:Mc) (vG vF vW vT:Value):List Value:=
 [S.vsh,S.vgl,S.vin,I M.st.size,.bool M.gens,I M.every,S.sv,I M.young,I M.base,vG,vF,vW,.bool M.given,vT,I M.steps,I M.ended,I M.stuck,I M.live,S.vR]
def itRow (x:It):List Value:=[.string x.con,I x.num]
def fnv (f:Nat):Value:=.func (.func f) #[] #[]
def rowsV:List (List Value):=[[.nilFunc,.nilFunc],[fnv 65,fnv 66],[fnv 65,fnv 69],[fnv 70,fnv 71],[fnv 65,fnv 73],
 [fnv 65,fnv 75],[fnv 70,fnv 76],[fnv 65,fnv 77],[fnv 78,fnv 79],
 [fnv 70,fnv 80],[fnv 65,fnv 81],[fnv 65,fnv 82],[fnv 70,fnv 83],
 [fnv 65,fnv 84],[fnv 65,fnv 85],[fnv 65,fnv 86],[fnv 65,fnv 87],[fnv 65,fnv 89]]
@[go_sem] def ptr (k:Nat):Value:=.pointer (some ⟨k,0,none⟩)
def Tag.tab (τ:Tag) (w:World):Nat→Prop:=fun b=>b < w.heap.size∧τ b = .tb
structure MIn (w:World) (τ:Tag) (m:Nat) (S:SV) (M:Mc) (vG vF vW vT:Value) (fg ff fw ft:Option Nat) (F:Nat→Prop) (ks:List Nat):Prop where
 cells:w.heap[m]? = some (.cells (mcCells S M vG vF vW vT).toArray 78 (0,0))
 tm:τ m = .m
 gl:OwnS w 3 1 vG (M.globals.map I) M.globals.length fg
 tg:τ.is fg .gl
 fr:OwnS w 104 1 vF (ks.map ptr) ks.length ff
 tf:τ.is ff .fr
 wt:OwnS w 3 1 vW (M.wait.map I) M.wait.length fw
 tw:τ.is fw .wt
 tl:OwnS w 72 2 vT (M.told.flatMap itRow) M.told.length ft
 tt:τ.is ft .tl
 st:StAt w S.sv M.st F
 tF:∀ b,F b→τ b = .st
 len:ks.length=M.frames.length
 frs:∀ (i k:Nat) (f:Fr),ks[i]? = some k→M.frames[i]? = some f→FrAt w τ i k f
 tab:TabAt w S.vsh S.vgl M.tab (τ.tab w)
 inp:Ints w S.vin M.input
 tin:∀ b,vblk S.vin=some b→τ.tab w b
 rows:RowsAt w S.vR 2 rowsV (τ.tab w)
def MAt (w:World) (τ:Tag) (m:Nat) (S:SV) (M:Mc) (ks:List Nat):Prop:=∃ vG vF vW vT fg ff fw ft F,MIn w τ m S M vG vF vW vT fg ff fw ft F ks
def Tg.own (t:Tg):Prop:=t≠.no∧t≠.tb
def MOp (w:World) (τ:Tag) (m:Nat) (S:SV) (M':Mc) (ks:List Nat) (w':World):Prop:=∃ τ',τ.ext τ' w∧MAt w' τ' m S M' ks∧Mod (fun b=>(τ b).own) w w'
section
variable {w w':World} {τ τ':Tag} {m:Nat} {S:SV} {M:Mc} {vG vF vW vT:Value} {fg ff fw ft:Option Nat} {F:Nat→Prop} {ks:List Nat} {X:Nat→Prop}
theorem MIn.lt (h:MIn w τ m S M vG vF vW vT fg ff fw ft F ks):m < w.heap.size:=lt_of_heap h.cells
theorem MIn.cells' (h:MIn w τ m S M vG vF vW vT fg ff fw ft F ks) (hm:Mod X w w') (he:τ.wx τ' w) (hd:∀ b,b < w.heap.size→X b→τ b≠.m) :
   w'.heap[m]? = some (.cells (mcCells S M vG vF vW vT).toArray 78 (0,0))∧τ' m = .m:=
 ⟨hm.at h.cells (fun hx=>hd _ h.lt hx h.tm),(he _ h.lt (by rw [h.tm];simp)).trans h.tm⟩
theorem own' {T sz n:Nat} {v:Value} {xs:List Value} {fp:Option Nat} {t:Tg} (h:OwnS w T sz v xs n fp) (ht:τ.is fp t) (hm:Mod X w w') (he:τ.wx τ' w) (hd:∀ b,b < w.heap.size→X b→τ b≠t) (hn:t≠.no:=by decide) :
   OwnS w' T sz v xs n fp∧τ'.is fp t:=
 ⟨h.mod hm (fun b hb hx=>hd b (h.lt hb) hx (ht b hb)),is_ext ht he (fun b hb=>h.lt hb) hn⟩
theorem MIn.st' (h:MIn w τ m S M vG vF vW vT fg ff fw ft F ks) (hm:Mod X w w') (he:τ.wx τ' w) (hd:∀ b,b < w.heap.size→X b→τ b≠.st):StAt w' S.sv M.st F∧∀ b,F b→τ' b = .st:=
 ⟨h.st.mod hm (fun b hb hx=>hd b (h.st.lt b hb) hx (h.tF b hb)),fun b hb=>(he b (h.st.lt b hb) (by rw [h.tF b hb];simp)).trans (h.tF b hb)⟩
theorem MIn.frs' (h:MIn w τ m S M vG vF vW vT fg ff fw ft F ks) (hm:Mod X w w') (he:τ.wx τ' w) {i k:Nat} {f:Fr} (hk:ks[i]? = some k) (hf:M.frames[i]? = some f) (hd:∀ b,b < w.heap.size→X b→¬ (τ b).frm i):FrAt w' τ' i k f:=
 (h.frs i k f hk hf).mod hm he hd
theorem tab_ext (he:τ.wx τ' w) (hs:w.heap.size≤w'.heap.size) (b:Nat) (h:τ.tab w b):τ'.tab w' b:=⟨Nat.lt_of_lt_of_le h.1 hs,(he b h.1 (by rw [h.2];simp)).trans h.2⟩
theorem MIn.tabs' (h:MIn w τ m S M vG vF vW vT fg ff fw ft F ks) (hm:Mod X w w') (he:τ.wx τ' w) (hd:∀ b,b < w.heap.size→X b→τ b≠.tb) :
   TabAt w' S.vsh S.vgl M.tab (τ'.tab w')∧Ints w' S.vin M.input∧(∀ b,vblk S.vin=some b→τ'.tab w' b)∧RowsAt w' S.vR 2 rowsV (τ'.tab w'):=by
 have hx:∀ b,τ.tab w b→¬ X b:=fun b hb hx=>hd b hb.1 hx hb.2
 exact ⟨h.tab.mod hm hx (tab_ext he hm.size),h.inp.mod hm (fun b hb=>hx b (h.tin b hb)),fun b hb=>tab_ext he hm.size b (h.tin b hb),h.rows.mod hm hx (tab_ext he hm.size)⟩
theorem MIn.mod (h:MIn w τ m S M vG vF vW vT fg ff fw ft F ks) (hm:Mod X w w') (he:τ.wx τ' w) (hd:∀ b,b < w.heap.size→X b→τ b = .no):MIn w' τ' m S M vG vF vW vT fg ff fw ft F ks:=by
 have hd':∀ {t:Tg},t≠.no→∀ b,b < w.heap.size→X b→τ b≠t:=fun ht b hb hx e=>ht (e.symm.trans (hd b hb hx))
 obtain ⟨c1,c2⟩:=h.cells' hm he (hd' (by simp))
 obtain ⟨g1,g2⟩:=own' h.gl h.tg hm he (hd' (by simp))
 obtain ⟨f1,f2⟩:=own' h.fr h.tf hm he (hd' (by simp))
 obtain ⟨w1,w2⟩:=own' h.wt h.tw hm he (hd' (by simp))
 obtain ⟨t1,t2⟩:=own' h.tl h.tt hm he (hd' (by simp))
 obtain ⟨s1,s2⟩:=h.st' hm he (hd' (by simp))
 obtain ⟨b1,b2,b3,b4⟩:=h.tabs' hm he (hd' (by simp))
 refine ⟨c1,c2,g1,g2,f1,f2,w1,w2,t1,t2,s1,s2,h.len,fun i k f hk hf=>h.frs' hm he hk hf (fun b hb hx=>?_),b1,b2,b3,b4⟩
 rw [hd b hb hx]
 rintro (h | h | h)<;>cases h
theorem MAt.mod (h:MAt w τ m S M ks) (hm:Mod X w w') (he:τ.wx τ' w) (hd:∀ b,b < w.heap.size→X b→τ b = .no):MAt w' τ' m S M ks:=by
 obtain ⟨vG,vF,vW,vT,fg,ff,fw,ft,F,h⟩:=h
 exact ⟨vG,vF,vW,vT,fg,ff,fw,ft,F,h.mod hm he hd⟩
theorem MIn.frame (h:MIn w τ m S M vG vF vW vT fg ff fw ft F ks) {i k:Nat} {f':Fr} (hk:ks[i]? = some k) (hm:Mod (fun b=>(τ b).frm i) w w') (he:τ.wx τ' w) (hf:FrAt w' τ' i k f') :
   MIn w' τ' m S { M with frames:=M.frames.set i f'} vG vF vW vT fg ff fw ft F ks:=by
 have hd':∀ {t:Tg},¬ t.frm i→∀ b,b < w.heap.size→(τ b).frm i→τ b≠t:=fun ht b hb hx e=>ht (e ▸ hx)
 obtain ⟨c1,c2⟩:=h.cells' hm he (hd' (by simp [Tg.frm]))
 obtain ⟨g1,g2⟩:=own' h.gl h.tg hm he (hd' (by simp [Tg.frm]))
 obtain ⟨f1,f2⟩:=own' h.fr h.tf hm he (hd' (by simp [Tg.frm]))
 obtain ⟨w1,w2⟩:=own' h.wt h.tw hm he (hd' (by simp [Tg.frm]))
 obtain ⟨t1,t2⟩:=own' h.tl h.tt hm he (hd' (by simp [Tg.frm]))
 obtain ⟨s1,s2⟩:=h.st' hm he (hd' (by simp [Tg.frm]))
 obtain ⟨b1,b2,b3,b4⟩:=h.tabs' hm he (hd' (by simp [Tg.frm]))
 refine ⟨c1,c2,g1,g2,f1,f2,w1,w2,t1,t2,s1,s2,by simpa using h.len,fun j k' f hk' hf'=>?_,b1,b2,b3,b4⟩
 simp only [List.getElem?_set] at hf'
 split at hf'
 · rename_i hij
   subst hij
   split at hf'
   · cases hf'
     rw [hk] at hk';cases hk'
     exact hf
   · cases hf'
 · rename_i hij
   refine h.frs' hm he hk' hf' (fun b hb hx=>?_)
   rintro (h1 | h1 | h1)<;>rw [h1] at hx<;>(rcases hx with hx | hx | hx<;>simp at hx<;>exact hij hx.symm)
end
open Classical in
noncomputable def stTag (τ:Tag) (w:World) (F:Nat→Prop):Tag:=fun b=>if b < w.heap.size then τ b else if F b then .st else .no
theorem stTag_ext (τ:Tag) (w:World) (F:Nat→Prop):τ.ext (stTag τ w F) w:=fun b hb=>by simp [stTag,hb]
theorem stTag_st {τ:Tag} {w:World} {F:Nat→Prop} {b:Nat} (h:w.heap.size≤b) (hF:F b):stTag τ w F b = .st:=by simp [stTag,Nat.not_lt.2 h,hF]
theorem stTag_no {τ:Tag} {w:World} {F:Nat→Prop} {b:Nat} (h:w.heap.size≤b) (hF:¬ F b):stTag τ w F b = .no:=by simp [stTag,Nat.not_lt.2 h,hF]
section
variable {w w':World} {τ τ':Tag} {m:Nat} {S:SV} {M:Mc} {vG vF vW vT:Value} {fg ff fw ft:Option Nat} {F:Nat→Prop} {ks:List Nat} {X:Nat→Prop}
theorem MIn.store (h:MIn w τ m S M vG vF vW vT fg ff fw ft F ks) {s:St} {F':Nat→Prop} (hg:Grow F F' w w') (hs:StAt w' S.sv s F') (hz:s.size=M.st.size) :
   MIn w' (stTag τ w F') m S { M with st:=s} vG vF vW vT fg ff fw ft F' ks:=by
 obtain ⟨hm,hgr⟩:=hg
 have he:=(stTag_ext τ w F').wx
 have hd':∀ {t:Tg},t≠.st→∀ b,b < w.heap.size→F b→τ b≠t:=fun ht b hb hx e=>ht (e.symm.trans (h.tF b hx))
 obtain ⟨c1,c2⟩:=h.cells' hm he (hd' (by simp))
 obtain ⟨g1,g2⟩:=own' h.gl h.tg hm he (hd' (by simp))
 obtain ⟨f1,f2⟩:=own' h.fr h.tf hm he (hd' (by simp))
 obtain ⟨w1,w2⟩:=own' h.wt h.tw hm he (hd' (by simp))
 obtain ⟨t1,t2⟩:=own' h.tl h.tt hm he (hd' (by simp))
 obtain ⟨b1,b2,b3,b4⟩:=h.tabs' hm he (hd' (by simp))
 refine ⟨?_,c2,g1,g2,f1,f2,w1,w2,t1,t2,hs,fun b hb=>?_,h.len,fun i k f hk hf=>h.frs' hm he hk hf (fun b hb hx=>?_),b1,b2,b3,b4⟩
 · rw [c1]
   simp only [mcCells,hz]
 · rcases hgr b hb with h1 | h1
   · exact (stTag_ext τ w F' b (h.st.lt b h1)).trans (h.tF b h1)
   · exact stTag_st h1 hb
 · rw [h.tF b hx]
   rintro (h | h | h)<;>cases h
theorem MIn.scal (h:MIn w τ m S M vG vF vW vT fg ff fw ft F ks) {M':Mc} (hm:Mod (· = m) w w') (hc:w'.heap[m]? = some (.cells (mcCells S M' vG vF vW vT).toArray 78 (0,0)))
   (e1:M'.globals=M.globals) (e2:M'.frames=M.frames) (e3:M'.wait=M.wait) (e4:M'.told=M.told) (e5:M'.st=M.st) (e6:M'.tab=M.tab) (e7:M'.input=M.input):MIn w' τ m S M' vG vF vW vT fg ff fw ft F ks:=by
 have he:τ.wx τ w:=(ext_refl τ w).wx
 have hd':∀ {t:Tg},t≠.m→∀ b,b < w.heap.size→b=m→τ b≠t:=fun ht b hb hx e=>by subst hx;exact ht (e.symm.trans h.tm)
 obtain ⟨g1,g2⟩:=own' h.gl h.tg hm he (hd' (by simp))
 obtain ⟨f1,f2⟩:=own' h.fr h.tf hm he (hd' (by simp))
 obtain ⟨w1,w2⟩:=own' h.wt h.tw hm he (hd' (by simp))
 obtain ⟨t1,t2⟩:=own' h.tl h.tt hm he (hd' (by simp))
 obtain ⟨s1,s2⟩:=h.st' hm he (hd' (by simp))
 obtain ⟨b1,b2,b3,b4⟩:=h.tabs' hm he (hd' (by simp))
 refine ⟨hc,h.tm,by rw [e1];exact g1,g2,f1,f2,by rw [e3];exact w1,w2,by rw [e4];exact t1,t2,by rw [e5];exact s1,s2,by rw [e2];exact h.len,fun i k f hk hf=>h.frs' hm he hk (by rw [← e2];exact hf) (fun b hb hx=>?_),
   by rw [e6];exact b1,by rw [e7];exact b2,b3,b4⟩
 subst hx
 rw [h.tm]
 rintro (h | h | h)<;>cases h
theorem MIn.waits (h:MIn w τ m S M vG vF vW vT fg ff fw ft F ks) {M':Mc} {l:List Int} {v:Value} {fw':Option Nat} (he:τ.wx τ' w) (hm:Mod (fun b=>fw=some b∨b=m) w w')
   (hc:w'.heap[m]? = some (.cells (mcCells S M' vG vF v vT).toArray 78 (0,0))) (ho:OwnS w' 3 1 v (l.map I) l.length fw') (ht:τ'.is fw' .wt)
   (e1:M'.globals=M.globals) (e2:M'.frames=M.frames) (e3:M'.wait=l) (e4:M'.told=M.told) (e5:M'.st=M.st) (e6:M'.tab=M.tab) (e7:M'.input=M.input):MIn w' τ' m S M' vG vF v vT fg ff fw' ft F ks:=by
 have hx':∀ b,fw=some b∨b=m→τ b = .wt∨τ b = .m:=fun b hb=>hb.imp (fun h'=>h.tw b h') (fun h'=>by subst h';exact h.tm)
 have hd':∀ {t:Tg},t≠.m→t≠.wt→∀ b,b < w.heap.size→(fw=some b∨b=m)→τ b≠t:=fun ht ht' b hb hx e=>by
   rcases hx' b hx with h1 | h1
   · exact ht' (e.symm.trans h1)
   · exact ht (e.symm.trans h1)
 obtain ⟨g1,g2⟩:=own' h.gl h.tg hm he (hd' (by simp) (by simp))
 obtain ⟨f1,f2⟩:=own' h.fr h.tf hm he (hd' (by simp) (by simp))
 obtain ⟨t1,t2⟩:=own' h.tl h.tt hm he (hd' (by simp) (by simp))
 obtain ⟨s1,s2⟩:=h.st' hm he (hd' (by simp) (by simp))
 obtain ⟨b1,b2,b3,b4⟩:=h.tabs' hm he (hd' (by simp) (by simp))
 refine ⟨hc,(he m h.lt (by rw [h.tm];simp)).trans h.tm,by rw [e1];exact g1,g2,f1,f2,by rw [e3];exact ho,ht,by rw [e4];exact t1,t2,by rw [e5];exact s1,s2,by rw [e2];exact h.len,
   fun i k f hk hf=>h.frs' hm he hk (by rw [← e2];exact hf) (fun b hb hx=>?_),by rw [e6];exact b1,by rw [e7];exact b2,b3,b4⟩
 rcases hx' b hx with h1 | h1<;>rw [h1]<;>rintro (h | h | h)<;>cases h
theorem MIn.tolds (h:MIn w τ m S M vG vF vW vT fg ff fw ft F ks) {M':Mc} {l:List It} {v:Value} {ft':Option Nat} (he:τ.wx τ' w) (hm:Mod (fun b=>ft=some b∨b=m) w w')
   (hc:w'.heap[m]? = some (.cells (mcCells S M' vG vF vW v).toArray 78 (0,0))) (ho:OwnS w' 72 2 v (l.flatMap itRow) l.length ft') (ht:τ'.is ft' .tl)
   (e1:M'.globals=M.globals) (e2:M'.frames=M.frames) (e3:M'.wait=M.wait) (e4:M'.told=l) (e5:M'.st=M.st) (e6:M'.tab=M.tab) (e7:M'.input=M.input):MIn w' τ' m S M' vG vF vW v fg ff fw ft' F ks:=by
 have hx':∀ b,ft=some b∨b=m→τ b = .tl∨τ b = .m:=fun b hb=>hb.imp (fun h'=>h.tt b h') (fun h'=>by subst h';exact h.tm)
 have hd':∀ {t:Tg},t≠.m→t≠.tl→∀ b,b < w.heap.size→(ft=some b∨b=m)→τ b≠t:=fun ht ht' b hb hx e=>by
   rcases hx' b hx with h1 | h1
   · exact ht' (e.symm.trans h1)
   · exact ht (e.symm.trans h1)
 obtain ⟨g1,g2⟩:=own' h.gl h.tg hm he (hd' (by simp) (by simp))
 obtain ⟨f1,f2⟩:=own' h.fr h.tf hm he (hd' (by simp) (by simp))
 obtain ⟨w1,w2⟩:=own' h.wt h.tw hm he (hd' (by simp) (by simp))
 obtain ⟨s1,s2⟩:=h.st' hm he (hd' (by simp) (by simp))
 obtain ⟨b1,b2,b3,b4⟩:=h.tabs' hm he (hd' (by simp) (by simp))
 refine ⟨hc,(he m h.lt (by rw [h.tm];simp)).trans h.tm,by rw [e1];exact g1,g2,f1,f2,by rw [e3];exact w1,w2,by rw [e4];exact ho,ht,by rw [e5];exact s1,s2,by rw [e2];exact h.len,
   fun i k f hk hf=>h.frs' hm he hk (by rw [← e2];exact hf) (fun b hb hx=>?_),by rw [e6];exact b1,by rw [e7];exact b2,b3,b4⟩
 rcases hx' b hx with h1 | h1<;>rw [h1]<;>rintro (h | h | h)<;>cases h
theorem MIn.frames (h:MIn w τ m S M vG vF vW vT fg ff fw ft F ks) {M':Mc} {v:Value} {ff':Option Nat} {ks':List Nat} (he:τ.wx τ' w) (hm:Mod (fun b=>ff=some b∨b=m) w w')
   (hc:w'.heap[m]? = some (.cells (mcCells S M' vG v vW vT).toArray 78 (0,0))) (ho:OwnS w' 104 1 v (ks'.map ptr) ks'.length ff') (ht:τ'.is ff' .fr) (hl:ks'.length=M'.frames.length)
   (hf:∀ (i k:Nat) (f:Fr),ks'[i]? = some k→M'.frames[i]? = some f→(ks[i]? = some k∧M.frames[i]? = some f)∨FrAt w' τ' i k f)
   (e1:M'.globals=M.globals) (e3:M'.wait=M.wait) (e4:M'.told=M.told) (e5:M'.st=M.st) (e6:M'.tab=M.tab) (e7:M'.input=M.input):MIn w' τ' m S M' vG v vW vT fg ff' fw ft F ks':=by
 have hx':∀ b,ff=some b∨b=m→τ b = .fr∨τ b = .m:=fun b hb=>hb.imp (fun h'=>h.tf b h') (fun h'=>by subst h';exact h.tm)
 have hd':∀ {t:Tg},t≠.m→t≠.fr→∀ b,b < w.heap.size→(ff=some b∨b=m)→τ b≠t:=fun ht ht' b hb hx e=>by
   rcases hx' b hx with h1 | h1
   · exact ht' (e.symm.trans h1)
   · exact ht (e.symm.trans h1)
 obtain ⟨g1,g2⟩:=own' h.gl h.tg hm he (hd' (by simp) (by simp))
 obtain ⟨w1,w2⟩:=own' h.wt h.tw hm he (hd' (by simp) (by simp))
 obtain ⟨t1,t2⟩:=own' h.tl h.tt hm he (hd' (by simp) (by simp))
 obtain ⟨s1,s2⟩:=h.st' hm he (hd' (by simp) (by simp))
 obtain ⟨b1,b2,b3,b4⟩:=h.tabs' hm he (hd' (by simp) (by simp))
 refine ⟨hc,(he m h.lt (by rw [h.tm];simp)).trans h.tm,by rw [e1];exact g1,g2,ho,ht,by rw [e3];exact w1,w2,by rw [e4];exact t1,t2,by rw [e5];exact s1,s2,hl,
   fun i k f hk hf'=>?_,by rw [e6];exact b1,by rw [e7];exact b2,b3,b4⟩
 rcases hf i k f hk hf' with ⟨k1,k2⟩ | k1
 · refine h.frs' hm he k1 k2 (fun b hb hx=>?_)
   rcases hx' b hx with h1 | h1<;>rw [h1]<;>rintro (h | h | h)<;>cases h
 · exact k1
end
theorem MOp.cat {w w' w'':World} {τ τ':Tag} {m:Nat} {S:SV} {M2:Mc} {ks:List Nat} (h1:τ.ext τ' w) (h3:Mod (fun b=>(τ b).own) w w') (k:MOp w' τ' m S M2 ks w''):MOp w τ m S M2 ks w'':=by
 obtain ⟨τ'',k1,k2,k3⟩:=k
 exact ⟨τ'',ext_trans h1 k1 h3.size,k2,h3.step k3 (fun i hi hl=>by rw [h1 i hl] at hi;exact hi)⟩
end
section
open Go Go.W
theorem m_add {w:World} {τ:Tag} {m:Nat} {S:SV} {M:Mc} {ks:List Nat} (h:MAt w τ m S M ks) (ho:M.st.Ok) {nd:Nd} {v:Value} (hm:nd.may=true) (hp:okPl M.st.ns.length nd.args=true) (hv:Ints w v nd.args) (hr:(M.st.ns.length:Int) < M.st.size) :
   CallsR Tryz.prog 72 [ptr m,I nd.kind,I nd.num,v] w fun r w'=>r=I M.st.ns.length∧MOp w τ m S { M with st:=M.st.add nd} ks w':=by
 obtain ⟨vG,vF,vW,vT,fg,ff,fw,ft,F,h⟩:=h
 have hc:=h.cells
 obtain ⟨a,c,rfl,hvl,hvx⟩:=hv
 refine fit72.calls rfl ?_
 unfold ir72 ptr
 (try simp only [go_sem,simprocAttr,cell_of hc,mcCells])
 refine s_add (nd:=nd) (v:=.slice a nd.args.length c) rfl rfl h.st ho hm hp ⟨a,c,rfl,hvl,hvx⟩ ?_ (fun e=>by omega)
 intro _ w1 F1 hs1 hg1
 (try simp only [go_sem,simprocAttr])
 refine ⟨_,stTag_ext τ w F1,⟨vG,vF,vW,vT,fg,ff,fw,ft,F1,?_⟩,hg1.1.weak (fun b hb=>?_)⟩
 · exact h.store (s:=M.st.add nd) hg1 hs1 rfl
 · rw [h.tF b hb];simp [Tg.own]
def Ends (ns:List Nd):Prop:=∀ p,p < ns.length→nxt ns (over ns p)=over ns p
theorem m_fail {w:World} {τ:Tag} {m:Nat} {S:SV} {M:Mc} {ks:List Nat} (h:MAt w τ m S M ks) (how:Int):CallsR Tryz.prog 88 [ptr m,I how] w fun _ w'=>MOp w τ m S (M.fail how) ks w':=by
 obtain ⟨vG,vF,vW,vT,fg,ff,fw,ft,F,h⟩:=h
 have hc:=h.cells
 refine fit88.calls rfl ?_
 unfold ir88 ptr
 (try simp only [go_sem,simprocAttr])
 refine e_st1 (off:=15) rfl rfl hc rfl (by simp [mcCells]) ?_
 intro w1 hb1 hm1 hs1
 (try simp only [go_sem,simprocAttr])
 refine e_st1 (off:=16) rfl rfl hb1 rfl (by simp [mcCells]) ?_
 intro w2 hb2 hm2 hs2
 (try simp only [go_sem,simprocAttr])
 refine ⟨τ,ext_refl τ w,⟨vG,vF,vW,vT,fg,ff,fw,ft,F,h.scal (M':=M.fail how) (hm1.trans hm2) (by simpa [mcCells,Mc.fail] using hb2) rfl rfl rfl rfl rfl rfl rfl⟩,(hm1.trans hm2).weak (fun b hb=>by subst hb;rw [h.tm];simp [Tg.own])⟩
theorem m_leave {w:World} {τ:Tag} {m:Nat} {S:SV} {M:Mc} {ks:List Nat} (h:MAt w τ m S M ks) (hn:0 < M.frames.length) (hs:M.frames.length≤4294967296):CallsR Tryz.prog 100 [ptr m] w fun _ w'=>MOp w τ m S M.leave (ks.take (ks.length - 1)) w':=by
 obtain ⟨vG,vF,vW,vT,fg,ff,fw,ft,F,h⟩:=h
 have hc:=h.cells
 have hl:=h.len
 obtain ⟨a,c,rfl,hcc,_⟩:=h.fr.val
 refine fit100.calls rfl ?_
 unfold ir100 ptr
 have e1:IntKind.i64.wrap ((ks.length:Int) - 1)=((ks.length - 1:Nat):Int):=by rw [wrap_in (by omega) (by omega)];omega
 have e2:(0:Int)≤((ks.length - 1:Nat):Int)∧((ks.length - 1:Nat):Int)≤c:=by omega
 (try simp only [go_sem,simprocAttr,zb4,zb6,cell_of hc,mcCells,e1,e2,sl_same])
 refine e_st1 (off:=10) rfl rfl hc rfl (by simp [mcCells]) ?_
 intro w1 hb1 hm1 hs1
 (try simp only [go_sem,simprocAttr])
 have hm1':Mod (fun b=>ff=some b∨b=m) w w1:=(Mod.of_drew hm1).weak (fun b hb=>.inr hb)
 refine ⟨τ,ext_refl τ w,⟨vG,.slice a (ks.length - 1) c,vW,vT,fg,ff,fw,ft,F,h.frames (ext_refl τ w).wx hm1' (by simpa [mcCells,Mc.leave] using hb1) ?_ h.tf (by simp [Mc.leave,hl]) ?_ rfl rfl rfl rfl rfl rfl⟩,
   hm1'.weak ?_⟩
 · have:=(own_pre h.fr (k:=ks.length - 1) (by omega)).mod (Mod.of_drew hm1) (fun b hb hh=>by subst hh;have:=h.tf b hb;rw [h.tm] at this;cases this)
   simpa [List.map_take] using this
 · intro i k f hk hf
   simp only [Mc.leave,List.getElem?_take] at hk hf
   split at hk
   · split at hf
     · exact .inl ⟨hk,hf⟩
     · cases hf
   · cases hk
 · rintro b (hb | rfl)
   · rw [h.tf b hb];simp [Tg.own]
   · rw [h.tm];simp [Tg.own]
end
section
open Go Go.W
theorem ends_fit {ns:List Nd} (hw:WF ns) (he:Ends ns) {p:Nat} (hp:p < ns.length):∃ k,∀ j,k≤j→fit (nxt ns) j p=over ns p:=by
 obtain ⟨k,_,h⟩:=ov_mem (nxt ns) ns.length p
 refine ⟨k+ns.length,fun j hj=>?_⟩
 have h:over ns p=fit (nxt ns) (k+ns.length) p:=h
 obtain ⟨d,rfl⟩:∃ d,j=d+(k+ns.length):=⟨j - (k+ns.length),by omega⟩
 rw [fit_add,← h]
 exact fit_fix (he p hp) d
theorem ndAt_args {ns:List Nd} (hw:WF ns) {p:Nat} (hp:p < ns.length):(ndAt ns p).args.length≤8∧(∀ a∈(ndAt ns p).args,0≤a∧a < ns.length)∧(ind ns p=true→∃ q:Nat,(ndAt ns p).args=[(q:Int)]∧nxt ns p=q):=by
 refine ⟨?_,fun a ha=>?_,fun hi=>?_⟩
 · have h:=(wf_at hw hp).1
   simp only [Nd.may,mayB,decide_eq_true_eq] at h
   omega
 · have:=List.all_eq_true.1 (wf_at hw hp).2 a ha
   simpa using this
 · obtain ⟨q,_,h1,h2⟩:=wf_ind hw hp hi
   exact ⟨q,h1,h2⟩
theorem m_over {w:World} {τ:Tag} {m:Nat} {S:SV} {M:Mc} {ks:List Nat} (h:MAt w τ m S M ks) (ho:M.st.Ok) (he:Ends M.st.ns) {p:Int} (hp:0≤p∧p < M.st.ns.length) :
   CallsR Tryz.prog 95 [ptr m,I p] w fun r w'=>∃ v,r = .tuple #[I (M.st.ov p),.agg #[I (M.st.nd p).kind,I (M.st.nd p).num,v]]∧NewOwn w w' v (M.st.nd p).args∧Mod (fun _=>False) w w':=by
 obtain ⟨vG,vF,vW,vT,fg,ff,fw,ft,F,h⟩:=h
 have hc:=h.cells
 have hml:=h.lt
 obtain ⟨p,rfl⟩:∃ q:Nat,p=q:=⟨p.toNat,by omega⟩
 have hp':p < M.st.ns.length:=by omega
 have hw:=ho.wf
 obtain ⟨K,hK⟩:=ends_fit hw he hp'
 have hlt:∀ k,fit (nxt M.st.ns) k p < M.st.ns.length:=fun k=>fit_lt (wf_nxt_lt hw) k hp'
 refine fit95.calls rfl ?_
 unfold ir95 ptr
 (try simp only [go_sem,simprocAttr])
 refine e_al ?_
 intro w1 hb1 hm1 hs1
 have hc1:=hm1.at hc (fun h=>h)
 have hst1:=h.st.mod hm1 (fun _ _ h=>h)
 (try simp only [go_sem,simprocAttr,cell_of hc1,mcCells])
 refine s_get (p:=(p:Int)) rfl rfl hst1 hw ho.n hp ?_
 intro v2 w2 hv2 hm2
 (try simp only [go_sem,simprocAttr])
 refine e_al ?_
 intro w3 hb3 hm3 hs3
 (try simp only [go_sem,simprocAttr])
 refine e_sta (cs:=[I 0,I 0,.slice none 0 0]) rfl rfl hb3 rfl rfl ?_ ?_
 · obtain ⟨fp,hv2,_⟩:=hv2
   obtain ⟨va,vc,rfl,_⟩:=hv2.val
   simp [Value.oneCell']
 intro w4 hb4 hm4 hs4
 (try simp only [go_sem,simprocAttr])
 have hm04:Mod (fun _=>False) w w4:=((hm1.trans hm2).trans hm3).step hm4 (fun x hx hl=>by subst hx;have:=hm1.size;have:=hm2.size;omega)
 have hs12:=hm1.size
 have hs22:=hm2.size
 have hb14:w4.heap[w.heap.size]? = some (.cells #[I 0,I 0,.slice none 0 0] 87 (0,0)):=hm4.at (hm3.at (hm2.at hb1 (fun h=>h)) (fun h=>h)) (fun hh=>by omega)
 refine ir_loop (fun n ρ w'=>∃ (j:Nat) (v:Value) (fp:Option Nat),n=K - j∧Mod (fun _=>False) w w'∧w'.heap[w.heap.size]? = some (.cells #[I 0,I 0,.slice none 0 0] 87 (0,0)) ∧
   w'.heap[w2.heap.size]? = some (.cells #[I (ndAt M.st.ns (fit (nxt M.st.ns) j p)).kind,I (ndAt M.st.ns (fit (nxt M.st.ns) j p)).num,v] 87 (0,0)) ∧
   OwnS w' 3 1 v ((ndAt M.st.ns (fit (nxt M.st.ns) j p)).args.map I) (ndAt M.st.ns (fit (nxt M.st.ns) j p)).args.length fp∧(∀ b,fp=some b→w.heap.size≤b) ∧
   ρ=[(0,ptr m),(1,I (fit (nxt M.st.ns) j p:Nat)),(5,ptr w.heap.size),(6,ptr w2.heap.size)]) K ⟨0,v2,?_⟩ ?_
 · obtain ⟨fp,hv2,hf2⟩:=hv2
   refine ⟨fp,rfl,hm04,hb14,hb4,?_,fun b hb=>Nat.le_trans (by omega) (hf2 b hb),rfl⟩
   exact (hv2.mod hm3 (fun _ _ h=>h)).mod hm4 (fun b hb hh=>by subst hh;have:=hv2.lt hb;omega)
 rintro n ρ w5 ⟨j,v,fp,rfl,hm5,g1,g2,g3,g4,rfl⟩
 unfold ir95L1 ptr
 obtain ⟨n1,n2,n3⟩:=ndAt_args hw (hlt j)
 obtain ⟨va,vc,rfl,_⟩:=g3.val
 have z:(0:Int)≤0∧(0:Int) < 1:=by omega
 have hcm:=hm5.at hc (fun h=>h)
 have hst5:=h.st.mod hm5 (fun _ _ h=>h)
 have stop:nxt M.st.ns (fit (nxt M.st.ns) j p)=fit (nxt M.st.ns) j p→over M.st.ns p=fit (nxt M.st.ns) j p:=by
   intro hx
   have h1:=hK (K+j) (by omega)
   rw [fit_add] at h1
   rw [← h1]
   exact fit_fix hx K
 have hk5:((ndAt M.st.ns (fit (nxt M.st.ns) j p)).kind == 5)=ind M.st.ns (fit (nxt M.st.ns) j p):=by simp [ind,BEq.beq]
 (try simp only [go_sem,simprocAttr,cell_of g2,hk5])
 refine wpS_cut (fun ρ w'=>w5=w'∧∃ t:Bool,(t=true→∃ q:Nat,(ndAt M.st.ns (fit (nxt M.st.ns) j p)).args=[(q:Int)]∧nxt M.st.ns (fit (nxt M.st.ns) j p)=q∧q≠fit (nxt M.st.ns) j p)∧(t=false→nxt M.st.ns (fit (nxt M.st.ns) j p)=fit (nxt M.st.ns) j p) ∧
   ρ.get 0=some (ptr m)∧ρ.get 1=some (I (fit (nxt M.st.ns) j p:Nat))∧ρ.get 5=some (ptr w.heap.size)∧ρ.get 6=some (ptr w2.heap.size)∧ρ.get 27=some (.bool t)) ?_ ?_
 · cases hi:ind M.st.ns (fit (nxt M.st.ns) j p) with
   | false=>
     (try simp only [go_sem,simprocAttr])
     exact ⟨false,(fun h=>by cases h),fun _=>nxt_fix hi,rfl⟩
   | true=>
     obtain ⟨q,a1,a2⟩:=n3 hi
     have g3':=g3
     rw [a1] at g3'
     obtain ⟨b,rfl,rfl,hcell⟩:=own_cell g3' (i:=0) (by simp)
     have zl:(0:Int)≤0∧(0:Int) < (ndAt M.st.ns (fit (nxt M.st.ns) j p)).args.length:=by rw [a1];simp
     simp only [List.map_cons,List.map_nil,List.getElem?_cons_zero] at hcell
     (try simp only [go_sem,simprocAttr,zb4,zb6,cell_of g2,zl,hcell,add_at])
     refine ⟨_,fun hh=>⟨q,a1,a2,?_⟩,fun hh=>?_,rfl⟩
     · simp only [zb1,zb2,zb3,zb4,zb5] at hh;omega
     · simp only [zb1,zb2,zb3,zb4,zb5] at hh;rw [a2];omega
 rintro ρ _ ⟨rfl,t,ht,hf,r0,r1,r5,r6,r27⟩
 (try simp only [go_sem,simprocAttr,r0,r1,r5,r6,r27])
 refine ir_cond rfl (fun hh=>?_) (fun hh=>?_)
 · subst hh
   obtain ⟨q,a1,a2,a3⟩:=ht rfl
   have hjK:j < K:=by
     rcases Nat.lt_or_ge j K with h1 | h1
     · exact h1
     · exfalso
       have e1:=hK j h1
       have e2:=hK (j+1) (by omega)
       rw [fit_succ,a2] at e2
       exact a3 (e2.trans e1.symm)
   (try simp only [go_sem,simprocAttr])
   have zl:(0:Int)≤0∧(0:Int) < (ndAt M.st.ns (fit (nxt M.st.ns) j p)).args.length:=by rw [a1];simp
   have g3':=g3
   rw [a1] at g3'
   obtain ⟨b,rfl,rfl,hcell⟩:=own_cell g3' (i:=0) (by simp)
   simp only [List.map_cons,List.map_nil,List.getElem?_cons_zero] at hcell
   (try simp only [go_sem,simprocAttr,zb4,zb6,cell_of g2,zl,hcell,add_at,cell_of hcm,mcCells])
   have hq:q < M.st.ns.length:=by rw [← a2];exact wf_nxt_lt hw _ (hlt j)
   refine s_get (p:=(q:Int)) rfl rfl hst5 hw ho.n (by simp only at *;omega) ?_
   intro v6 w6 hv6 hm6
   obtain ⟨fp6,hv6,hf6⟩:=hv6
   obtain ⟨va6,vc6,rfl,_⟩:=hv6.val
   (try simp only [go_sem,simprocAttr])
   refine e_sta (cs:=[I (ndAt M.st.ns (fit (nxt M.st.ns) j p)).kind,I (ndAt M.st.ns (fit (nxt M.st.ns) j p)).num,.slice (some ⟨b,0,none⟩) (ndAt M.st.ns (fit (nxt M.st.ns) j p)).args.length vc]) rfl rfl (hm6.at g2 (fun h=>h)) rfl rfl ?_ ?_
   · simp [Value.oneCell']
   intro w7 hb7 hm7 hs7
   (try simp only [go_sem,simprocAttr])
   have hs6:=hm6.size
   have hs5:=hm5.size
   rw [Int.toNat_natCast] at hv6 hb7
   have eq':fit (nxt M.st.ns) (j+1) p=q:=by rw [fit_succ,a2]
   refine ⟨_,by omega,j+1,.slice va6 (ndAt M.st.ns q).args.length vc6,fp6,rfl,?_,?_,?_,?_,fun b hb=>Nat.le_trans hs5 (hf6 b hb),?_⟩
   · exact (hm5.trans hm6).step hm7 (fun x hx hl=>by subst hx;omega)
   · exact hm7.at (hm6.at g1 (fun h=>h)) (fun hh=>by omega)
   · rw [eq'];exact hb7
   · rw [eq'];exact hv6.mod hm7 (fun b hb hh=>by subst hh;have:=hf6 _ hb;have:=lt_of_heap g2;omega)
   · rw [eq']
 · subst hh
   have hov:=stop (hf rfl)
   have hd:w5.drew.heap[w2.heap.size]? = _:=g2
   (try simp only [go_sem,simprocAttr,ln_of (cs:=[_,_,_]) (off:=0) (n:=3) hd (by simp)])
   refine e_sta (cs:=[I 0,I 0,.slice none 0 0]) rfl rfl g1 rfl rfl ?_ ?_
   · simp [Value.oneCell']
   intro w7 hb7 hm7 hs7
   (try simp only [go_sem,simprocAttr,ln_of (cs:=[_,_,_]) (off:=0) (n:=3) hb7 (by simp)])
   have e1:M.st.ov (p:Int)=fit (nxt M.st.ns) j p:=by simp only [St.ov,Int.toNat_natCast];exact hov
   have e2:M.st.nd (p:Int)=ndAt M.st.ns (fit (nxt M.st.ns) j p):=by unfold St.nd;rw [e1]
   rw [e1,e2]
   have hm57:=Mod.of_drew hm7
   refine ⟨_,rfl,⟨fp,g3.mod hm57 (fun b hb hh=>own_kind g3 hb (hh ▸ g1) (by decide)),g4⟩,hm5.step hm57 (fun x hx hl=>by subst hx;omega)⟩
end
section
open Go Go.W
theorem flat_step (M:Mc) {i:Nat} {f:Fr} (hf:M.frames[i]? = some f):(M.frames.take (i+1)).flatMap Fr.roots=(M.frames.take i).flatMap Fr.roots++f.spine++f.stack++[f.stands]:=by
 have hi:i < M.frames.length:=(List.getElem?_eq_some_iff.1 hf).1
 rw [List.take_add_one,hf]
 simp [Fr.roots]
theorem roots_pre (M:Mc) {i:Nat} {f:Fr} (hf:M.frames[i]? = some f):M.globals.length+((M.frames.take i).flatMap Fr.roots).length+f.spine.length+f.stack.length+1+M.wait.length≤M.roots.length:=by
 have h1:=flat_step M hf
 have h2:M.frames=M.frames.take (i+1)++M.frames.drop (i+1):=(List.take_append_drop _ _).symm
 have h3:M.frames.flatMap Fr.roots=(M.frames.take (i+1)).flatMap Fr.roots++(M.frames.drop (i+1)).flatMap Fr.roots:=by
   conv=>lhs;rw [h2]
   rw [List.flatMap_append]
 unfold Mc.roots
 rw [h3,h1]
 simp only [List.length_append,List.length_cons,List.length_nil]
 omega
theorem frames_le (M:Mc):M.frames.length≤M.roots.length:=by
 have key:∀ l:List Fr,l.length≤(l.flatMap Fr.roots).length:=by
   intro l
   induction l with
   | nil=>simp
   | cons f l ih=>simp only [List.flatMap_cons,List.length_cons,List.length_append,Fr.roots,List.length_nil];omega
 have:=key M.frames
 unfold Mc.roots
 simp only [List.length_append]
 omega
theorem ap_new {ρ:Env} {K:Value→World→Prop} {w w2:World} {v:Value} {xs ys:List Int} {n m c:Nat} {fp:Option Nat} {xa:Option Addr} {s x:W.O} (hm:Mod (fun _=>False) w w2) (ho:OwnS w2 3 1 v (xs.map I) n fp) (hn:n=xs.length) (hf:∀ b,fp=some b→w.heap.size≤b)
   (hs:s.ev ρ=some v) (hx:x.ev ρ=some (.slice xa m c)) (hxa:xa=none→m=0) (hr:RdCells w2 xa (m*1) (ys.map I)) (hl:xs.length+ys.length≤17592186044416)
   (hk:∀ v' w' fp',Mod (fun _=>False) w w'→Mod (fun b=>fp=some b) w2 w'→OwnS w' 3 1 v' ((xs++ys).map I) (xs++ys).length fp'→(∀ b,fp'=some b→w.heap.size≤b)→K v' w'):E.wp Tryz.prog w2 ρ K (.ap 3 1 8 #[.int .i64 0] s x):=by
 have hmy:m=ys.length:=by have:=hr.1;simp at this;omega
 subst hn;subst hmy
 refine e_ap (m:=ys.length) (news:=ys.map I) hs ho hx hxa hr (oneI _) rfl (by omega) (by omega) ?_
 intro v3 w3 fp3 ho3 hm3 hf3
 refine hk v3 w3 fp3 (hm.step hm3 (fun x hx hl=>by have:=hf x hx;omega)) hm3 (by simpa using ho3) (fun b hb=>?_)
 rcases hf3 b hb with h1 | h1
 · exact hf b h1
 · have:=hm.size;omega
theorem m_roots {w:World} {τ:Tag} {m:Nat} {S:SV} {M:Mc} {ks:List Nat} (h:MAt w τ m S M ks) (hR:M.roots.length≤17592186044416) :
   CallsR Tryz.prog 47 [ptr m] w fun r w'=>NewOwn w w' r M.roots∧Mod (fun _=>False) w w':=by
 obtain ⟨vG,vF,vW,vT,fg,ff,fw,ft,F,h⟩:=h
 have hc:=h.cells
 have hl:=h.len
 have hfl:=frames_le M
 have hgl:M.globals.length+M.wait.length≤17592186044416:=by unfold Mc.roots at hR;simp only [List.length_append] at hR;omega
 refine fit47.calls rfl ?_
 unfold ir47
 (try simp only [go_sem,simprocAttr,cell_of hc,mcCells])
 obtain ⟨hgi,_⟩:=h.gl.ints (by omega)
 refine e_call (by rfl) ?_
 refine (clone_ok vG M.globals w hgi).mono ?_
 rintro r1 w1 ⟨hm1,f1,ho1,hf1⟩
 obtain ⟨a1,c1,rfl,_⟩:=ho1.val
 obtain ⟨aF,cF,rfl,_⟩:=h.fr.val
 have hc1:=hm1.at hc (fun h=>h)
 (try simp only [go_sem,simprocAttr,cell_of hc1,mcCells])
 refine ir_loop (fun n ρ w'=>∃ (i:Nat) (v:Value) (fp:Option Nat),n=ks.length - i∧i≤ks.length∧Mod (fun _=>False) w w' ∧
   OwnS w' 3 1 v ((M.globals++(M.frames.take i).flatMap Fr.roots).map I) (M.globals++(M.frames.take i).flatMap Fr.roots).length fp∧(∀ b,fp=some b→w.heap.size≤b) ∧
   ρ=[(0,ptr m),(3,v),(14,.slice aF ks.length cF),(15,I ks.length),(16,I i)]) ks.length ⟨0,_,f1,rfl,by omega,hm1,by simpa using ho1,hf1,rfl⟩ ?_
 rintro n ρ w2 ⟨i,v,fp,rfl,hi,hm2,ho2,hf2,rfl⟩
 unfold ir47L1
 obtain ⟨va,vc,rfl,_⟩:=ho2.val
 have hc2:=hm2.at hc (fun h=>h)
 (try simp only [go_sem,simprocAttr])
 refine ir_cond rfl (fun hh=>?_) (fun hh=>?_)
 · have hik:i < ks.length:=by simpa using hh
   have hif:i < M.frames.length:=by omega
   have hF2:=h.fr.mod hm2 (fun _ _ h=>h)
   obtain ⟨bF,rfl,_,hcF⟩:=own_cell hF2 (i:=i) hik
   have hk:ks[i]? = some ks[i]:=List.getElem?_eq_getElem hik
   have hf:M.frames[i]? = some M.frames[i]:=List.getElem?_eq_getElem hif
   rw [List.getElem?_map,hk,Option.map_some] at hcF
   obtain ⟨vs,vp,fs,fp',hfr0⟩:=h.frs i _ _ hk hf
   have hpre:=roots_pre M hf
   have b1:(0:Int)≤i∧(i:Int) < ks.length:=by omega
   have hst:=flat_step M hf
   generalize M.frames[i]=f at *
   generalize ks[i]=k at *
   obtain ⟨ap,cp,rfl,hcp,hnp⟩:=hfr0.spine.val
   obtain ⟨a_s,c_s,rfl,hcs,hns⟩:=hfr0.stack.val
   have hfr:=hfr0.mod hm2 (ext_refl τ w).wx (fun _ _ h=>h.elim)
   have hkc:=hfr.cells
   (try simp only [go_sem,simprocAttr,zb4,zb6,b1,hcF,add_at,cell_of hkc,frCells])
   refine ap_new hm2 ho2 rfl hf2 rfl rfl (fun h=>(hnp h).1) hfr.spine.rd (by simp only [List.length_append];omega) ?_
   intro v3 w3 fp3 hm3 hm23 ho3 hf3
   obtain ⟨a3,c3,rfl,_⟩:=ho3.val
   have hfr3:=hfr0.mod hm3 (ext_refl τ w).wx (fun _ _ h=>h.elim)
   have hkc3:=hfr3.cells
   (try simp only [go_sem,simprocAttr,cell_of hkc3,frCells])
   refine ap_new hm3 ho3 rfl hf3 rfl rfl (fun h=>(hns h).1) hfr3.stack.rd (by simp only [List.length_append];omega) ?_
   intro v4 w4 fp4 hm4 hm34 ho4 hf4
   obtain ⟨a4,c4,rfl,_⟩:=ho4.val
   have hfr4:=hfr0.mod hm4 (ext_refl τ w).wx (fun _ _ h=>h.elim)
   have hkc4:=hfr4.cells
   (try simp only [go_sem,simprocAttr,cell_of hkc4,frCells])
   refine e_bs (by rfl) (by rfl) ?_
   intro w5 hb5 hm5 hs5
   (try simp only [go_sem,simprocAttr])
   refine ap_new (ys:=[f.stands]) (hm4.trans hm5) (ho4.mod hm5 (fun _ _ h=>h)) rfl hf4 rfl rfl (fun h=>by cases h) (rd_block (xs:=[I f.stands]) hb5) (by simp only [List.length_append,List.length_cons,List.length_nil];omega) ?_
   intro v6 w6 fp6 hm6 hm56 ho6 hf6
   obtain ⟨a6,c6,rfl,_⟩:=ho6.val
   have e1:IntKind.i64.wrap ((i:Int)+1)=((i+1:Nat):Int):=by rw [wrap_in (by omega) (by omega)];omega
   (try simp only [go_sem,simprocAttr,e1])
   refine ⟨_,by omega,i+1,_,fp6,rfl,by omega,hm6,?_,hf6,rfl⟩
   rw [hst]
   simpa using ho6
 · have hik:¬ i < ks.length:=by simpa using hh
   obtain rfl:i=ks.length:=by omega
   have hW2:=h.wt.mod hm2 (fun _ _ h=>h)
   obtain ⟨aw,cw,rfl,_,hnw⟩:=hW2.val
   (try simp only [go_sem,simprocAttr,cell_of hc2,mcCells])
   have ht:M.frames.take ks.length=M.frames:=by rw [hl];exact List.take_length
   rw [ht] at ho2
   refine ap_new hm2 ho2 rfl hf2 (by (try simp only [go_sem,simprocAttr,ht])) rfl (fun h=>(hnw h).1) hW2.rd (by unfold Mc.roots at hR;simp only [List.length_append] at hR ⊢;omega) ?_
   intro v3 w3 fp3 hm3 hm23 ho3 hf3
   (try simp only [go_sem,simprocAttr])
   exact ⟨⟨fp3,by simpa [Mc.roots] using ho3,hf3⟩,hm3⟩
end
section
open Go Go.W
section
variable {P:Program} {w:World} {ρ:Env} {K:Value→World→Prop}
theorem e_cpO {T n:Nat} {d s:W.O} {v:Value} {xs news:List Value} {fp:Option Nat} {sa:Option Addr} {sn sc:Nat} (hd:d.ev ρ=some v) (ho:OwnS w T 1 v xs n fp) (hs:s.ev ρ=some (.slice sa sn sc))
   (hsa:sa=none→sn=0) (hle:n≤sn) (hr:RdCells w sa (n*1) news) (h1:∀ u∈news,u.oneCell'=true)
   (hk:∀ w',OwnS w' T 1 v news n fp→Mod (fun b=>fp=some b) w w'→w'.heap.size=w.heap.size→K (I n) w'):E.wp P w ρ K (.cp 1 d s):=by
 have hmin:Nat.min sn n=n:=Nat.min_eq_right hle
 obtain ⟨hl,h2⟩:=ho
 rcases h2 with ⟨rfl,rfl,rfl⟩ | ⟨b,c,sp',rfl,rfl,h3,h4,h5⟩
 · have hn0:news=[]:=List.eq_nil_of_length_eq_zero (by simpa using hr.1)
   subst hn0
   refine ⟨none,0,0,sa,sn,sc,[],hd,hs,hsa,by rw [hmin];exact hr,h1,fun _=>?_,fun a h=>by cases h⟩
   rw [hmin]
   exact hk w (OwnS.nil w T 1) (Mod.refl _ w) rfl
 · have hnl:news.length=n*1:=hr.1
   refine ⟨some ⟨b,0,none⟩,n,c,sa,sn,sc,news,hd,hs,hsa,by rw [hmin];exact hr,h1,(fun h=>by cases h),fun a ha=>?_⟩
   cases ha
   refine ⟨(xs++sp').toArray,T,⟨rfl,h3⟩,by simp;omega,?_⟩
   rw [hmin]
   have hsp:sp (xs++sp').toArray 0 news=(news++sp').toArray:=by
     unfold sp
     simp only [Nat.zero_add,List.take_zero,List.nil_append]
     rw [show news.length=xs.length by omega,List.drop_left]
   rw [hsp]
   refine hk _ ⟨hnl,.inr ⟨b,c,sp',rfl,rfl,setRow_heap w b _ _ T _ h3,?_,h5⟩⟩ ((mod_setRow w b _).weak (fun i hi=>by rw [hi])) (by simp)
   simp only [List.length_append] at h4 ⊢
   omega
end
def LR (w:World) (v:Value) (ys:List Int) (b:Nat):Prop:=∃ o c,v = .slice (some ⟨b,o,none⟩) ys.length c∧ys.length≤c∧∀ i (h:i < ys.length),w.cell? ⟨b,o+i,none⟩=some (I ys[i])
theorem LR.mod {w w':World} {v:Value} {ys:List Int} {b:Nat} {X:Nat→Prop} (h:LR w v ys b) (hm:Mod X w w') (hx:¬ X b):LR w' v ys b:=by
 obtain ⟨o,c,rfl,h1,h2⟩:=h
 exact ⟨o,c,rfl,h1,fun i hi=>hm.cell (h2 i hi) hx⟩
theorem LR.rd {w:World} {o n c b:Nat} {xs ys:List Int} (h:LR w (.slice (some ⟨b,o,none⟩) n c) (xs++ys) b):RdCells w (some ⟨b,o,none⟩) (xs.length*1) (xs.map I):=by
 obtain ⟨o',c',e,_,h2⟩:=h
 cases e
 refine ⟨by simp,fun ad had j v hv=>?_⟩
 cases had
 have hj:j < xs.length:=by
   rcases Nat.lt_or_ge j xs.length with h | h
   · exact h
   · simp [List.getElem?_eq_none h] at hv
 have:=h2 j (by simp;omega)
 rw [add_at,this]
 simpa [List.getElem_append_left hj,List.getElem?_eq_getElem hj] using hv
theorem LR.drop {w:World} {o n c b k:Nat} {xs ys:List Int} (h:LR w (.slice (some ⟨b,o,none⟩) n c) (xs++ys) b) (hk:xs.length=k) :
   LR w (.slice (if c=k then some ⟨b,o,none⟩ else some ⟨b,o+k,none⟩) (n - k) (c - k)) ys b∧(0:Int)≤k∧(k:Int)≤n:=by
 obtain ⟨o',c',e,h1,h2⟩:=h
 cases e
 subst hk
 have hl:(xs++ys).length=xs.length+ys.length:=List.length_append
 rw [hl] at h1 ⊢
 refine ⟨?_,by omega,by omega⟩
 rw [show xs.length+ys.length - xs.length=ys.length by omega]
 split
 · rename_i hc
   have hy:ys.length=0:=by omega
   exact ⟨o,c - xs.length,rfl,by omega,fun i hi=>by omega⟩
 · refine ⟨o+xs.length,c - xs.length,rfl,by omega,fun i hi=>?_⟩
   have:=h2 (xs.length+i) (by rw [hl];omega)
   rw [Nat.add_assoc,this,List.getElem_append_right (by omega)]
   simp only [Nat.add_sub_cancel_left]
theorem LR.form {w:World} {v:Value} {ys:List Int} {b:Nat} (h:LR w v ys b):∃ o n c,v = .slice (some ⟨b,o,none⟩) n c∧n=ys.length:=by
 obtain ⟨o,c,rfl,_⟩:=h
 exact ⟨o,_,c,rfl,rfl⟩
theorem LR.one {w:World} {o n c b:Nat} {y:Int} {ys:List Int} (h:LR w (.slice (some ⟨b,o,none⟩) n c) (y::ys) b):n=ys.length+1∧w.cell? ⟨b,o,none⟩=some (I y):=by
 obtain ⟨o',c',e,h1,h2⟩:=h
 cases e
 exact ⟨by simp,h2 0 (by simp)⟩
theorem MIn.globs {w w':World} {τ:Tag} {m:Nat} {S:SV} {M:Mc} {vG vF vW vT:Value} {fg ff fw ft:Option Nat} {F:Nat→Prop} {ks:List Nat} (h:MIn w τ m S M vG vF vW vT fg ff fw ft F ks) {l:List Int}
   (hm:Mod (fun b=>fg=some b) w w') (ho:OwnS w' 3 1 vG (l.map I) l.length fg):MIn w' τ m S { M with globals:=l} vG vF vW vT fg ff fw ft F ks:=by
 have he:τ.wx τ w:=(ext_refl τ w).wx
 have hd':∀ {t:Tg},t≠.gl→∀ b,b < w.heap.size→fg=some b→τ b≠t:=fun ht b hb hx e=>ht (e.symm.trans (h.tg b hx))
 obtain ⟨c1,c2⟩:=h.cells' hm he (hd' (by simp))
 obtain ⟨f1,f2⟩:=own' h.fr h.tf hm he (hd' (by simp))
 obtain ⟨w1,w2⟩:=own' h.wt h.tw hm he (hd' (by simp))
 obtain ⟨t1,t2⟩:=own' h.tl h.tt hm he (hd' (by simp))
 obtain ⟨s1,s2⟩:=h.st' hm he (hd' (by simp))
 obtain ⟨b1,b2,b3,b4⟩:=h.tabs' hm he (hd' (by simp))
 refine ⟨c1,c2,ho,h.tg,f1,f2,w1,w2,t1,t2,s1,s2,h.len,fun i k f hk hf=>h.frs' hm he hk hf (fun b hb hx=>?_),b1,b2,b3,b4⟩
 rw [h.tg b hx]
 rintro (h | h | h)<;>cases h
theorem part_set {α:Type} (h:α→α) (l:List α) (i:Nat) (hi:i < l.length):((l.take i).map h++l.drop i).set i (h l[i])=(l.take (i+1)).map h++l.drop (i+1):=by
 rw [List.take_succ_eq_append_getElem hi,List.map_append,List.set_append_right _ _ (by simp;omega)]
 simp only [List.length_map,List.length_take,Nat.min_eq_left (Nat.le_of_lt hi),Nat.sub_self]
 rw [List.drop_eq_getElem_cons hi,List.set_cons_zero,List.append_assoc]
 rfl
def Mc.part (M:Mc) (g:Int→Int) (i:Nat):Mc:={ M with globals:=M.globals.map g,frames:=(M.frames.take i).map (Fr.mapP g)++M.frames.drop i}
theorem m_moved {w:World} {τ:Tag} {m:Nat} {S:SV} {M:Mc} {ks:List Nat} (h:MAt w τ m S M ks) (g:Int→Int) {v:Value} {n b:Nat} (hv:OwnS w 3 1 v ((M.roots.map g).map I) n (some b)) (hb:τ b = .no) (hR:M.roots.length≤17592186044416) :
   CallsR Tryz.prog 48 [ptr m,v] w fun _ w'=>∃ X:Mod (fun b=>(τ b).own) w w',MAt w' τ m S (M.mapP g) ks:=by
 obtain ⟨vG,vF,vW,vT,fg,ff,fw,ft,F,h⟩:=h
 have hc:=h.cells
 have hl:=h.len
 have hfl:=frames_le M
 have hbl:=hv.lt rfl
 have hLR:LR w v (M.globals.map g++((M.frames.flatMap Fr.roots).map g++M.wait.map g)) b:=by
   obtain ⟨hv1,hv2⟩:=hv
   have hn:n=(M.roots.map g).length:=by simp at hv1;simp;omega
   rcases hv2 with ⟨_,_,e⟩ | ⟨b',c,sp,rfl,e,h3,h4,h5⟩
   · cases e
   · cases e
     have e1:M.globals.map g++((M.frames.flatMap Fr.roots).map g++M.wait.map g)=M.roots.map g:=by simp [Mc.roots]
     rw [e1]
     refine ⟨0,c,by rw [hn],by omega,fun i hi=>?_⟩
     rw [cell_of h3]
     simp only [Nat.zero_add,List.getElem?_toArray]
     rw [List.getElem?_append_left (by simpa using hi),List.getElem?_map,List.getElem?_eq_getElem hi]
     rfl
 refine fit48.calls rfl ?_
 unfold ir48
 obtain ⟨o1,c1,rfl,hc1,hq1⟩:=hLR
 have hLR:LR w _ _ b:=⟨o1,c1,rfl,hc1,hq1⟩
 (try simp only [go_sem,simprocAttr,cell_of hc,mcCells])
 have hgl:(M.globals.map g).length=M.globals.length:=by simp
 refine e_cpO (news:=(M.globals.map g).map I) rfl h.gl rfl (fun h=>by cases h) (by simp only [List.length_append,hgl];omega) (by have:=hLR.rd;rw [hgl] at this;exact this) (oneI _) ?_
 intro w1 ho1 hm1 hs1
 have h1:MIn w1 τ m S { M with globals:=M.globals.map g} vG vF vW vT fg ff fw ft F ks:=h.globs (l:=M.globals.map g) hm1 (by rw [hgl];exact ho1)
 have nb:∀ {t:Tg} {fp:Option Nat},τ.is fp t→t≠.no→fp≠some b:=fun ht hn e=>hn ((ht b e).symm.trans hb)
 have hLR1:=hLR.mod hm1 (nb h.tg (by simp))
 obtain ⟨hLR1,z1⟩:=hLR1.drop hgl
 have hc1':=h1.cells
 obtain ⟨aF,cF,rfl,_⟩:=h.fr.val
 (try simp only [go_sem,simprocAttr,zb4,zb6,z1,cell_of hc1',mcCells,add_at])
 have hmo1:Mod (fun b=>(τ b).own) w w1:=hm1.weak (fun x hx=>by rw [h.tg x hx];simp [Tg.own])
 refine ir_loop (fun k ρ w'=>∃ (i:Nat) (v':Value),k=ks.length - i∧i≤ks.length∧Mod (fun b=>(τ b).own) w w'∧MIn w' τ m S (M.part g i) vG (.slice aF ks.length cF) vW vT fg ff fw ft F ks ∧
   LR w' v' (((M.frames.drop i).flatMap Fr.roots).map g++M.wait.map g) b∧ρ=[(0,ptr m),(1,v'),(17,.slice aF ks.length cF),(18,I ks.length),(19,I i)]) ks.length
   ⟨0,_,rfl,by omega,hmo1,h1,hLR1,rfl⟩ ?_
 rintro k ρ w2 ⟨i,v',rfl,hi,hm2,h2,hLR2,rfl⟩
 unfold ir48L1
 (try simp only [go_sem,simprocAttr])
 have hc2:=h2.cells
 refine ir_cond rfl (fun hh=>?_) (fun hh=>?_)
 · have hik:i < ks.length:=by simpa using hh
   have hif:i < M.frames.length:=by omega
   obtain ⟨bF,rfl,_,hcF⟩:=own_cell h2.fr (i:=i) hik
   have hk:ks[i]? = some ks[i]:=List.getElem?_eq_getElem hik
   have hf:M.frames[i]? = some M.frames[i]:=List.getElem?_eq_getElem hif
   have hfp:(M.part g i).frames[i]? = some M.frames[i]:=by
     simp only [Mc.part]
     rw [List.getElem?_append_right (by simp;omega)]
     simp [Nat.min_eq_left (Nat.le_of_lt hif),hf]
   rw [List.getElem?_map,hk,Option.map_some] at hcF
   obtain ⟨vs,vp,fs,fp,hfr⟩:=h2.frs i _ _ hk hfp
   have b1:(0:Int)≤i∧(i:Int) < ks.length:=by omega
   have hkc:=hfr.cells
   have hdrop:(M.frames.drop i).flatMap Fr.roots=M.frames[i].spine++(M.frames[i].stack++(M.frames[i].stands::(M.frames.drop (i+1)).flatMap Fr.roots)):=by
     rw [List.drop_eq_getElem_cons hif,List.flatMap_cons]
     simp only [Fr.roots,List.append_assoc,List.cons_append,List.nil_append]
   rw [hdrop] at hLR2
   simp only [List.map_append,List.map_cons,List.append_assoc] at hLR2
   have hset:=part_set (Fr.mapP g) M.frames i hif
   generalize hfe:M.frames[i]=f at *
   generalize ks[i]=k at *
   obtain ⟨o2,n2,c2,rfl,hn2⟩:=hLR2.form
   simp only [List.length_append,List.length_map,List.length_cons] at hn2
   (try simp only [go_sem,simprocAttr,zb4,zb6,b1,hcF,add_at,cell_of hkc,frCells])
   have hsl:(f.spine.map g).length=f.spine.length:=by simp
   have htl:(f.stack.map g).length=f.stack.length:=by simp
   refine e_cpO (news:=(f.spine.map g).map I) rfl hfr.spine rfl (fun h=>by cases h) (by omega) (by have:=hLR2.rd;rw [hsl] at this;exact this) (oneI _) ?_
   intro w3 ho3 hm3 hs3
   have hkb:k≠b:=fun e=>by have:=hfr.tk;rw [e,hb] at this;cases this
   obtain ⟨a1,a2,a3⟩:=fr_apart hfr
   have hfr3:FrIn w3 τ i k { f with spine:=f.spine.map g} vs vp fs fp:=
     ⟨hm3.at hkc a2,hfr.tk,hfr.stack.mod hm3 (fun x hx hh=>a3 x hx hh),hfr.ts,by rw [show ({ f with spine:=f.spine.map g}:Fr).spine.length=f.spine.length from hsl];exact ho3,hfr.tp⟩
   have hLR3:=hLR2.mod hm3 (nb hfr.tp (by simp))
   obtain ⟨hLR3,z3⟩:=hLR3.drop hsl
   have hkc3:=hfr3.cells
   generalize hv3:(Value.slice (if c2=f.spine.length then some ⟨b,o2,none⟩ else some ⟨b,o2+f.spine.length,none⟩) (n2 - f.spine.length) (c2 - f.spine.length))=v3 at hLR3
   obtain ⟨o3,n3,c3,rfl,hn3⟩:=hLR3.form
   simp only [List.length_append,List.length_map,List.length_cons] at hn3
   (try simp only [go_sem,simprocAttr,zb4,zb6,z3,add_at,hv3,cell_of hkc3,frCells])
   refine e_cpO (news:=(f.stack.map g).map I) rfl hfr3.stack rfl (fun h=>by cases h) (show f.stack.length≤n3 by omega) (by have:=hLR3.rd;rw [htl] at this;exact this) (oneI _) ?_
   intro w4 ho4 hm4 hs4
   have hfr4:FrIn w4 τ i k { f with spine:=f.spine.map g,stack:=f.stack.map g} vs vp fs fp:=
     ⟨hm4.at hkc3 a1,hfr.tk,by rw [show ({ f with spine:=f.spine.map g,stack:=f.stack.map g}:Fr).stack.length=f.stack.length from htl];exact ho4,hfr.ts,hfr3.spine.mod hm4 (fun x hx hh=>a3 x hh hx),hfr.tp⟩
   have hLR4:=hLR3.mod hm4 (nb hfr.ts (by simp))
   obtain ⟨hLR4,z4⟩:=hLR4.drop htl
   have hkc4:=hfr4.cells
   generalize hv4:(Value.slice (if c3=f.stack.length then some ⟨b,o3,none⟩ else some ⟨b,o3+f.stack.length,none⟩) (n3 - f.stack.length) (c3 - f.stack.length))=v4 at hLR4
   obtain ⟨o4,n4,c4,rfl,hn4⟩:=hLR4.form
   simp only [List.length_append,List.length_map,List.length_cons] at hn4
   obtain ⟨hn4',hcl4⟩:=hLR4.one
   have z5:(0:Int)≤0∧(0:Int) < n4:=by omega
   have z6:(0:Int)≤1∧(1:Int)≤n4:=by omega
   obtain ⟨hLR5,_⟩:=LR.drop (k:=1) (xs:=[g f.stands]) hLR4 rfl
   have e1:IntKind.i64.wrap ((i:Int)+1)=((i+1:Nat):Int):=by rw [wrap_in (by omega) (by omega)];omega
   (try simp only [go_sem,simprocAttr,zb4,zb6,z4,add_at,hv4,z5,z6,hcl4,Nat.add_zero,show Int.toNat 1=1 from rfl,e1])
   refine e_st1 (cs:=frCells { f with spine:=f.spine.map g,stack:=f.stack.map g} vs vp) (off:=5) rfl rfl hkc4 rfl (by simp [frCells]) ?_
   intro w5 hb5 hm5 hs5
   (try simp only [go_sem,simprocAttr])
   have hm5':=Mod.of_drew hm5
   have hfr5:FrIn w5 τ i k (f.mapP g) vs vp fs fp:=
     ⟨by simpa [frCells,Fr.mapP] using hb5,hfr.tk,hfr4.stack.mod hm5' (fun x hx hh=>a1 (hh ▸ hx)),hfr.ts,hfr4.spine.mod hm5' (fun x hx hh=>a2 (hh ▸ hx)),hfr.tp⟩
   have hm25:Mod (fun b=>(τ b).frm i) w2 w5:=by
     refine ((hm3.weak (fun x hx=>.inr (.inr (hfr.tp x hx)))).trans (hm4.weak (fun x hx=>.inr (.inl (hfr.ts x hx))))).trans (hm5'.weak (fun x hx=>?_))
     subst hx
     exact .inl hfr.tk
   refine ⟨_,by omega,i+1,_,rfl,by omega,hm2.trans (hm25.weak (fun x hx=>?_)),?_,hLR5.mod hm5' (fun hh=>hkb hh.symm),rfl⟩
   · rcases hx with hx | hx | hx<;>rw [hx]<;>simp [Tg.own]
   · have:=h2.frame hk hm25 (ext_refl τ w2).wx ⟨vs,vp,fs,fp,hfr5⟩
     have e2:({ M.part g i with frames:=(M.part g i).frames.set i (f.mapP g)}:Mc)=M.part g (i+1):=by
       simp only [Mc.part,hset]
     rw [e2] at this
     exact this
 · have hik:¬ i < ks.length:=by simpa using hh
   obtain rfl:i=ks.length:=by omega
   have e0:M.frames.drop ks.length=[]:=by rw [hl];exact List.drop_length
   have e1:M.frames.take ks.length=M.frames:=by rw [hl];exact List.take_length
   rw [e0] at hLR2
   simp only [List.flatMap_nil,List.map_nil,List.nil_append] at hLR2
   obtain ⟨o2,n2,c2,rfl,hn2⟩:=hLR2.form
   (try simp only [go_sem,simprocAttr,cell_of hc2,mcCells])
   have hwl:(M.wait.map g).length=M.wait.length:=by simp
   refine e_cpO (news:=(M.wait.map g).map I) rfl h2.wt rfl (fun h=>by cases h) (show M.wait.length≤n2 by omega) (by
     have hh:=hLR2
     rw [← List.append_nil (M.wait.map g)] at hh
     have:=hh.rd
     rw [hwl] at this;exact this) (oneI _) ?_
   intro w3 ho3 hm3 hs3
   (try simp only [go_sem,simprocAttr])
   refine ⟨hm2.trans (hm3.weak (fun x hx=>by rw [h.tw x hx];simp [Tg.own])),⟨vG,.slice aF ks.length cF,vW,vT,fg,ff,fw,ft,F,?_⟩⟩
   have hx:m∉(fw:Option Nat):=fun e=>by have:=h.tw m e;rw [h.tm] at this;cases this
   refine h2.waits (M':=M.mapP g) (l:=M.wait.map g) (ext_refl τ w2).wx (hm3.weak (fun x hx=>.inl hx)) ?_ (by rw [hwl];exact ho3) h.tw rfl ?_ rfl rfl rfl rfl rfl
   · have:=hm3.at hc2 (fun e=>hx e)
     simpa [mcCells,Mc.part,Mc.mapP] using this
   · simp only [Mc.mapP,Mc.part,e0,e1,List.append_nil]
end
section
open Go Go.W
theorem stRoom_ren (s:St) (hr:s.kd≠.ref) (n:Int) (roots:List Int) {l:List Int} (h:(stRoom s n roots).1=some l):l=roots.map (stRen s n roots):=by
 obtain ⟨kd,sz,ns⟩:=s
 cases kd with
 | ref=>exact absurd rfl hr
 | hp t=>
   simp only [stRoom,stRen,roomS] at h ⊢
   split at h
   · cases h
   split at h
   · cases h
   split at h
   · rename_i hh;cases h;rw [if_pos hh];simp
   · rename_i hh
     rw [if_neg hh]
     split at h
     · cases h
     · cases h;rfl
 | gn y o t=>
   simp only [stRoom,stRen,groomS] at h ⊢
   split at h
   · cases h
   split at h
   · cases h
   split at h
   · rename_i hh;cases h;rw [if_pos hh];simp
   · rename_i hh
     rw [if_neg hh]
     split at h
     · rename_i hh2
       rw [if_pos hh2]
       unfold endS at h
       split at h
       · cases h
       · cases h
         simp only [smallRoots,List.map_map]
         rfl
     · rename_i hh2
       rw [if_neg hh2]
       cases h;rfl
theorem stRoom_size (s:St) (n:Int) (roots:List Int):(stRoom s n roots).2.size=s.size:=by
 obtain ⟨kd,sz,ns⟩:=s
 cases kd with
 | ref=>simp only [stRoom];split<;>rfl
 | hp t=>rfl
 | gn y o t=>rfl
theorem StAt.iface {w:World} {sv:Value} {s:St} {F:Nat→Prop} (h:StAt w sv s F):∃ t u,sv = .iface t (.pointer (some u)):=by
 obtain ⟨kd,sz,ns⟩:=s
 cases kd with
 | hp t=>obtain ⟨a,e,_⟩:=h;exact ⟨_,_,e⟩
 | gn y o t=>obtain ⟨a,e,_⟩:=h;exact ⟨_,_,e⟩
 | ref=>exact h.elim
theorem m_room {w:World} {τ:Tag} {m:Nat} {S:SV} {M:Mc} {ks:List Nat} (h:MAt w τ m S M ks) (ho:M.st.Ok) (hr:M.st.kd≠.ref) {n:Int} (hn:0≤n∧n≤4294967296) (hb:0≤M.base∧M.base≤1048576) (hy:0≤M.young∧M.young≤1048576)
   (hR:M.roots.length≤17592186044416) (hne:M.roots≠[]) :
   CallsR Tryz.prog 97 [ptr m,I n] w fun r w'=>r = .bool (M.room n).1∧MOp w τ m S (M.room n).2 ks w':=by
 have hM:=h
 obtain ⟨vG,vF,vW,vT,fg,ff,fw,ft,F,h⟩:=h
 have hc:=h.cells
 obtain ⟨ti,ui,hsv⟩:=h.st.iface
 have hsz:=ho.hi
 have hlo:=ho.lo
 have hns:=ho.n
 have href:M.ref=false:=by unfold Mc.ref;split<;>simp_all
 refine fit97.calls rfl ?_
 unfold ir97
 (try simp only [go_sem,simprocAttr,cell_of hc,mcCells])
 refine s_used rfl h.st ?_
 have e1:IntKind.i64.wrap (M.st.size - M.st.ns.length)=M.st.size - M.st.ns.length:=wrap_in (by omega) (by omega)
 have e2:IntKind.i64.wrap (IntKind.i64.wrap ((M.st.ns.length:Int) - M.base)+n)=M.st.ns.length - M.base+n:=by
   rw [wrap_in (n:=(M.st.ns.length:Int) - M.base) (by omega) (by omega),wrap_in (by omega) (by omega)]
 (try simp only [go_sem,simprocAttr,cell_of hc,mcCells,e1,e2])
 refine wpS_cut (fun ρ w'=>w'=w.drew∧ρ.get 0=some (ptr m)∧ρ.get 1=some (I n)∧ρ.get 44=some (.bool (M.quick n))) ?_ ?_
 · unfold Mc.quick
   rw [href]
   cases hq:decide (n≤M.st.size - M.st.ns.length)<;>cases hg:M.gens<;>(try simp only [go_sem,simprocAttr,cell_of hc,mcCells,hg,e1,e2,Bool.not_true,Bool.not_false,Bool.false_and,Bool.or_true,Bool.true_or,Bool.false_or,Bool.or_false])
 rintro ρ _ ⟨rfl,r0,r1,r44⟩
 (try simp only [go_sem,simprocAttr,r0,r1,r44])
 refine ir_cond rfl (fun hq=>?_) (fun hq=>?_)
 · (try simp only [go_sem,simprocAttr])
   have e3:M.room n=(true,M):=by unfold Mc.room;rw [if_pos hq]
   rw [e3]
   exact ⟨rfl,τ,ext_refl τ w,hM.mod ((Mod.refl (fun _=>False) w).drew) (ext_refl τ w).wx (fun _ _ h=>h.elim),(Mod.refl _ w).drew⟩
 · (try simp only [go_sem,simprocAttr,cell_of hc,mcCells,hsv])
   have e3:M.room n=match (stRoom M.st n M.roots).1 with
     | none=>(false,{ M with st:=(stRoom M.st n M.roots).2,live:=(stRoom M.st n M.roots).2.ns.length,ended:=5})
     | some _=>(true,M.after (stRen M.st n M.roots) (stRoom M.st n M.roots).2):=by
     unfold Mc.room;rw [if_neg (by rw [hq];simp),href];rfl
   refine e_call (by rfl) ?_
   have hM0:MAt w.drew.drew τ m S M ks:=hM.mod (Mod.refl (fun _=>False) w).drew.drew (ext_refl τ w).wx (fun _ _ h=>h.elim)
   refine (m_roots hM0 hR).mono ?_
   rintro r1 w1 ⟨⟨f1,ho1,hf1⟩,hm1⟩
   have hm1:Mod (fun _=>False) w w1:=Mod.of_drew (Mod.of_drew hm1)
   have hf1:∀ b,f1=some b→w.heap.size≤b:=hf1
   refine ⟨hm1.old m h.lt (fun h=>h),?_⟩
   have h1:=h.mod (τ':=newTag τ w .no) hm1 (newTag_ext τ w .no).wx (fun _ _ h=>h.elim)
   have hroots:M.roots.length=M.roots.length:=rfl
   obtain ⟨hi1,_⟩:=ho1.ints hR
   obtain ⟨va,vc,rfl,_⟩:=ho1.val
   refine s_room (n:=n) (roots:=M.roots) (by rw [hsv];rfl) (by rfl) h1.st ho hi1 ?_ hR ?_ ?_
   · intro _ x hx hF
     have hx1:=h1.tF x hF
     obtain ⟨b,c',sp,e,rfl,_⟩:=ho1.pos (List.length_pos_iff.2 hne)
     cases e
     cases hx
     rw [newTag_new (hf1 _ rfl)] at hx1;cases hx1
   · intro hnone w2 F2 e he hs2 hg2
     have h2:=h1.store (s:=(stRoom M.st n M.roots).2) hg2 hs2 (stRoom_size _ _ _)
     have hc2:=h2.cells
     rw [e3,hnone]
     have e4:((e:Int) != 0)=true:=by simpa using he
     (try simp only [go_sem,simprocAttr,e4,cell_of hc2,mcCells])
     refine s_used rfl h2.st ?_
     (try simp only [go_sem,simprocAttr])
     refine e_st1 (off:=17) rfl rfl hc2 rfl (by simp [mcCells]) ?_
     intro w3 hb3 hm3 hs3
     (try simp only [go_sem,simprocAttr])
     refine e_st1 (off:=15) rfl rfl hb3 rfl (by simp [mcCells]) ?_
     intro w4 hb4 hm4 hs4
     (try simp only [go_sem,simprocAttr])
     have ht:(newTag τ w Tg.no).ext (stTag (newTag τ w Tg.no) w1 F2) w1:=stTag_ext _ _ _
     refine ⟨stTag (newTag τ w .no) w1 F2,ext_trans (newTag_ext τ w .no) ht hm1.size,⟨vG,vF,vW,vT,fg,ff,fw,ft,F2,h2.scal (hm3.trans hm4) (by simpa [mcCells] using hb4) rfl rfl rfl rfl rfl rfl rfl⟩,?_⟩
     refine ((hm1.weak (fun _ h=>h.elim)).step hg2.1 (fun x hx hl=>?_)).step (hm3.trans hm4) (fun x hx hl=>by subst hx;rw [h.tm];simp [Tg.own])
     have:=h1.tF x hx
     rw [newTag_ext τ w .no x hl] at this
     rw [this];simp [Tg.own]
   · intro l hsome w2 F2 v2 hs2 hg2 hout
     have h2:=h1.store (s:=(stRoom M.st n M.roots).2) hg2 hs2 (stRoom_size _ _ _)
     have hl:=stRoom_ren M.st hr n M.roots hsome
     rw [e3,hsome]
     subst hl
     obtain ⟨fp,ho2,hf2⟩:=hout
     obtain ⟨b,c',sp,rfl,rfl,hb3,_⟩:=ho2.pos (by simp;exact List.length_pos_iff.2 hne)
     obtain ⟨hb1,hb2⟩:=hf2 b rfl
     (try simp only [go_sem,simprocAttr,show ((0:Int) != 0)=false from rfl])
     refine e_call (by rfl) ?_
     refine (m_moved (M:={ M with st:=(stRoom M.st n M.roots).2}) ⟨vG,vF,vW,vT,fg,ff,fw,ft,F2,h2⟩ (stRen M.st n M.roots) ho2 (stTag_no hb1 hb2) hR).mono ?_
     rintro r3 w3 ⟨hm3,⟨vG3,vF3,vW3,vT3,fg3,ff3,fw3,ft3,F3,h3⟩⟩
     have hc3:=h3.cells
     (try simp only [go_sem,simprocAttr,cell_of hc3,mcCells])
     refine s_used rfl h3.st ?_
     (try simp only [go_sem,simprocAttr])
     refine e_st1 (off:=8) rfl rfl hc3 rfl (by simp [mcCells]) ?_
     intro w4 hb4 hm4 hs4
     (try simp only [go_sem,simprocAttr])
     have ht:(newTag τ w Tg.no).ext (stTag (newTag τ w Tg.no) w1 F2) w1:=stTag_ext _ _ _
     have hte:=ext_trans (newTag_ext τ w .no) ht hm1.size
     refine ⟨stTag (newTag τ w .no) w1 F2,hte,⟨vG3,vF3,vW3,vT3,fg3,ff3,fw3,ft3,F3,h3.scal (M':=M.after (stRen M.st n M.roots) (stRoom M.st n M.roots).2) hm4 (by simpa [mcCells,Mc.after,Mc.mapP,stRoom_size] using hb4) rfl rfl rfl rfl rfl rfl rfl⟩,?_⟩
     have h12:Mod (fun b=>(τ b).own) w w2:=(hm1.weak (fun _ h=>h.elim)).step hg2.1 (fun x hx hl=>by
       have:=h1.tF x hx
       rw [newTag_ext τ w .no x hl] at this
       rw [this];simp [Tg.own])
     refine (h12.step hm3 (fun x hx hl=>by rw [hte x hl] at hx;exact hx)).step hm4 (fun x hx hl=>by subst hx;rw [h.tm];simp [Tg.own])
end
section
open Go Go.W
section
variable {w:World} {τ:Tag} {m:Nat} {S:SV} {M:Mc} {ks:List Nat} {k:Nat} {x:Ins}
structure TopAt (w:World) (τ:Tag) (m:Nat) (S:SV) (M:Mc) (ks:List Nat) (k:Nat):Prop where
 at':MAt w τ m S M ks
 pos:0 < M.frames.length
 hk:ks[M.frames.length - 1]? = some k
theorem top_get (hp:0 < M.frames.length):M.frames[M.frames.length - 1]? = some M.top:=by
 unfold Mc.top
 rw [List.getD_eq_getElem?_getD,List.getElem?_eq_getElem (by omega:M.frames.length - 1 < M.frames.length)]
 rfl
theorem TopAt.fr (h:TopAt w τ m S M ks k):FrAt w τ (M.frames.length - 1) k M.top:=by
 obtain ⟨⟨vG,vF,vW,vT,fg,ff,fw,ft,F,h1⟩,hp,hk⟩:=h
 exact h1.frs _ _ _ hk (top_get hp)
theorem TopAt.frm (h:TopAt w τ m S M ks k) {f':Fr} {w':World} (ho:FrOp w τ (M.frames.length - 1) k f' w'):MOp w τ m S (M.setTop f') ks w':=by
 obtain ⟨⟨vG,vF,vW,vT,fg,ff,fw,ft,F,h1⟩,hp,hk⟩:=h
 obtain ⟨τ',he,hf,hm⟩:=ho
 exact ⟨τ',he,⟨vG,vF,vW,vT,fg,ff,fw,ft,F,h1.frame hk hm he.wx hf⟩,hm.weak (fun b hb=>by rcases hb with hb | hb | hb<;>rw [hb]<;>simp [Tg.own])⟩
theorem setTop_top (hp:0 < M.frames.length) (f:Fr):(M.setTop f).top=f∧(M.setTop f).frames.length=M.frames.length:=by
 constructor
 · simp only [Mc.setTop,Mc.top,List.length_set,List.getD_eq_getElem?_getD]
   rw [List.getElem?_set_self (by omega)];rfl
 · simp [Mc.setTop]
theorem setTop_set (f g:Fr):(M.setTop f).setTop g=M.setTop g:=by simp [Mc.setTop,List.set_set]
theorem MOp.top {M':Mc} {w':World} (h:MOp w τ m S M' ks w') (hl:M'.frames.length=M.frames.length) (hp:0 < M.frames.length) (hk:ks[M.frames.length - 1]? = some k):∃ τ',τ.ext τ' w∧Mod (fun b=>(τ b).own) w w'∧TopAt w' τ' m S M' ks k:=by
 obtain ⟨τ',h1,h2,h3⟩:=h
 exact ⟨τ',h1,h3,h2,by omega,by rw [hl];exact hk⟩
theorem TopAt.mod (h:TopAt w τ m S M ks k) {w':World} {τ':Tag} {X:Nat→Prop} (hm:Mod X w w') (he:τ.wx τ' w) (hd:∀ b,b < w.heap.size→X b→τ b = .no):TopAt w' τ' m S M ks k:=⟨h.at'.mod hm he hd,h.pos,h.hk⟩
theorem MOp.boxed {w1 w':World} {M':Mc} (hm:Mod (fun _=>False) w w1) (h:MOp w1 (newTag τ w .no) m S M' ks w'):MOp w τ m S M' ks w':=by
 obtain ⟨τ',h1,h2,h3⟩:=h
 refine ⟨τ',ext_trans (newTag_ext τ w .no) h1 hm.size,h2,(hm.weak (fun _ h=>h.elim)).step h3 (fun i hi hl=>?_)⟩
 rw [newTag_ext τ w .no i hl] at hi
 exact hi
@[go_sem] def insV (x:Ins):Value:=.agg #[I x.op,I x.a,I x.b]
end
section
variable {w:World} {τ:Tag} {m:Nat} {S:SV} {M:Mc} {ks:List Nat} {k:Nat} {x:Ins}
theorem x_push (h:TopAt w τ m S M ks k) (hs:M.top.stack.length≤4294967295) (ha:0≤x.a∧x.a < M.top.stack.length):CallsR Tryz.prog 66 [ptr m,ptr k,insV x] w fun _ w'=>MOp w τ m S (M.setTop (M.top.push (M.top.place x.a))) ks w':=by
 refine fit66.calls rfl ?_
 unfold ir66
 (try simp only [go_sem,simprocAttr])
 refine e_bx rfl ?_
 intro w1 hb1 hm1 _
 have h1:=h.mod (τ':=newTag τ w .no) hm1 (newTag_ext τ w .no).wx (fun _ _ h=>h.elim)
 (try simp only [go_sem,simprocAttr,cell_of hb1,Value.cells])
 refine e_call (by rfl) ?_
 refine (f_place h1.fr (by omega) ha).mono ?_
 rintro _ _ ⟨rfl,rfl⟩
 (try simp only [go_sem,simprocAttr])
 refine e_call (by rfl) ?_
 have h2:TopAt w1.drew (newTag τ w .no) m S M ks k:=h1.mod (Mod.refl (fun _=>False) w1).drew (ext_refl _ _).wx (fun _ _ h=>h.elim)
 refine (f_push h2.fr (by omega) (M.top.place x.a)).mono ?_
 intro _ w' ho
 (try simp only [go_sem,simprocAttr])
 exact MOp.boxed (hm1.trans (Mod.refl (fun _=>False) w1).drew) (h2.frm ho)
theorem x_global (h:TopAt w τ m S M ks k) (hs:M.top.stack.length≤4294967295) (ha:0≤x.a∧x.a < M.globals.length):CallsR Tryz.prog 69 [ptr m,ptr k,insV x] w fun _ w'=>MOp w τ m S (M.setTop (M.top.push (M.globals.getD x.a.toNat 0))) ks w':=by
 refine fit69.calls rfl ?_
 unfold ir69
 (try simp only [go_sem,simprocAttr])
 refine e_bx rfl ?_
 intro w1 hb1 hm1 _
 have h1:=h.mod (τ':=newTag τ w .no) hm1 (newTag_ext τ w .no).wx (fun _ _ h=>h.elim)
 have h2:TopAt w1.drew (newTag τ w .no) m S M ks k:=h1.mod (Mod.refl (fun _=>False) w1).drew (ext_refl _ _).wx (fun _ _ h=>h.elim)
 obtain ⟨vG,vF,vW,vT,fg,ff,fw,ft,F,hh⟩:=h1.at'
 have hc:=hh.cells
 obtain ⟨aG,cG,rfl,_⟩:=hh.gl.val
 obtain ⟨j,hj⟩:∃ j:Nat,x.a=j:=⟨x.a.toNat,by omega⟩
 have hjl:j < M.globals.length:=by omega
 obtain ⟨b,rfl,_,hcell⟩:=own_cell hh.gl (i:=j) hjl
 have e1:w1.cell? ⟨b,j,none⟩=some (I (M.globals.getD j 0)):=by
   rw [hcell,List.getElem?_map,List.getElem?_eq_getElem hjl,List.getD_eq_getElem?_getD,List.getElem?_eq_getElem hjl];rfl
 have b1:(0:Int)≤j∧(j:Int) < M.globals.length:=by omega
 rw [hj]
 rw [hj] at hb1
 (try simp only [go_sem,simprocAttr,zb4,zb6,cell_of hb1,Value.cells,cell_of hc,mcCells,b1,add_at,e1])
 refine e_call (by rfl) ?_
 refine (f_push h2.fr (by omega) (M.globals.getD j 0)).mono ?_
 intro _ w' ho
 (try simp only [go_sem,simprocAttr])
 exact MOp.boxed (hm1.trans (Mod.refl (fun _=>False) w1).drew) (h2.frm ho)
theorem x_pop (h:TopAt w τ m S M ks k) (hs:M.top.stack.length≤4294967295) (ha:0≤x.a∧x.a≤M.top.stack.length):CallsR Tryz.prog 73 [ptr m,ptr k,insV x] w fun _ w'=>MOp w τ m S (M.setTop (M.top.pop x.a)) ks w':=by
 refine fit73.calls rfl ?_
 unfold ir73
 (try simp only [go_sem,simprocAttr])
 refine e_bx rfl ?_
 intro w1 hb1 hm1 _
 have h1:=h.mod (τ':=newTag τ w .no) hm1 (newTag_ext τ w .no).wx (fun _ _ h=>h.elim)
 (try simp only [go_sem,simprocAttr,cell_of hb1,Value.cells])
 refine e_call (by rfl) ?_
 refine (f_pop h1.fr (by omega) ha).mono ?_
 intro _ w' ho
 (try simp only [go_sem,simprocAttr])
 exact MOp.boxed hm1 (h1.frm ho)
theorem x_jump (h:TopAt w τ m S M ks k):CallsR Tryz.prog 84 [ptr m,ptr k,insV x] w fun _ w'=>MOp w τ m S (M.setTop { M.top with at':=x.a}) ks w':=by
 refine fit84.calls rfl ?_
 unfold ir84
 (try simp only [go_sem,simprocAttr])
 refine e_bx rfl ?_
 intro w1 hb1 hm1 _
 have h1:=h.mod (τ':=newTag τ w .no) hm1 (newTag_ext τ w .no).wx (fun _ _ h=>h.elim)
 obtain ⟨vs,vp,fs,fp,hf⟩:=h1.fr
 (try simp only [go_sem,simprocAttr,cell_of hb1,Value.cells])
 refine e_st1 (off:=2) rfl rfl hf.cells rfl (by simp [frCells]) ?_
 intro w2 hb2 hm2 hs2
 (try simp only [go_sem,simprocAttr])
 exact MOp.boxed hm1 (h1.frm (fr_cells hf rfl rfl (by simpa [frCells] using hb2) hm2))
theorem x_fail (h:TopAt w τ m S M ks k):CallsR Tryz.prog 87 [ptr m,ptr k,insV x] w fun _ w'=>MOp w τ m S (M.fail x.a) ks w':=by
 refine fit87.calls rfl ?_
 unfold ir87
 (try simp only [go_sem,simprocAttr])
 refine e_bx rfl ?_
 intro w1 hb1 hm1 _
 have h1:=h.mod (τ':=newTag τ w .no) hm1 (newTag_ext τ w .no).wx (fun _ _ h=>h.elim)
 (try simp only [go_sem,simprocAttr,cell_of hb1,Value.cells])
 refine e_call (by rfl) ?_
 refine (m_fail h1.at' x.a).mono ?_
 intro _ w' ho
 (try simp only [go_sem,simprocAttr])
 exact MOp.boxed hm1 ho
end
end
section
open Go Go.W
section
variable {w:World} {τ:Tag} {m:Nat} {S:SV} {M:Mc} {ks:List Nat} {k:Nat} {x:Ins}
theorem ints_nil (w:World):Ints w (.slice none 0 0) []:=⟨none,0,rfl,by simp,fun i hi=>by simp at hi⟩
theorem TopAt.two {M1:Mc} {w1:World} (h:TopAt w τ m S M ks k) (ho:MOp w τ m S M1 ks w1) (hl:M1.frames=M.frames):∃ τ',τ.ext τ' w∧Mod (fun b=>(τ b).own) w w1∧TopAt w1 τ' m S M1 ks k:=ho.top (by rw [hl]) h.pos h.hk
theorem two_frm {M1:Mc} {w1 w':World} {τ':Tag} {f':Fr} (h1:τ.ext τ' w) (h2:Mod (fun b=>(τ b).own) w w1) (h:TopAt w1 τ' m S M1 ks k) (ho:FrOp w1 τ' (M1.frames.length - 1) k f' w'):MOp w τ m S (M1.setTop f') ks w':=MOp.cat h1 h2 (h.frm ho)
theorem x_int (h:TopAt w τ m S M ks k) (ho:M.st.Ok) (hs:M.top.stack.length≤4294967295) (hr:(M.st.ns.length:Int) < M.st.size) (ha:(⟨1,x.a,[]⟩:Nd).may=true) :
   CallsR Tryz.prog 71 [ptr m,ptr k,insV x] w fun _ w'=>MOp w τ m S (M.put ⟨1,x.a,[]⟩ 0) ks w':=by
 refine fit71.calls rfl ?_
 unfold ir71
 (try simp only [go_sem,simprocAttr])
 refine e_bx rfl ?_
 intro w1 hb1 hm1 _
 have h1:=h.mod (τ':=newTag τ w .no) hm1 (newTag_ext τ w .no).wx (fun _ _ h=>h.elim)
 (try simp only [go_sem,simprocAttr,cell_of hb1,Value.cells])
 refine e_call (by rfl) ?_
 refine (m_add (nd:=⟨1,x.a,[]⟩) h1.at' ho ha rfl (ints_nil w1) hr).mono ?_
 rintro _ w2 ⟨rfl,hop⟩
 obtain ⟨τ2,k1,k2,k3⟩:=h1.two hop rfl
 (try simp only [go_sem,simprocAttr])
 refine e_call (by rfl) ?_
 refine (f_push k3.fr (by show M.top.stack.length≤4294967296;omega) _).mono ?_
 intro _ w3 hf
 (try simp only [go_sem,simprocAttr])
 have:=two_frm k1 k2 k3 hf
 refine MOp.boxed hm1 ?_
 have e:(M.put ⟨1,x.a,[]⟩ 0)=({ M with st:=M.st.add ⟨1,x.a,[]⟩}:Mc).setTop (({ M with st:=M.st.add ⟨1,x.a,[]⟩}:Mc).top.push M.st.ns.length):=by
   simp [Mc.put,Mc.setTop,Fr.pop,Fr.push,Mc.top]
 rw [e];exact this
theorem x_slide (h:TopAt w τ m S M ks k) (hs:M.top.stack.length≤4294967295) (ha:0≤x.a∧x.a+1≤M.top.stack.length) :
   CallsR Tryz.prog 75 [ptr m,ptr k,insV x] w fun _ w'=>MOp w τ m S (M.setTop ((M.top.pop (x.a+1)).push (M.top.place 0))) ks w':=by
 refine fit75.calls rfl ?_
 unfold ir75
 (try simp only [go_sem,simprocAttr])
 refine e_bx rfl ?_
 intro w1 hb1 hm1 _
 have h1:=h.mod (τ':=newTag τ w .no) hm1 (newTag_ext τ w .no).wx (fun _ _ h=>h.elim)
 have h2:TopAt w1.drew (newTag τ w .no) m S M ks k:=h1.mod (Mod.refl (fun _=>False) w1).drew (ext_refl _ _).wx (fun _ _ h=>h.elim)
 have hb2:w1.drew.heap[w.heap.size]? = _:=hb1
 (try simp only [go_sem,simprocAttr])
 refine e_call (by rfl) ?_
 refine (f_place h1.fr (by omega) ⟨by omega,by omega⟩).mono ?_
 rintro _ _ ⟨rfl,rfl⟩
 have e1:IntKind.i64.wrap (x.a+1)=x.a+1:=wrap_in (by omega) (by omega)
 (try simp only [go_sem,simprocAttr,cell_of hb2,Value.cells,cell_of hb1,e1])
 refine e_call (by rfl) ?_
 refine (f_pop h2.fr (by omega) ⟨by omega,ha.2⟩).mono ?_
 intro _ w2 ho
 obtain ⟨τ2,k1,k2,k3⟩:=(h2.frm ho).top (by simp [Mc.setTop]) h.pos h.hk
 obtain ⟨t1,t2⟩:=setTop_top h.pos (M.top.pop (x.a+1))
 (try simp only [go_sem,simprocAttr])
 refine e_call (by rfl) ?_
 refine (f_push k3.fr (by rw [t1];simp only [Fr.pop,List.length_take];omega) (M.top.place 0)).mono ?_
 intro _ w3 hf
 (try simp only [go_sem,simprocAttr])
 have:=two_frm k1 k2 k3 hf
 rw [t1,setTop_set] at this
 exact MOp.boxed (hm1.trans (Mod.refl (fun _=>False) w1).drew) this
end
end
section
open Go Go.W
section
variable {w:World} {τ:Tag} {m:Nat} {S:SV} {M:Mc} {ks:List Nat} {k:Nat} {x:Ins}
theorem ints_blk {w:World} {b:Nat} {xs:List Int} (h:w.heap[b]? = some (.cells (xs.map I).toArray 3 (0,0))) (hl:xs.length≤17592186044416):Ints w (.slice (some ⟨b,0,none⟩) xs.length xs.length) xs:=by
 refine ⟨_,_,rfl,hl,fun i hi=>⟨_,rfl,?_⟩⟩
 rw [add_at,cell_of h]
 simp [hi]
theorem TopAt.later (h:TopAt w τ m S M ks k) {w':World} (hm:Mod (fun _=>False) w w'):TopAt w' (newTag τ w .no) m S M ks k:=h.mod hm (newTag_ext τ w .no).wx (fun _ _ h=>h.elim)
theorem put_eq (nd:Nd) (d:Int) (hp:0 < M.frames.length):M.put nd d=(({ M with st:=M.st.add nd}:Mc).setTop (M.top.pop d)).setTop ((M.top.pop d).push M.st.ns.length):=by
 simp [Mc.put,Mc.setTop,List.set_set]
theorem x_apply (h:TopAt w τ m S M ks k) (ho:M.st.Ok) (hs:M.top.stack.length≤4294967295) (hr:(M.st.ns.length:Int) < M.st.size) (h2:2≤M.top.stack.length) (hpl:okPl M.st.ns.length [M.top.place 0,M.top.place 1]=true) :
   CallsR Tryz.prog 76 [ptr m,ptr k,insV x] w fun _ w'=>MOp w τ m S (M.put ⟨3,0,[M.top.place 0,M.top.place 1]⟩ 2) ks w':=by
 refine fit76.calls rfl ?_
 unfold ir76
 (try simp only [go_sem,simprocAttr])
 refine e_bx rfl ?_
 intro w1 hb1 hm1 _
 (try simp only [go_sem,simprocAttr])
 refine e_call (by rfl) ?_
 refine (f_place (h.later hm1).fr (by omega) ⟨by omega,by omega⟩).mono ?_
 rintro _ _ ⟨rfl,rfl⟩
 have hm2:Mod (fun _=>False) w w1.drew:=hm1.drew
 (try simp only [go_sem,simprocAttr])
 refine e_call (by rfl) ?_
 refine (f_place (h.later hm2).fr (by omega) ⟨by omega,by omega⟩).mono ?_
 rintro _ _ ⟨rfl,rfl⟩
 have hm3:Mod (fun _=>False) w w1.drew.drew:=hm2.drew
 (try simp only [go_sem,simprocAttr])
 refine e_bs (by rfl) (by rfl) ?_
 intro w4 hb4 hm4 _
 (try simp only [go_sem,simprocAttr])
 have h4:=h.later (hm3.trans hm4)
 refine e_call (by rfl) ?_
 refine (m_add (nd:=⟨3,0,[M.top.place 0,M.top.place 1]⟩) h4.at' ho rfl hpl (ints_blk (xs:=[M.top.place 0,M.top.place 1]) hb4 (by simp)) hr).mono ?_
 rintro _ w5 ⟨rfl,hop⟩
 obtain ⟨τ5,k1,k2,k5⟩:=h4.two hop rfl
 (try simp only [go_sem,simprocAttr])
 refine e_call (by rfl) ?_
 refine (f_pop (n:=2) k5.fr (by show M.top.stack.length≤_;omega) ⟨by omega,by show (2:Int)≤M.top.stack.length;omega⟩).mono ?_
 intro _ w6 hf6
 have ho6:=MOp.cat k1 k2 (k5.frm hf6)
 obtain ⟨τ6,j1,j2,k6⟩:=ho6.top (by simp [Mc.setTop]) h.pos h.hk
 (try simp only [go_sem,simprocAttr])
 refine e_call (by rfl) ?_
 obtain ⟨t1,t2⟩:=setTop_top (M:={ M with st:=M.st.add ⟨3,0,[M.top.place 0,M.top.place 1]⟩}) h.pos (M.top.pop 2)
 refine (f_push k6.fr (by rw [show (({ M with st:=M.st.add ⟨3,0,[M.top.place 0,M.top.place 1]⟩}:Mc).setTop (({ M with st:=M.st.add ⟨3,0,[M.top.place 0,M.top.place 1]⟩}:Mc).top.pop 2)).top=_ from t1];simp only [Fr.pop,List.length_take];omega) M.st.ns.length).mono ?_
 intro _ w7 hf7
 (try simp only [go_sem,simprocAttr])
 have:=two_frm j1 j2 k6 hf7
 rw [show (({ M with st:=M.st.add ⟨3,0,[M.top.place 0,M.top.place 1]⟩}:Mc).setTop (({ M with st:=M.st.add ⟨3,0,[M.top.place 0,M.top.place 1]⟩}:Mc).top.pop 2)).top=_ from t1] at this
 rw [put_eq _ _ h.pos]
 exact MOp.boxed (hm3.trans hm4) this
theorem x_rewind (h:TopAt w τ m S M ks k) (hs:0 < M.top.stack.length) :
   CallsR Tryz.prog 89 [ptr m,ptr k,insV x] w fun _ w'=>MOp w τ m S (M.setTop { M.top with runs:=false,stands:=M.top.stack.getD 0 0,stack:=[]}) ks w':=by
 refine fit89.calls rfl ?_
 unfold ir89
 (try simp only [go_sem,simprocAttr])
 refine e_bx rfl ?_
 intro w1 hb1 hm1 _
 have h1:=h.later hm1
 obtain ⟨vs,vp,fs,fp,hf⟩:=h1.fr
 obtain ⟨a,c,rfl,_⟩:=hf.stack.val
 obtain ⟨b,rfl,_,hcell⟩:=own_cell hf.stack (i:=0) hs
 have e1:w1.cell? ⟨b,0,none⟩=some (I (M.top.stack.getD 0 0)):=by
   rw [hcell,List.getElem?_map,List.getElem?_eq_getElem hs,List.getD_eq_getElem?_getD,List.getElem?_eq_getElem hs];rfl
 have b1:(0:Int)≤0∧(0:Int) < M.top.stack.length:=by omega
 have hc:=hf.cells
 (try simp only [go_sem,simprocAttr,zb4,zb6,cell_of hc,frCells,b1,add_at,e1,Nat.add_zero])
 refine e_st1 (cs:=frCells M.top (.slice (some ⟨b,0,none⟩) M.top.stack.length c) vp) (off:=0) rfl rfl hc rfl (by simp [frCells]) ?_
 intro w2 hb2 hm2 hs2
 (try simp only [go_sem,simprocAttr])
 refine e_st1 (off:=5) rfl rfl hb2 rfl (by simp [frCells]) ?_
 intro w3 hb3 hm3 hs3
 (try simp only [go_sem,simprocAttr])
 refine e_st1 (off:=3) rfl rfl hb3 rfl (by simp [frCells]) ?_
 intro w4 hb4 hm4 hs4
 (try simp only [go_sem,simprocAttr])
 refine MOp.boxed hm1 (h1.frm (fr_stack (w2:=w1) (vs':=.slice none 0 0) (fs':=none) hf (OwnS.nil _ _ _) rfl (by simpa [frCells] using hb4) (Mod.refl _ w1) ((hm2.trans hm3).trans hm4) (fun b hb=>by cases hb)))
end
end
section
open Go Go.W
theorem stov_lt {s:St} (h:s.Ok) {p:Int} (hp:0≤p∧p < s.ns.length):s.ov p < s.ns.length:=ov_lt (wf_nxt_lt h.wf) (by omega)
section
variable {w:World} {τ:Tag} {m:Nat} {S:SV} {M:Mc} {ks:List Nat} {k:Nat} {x:Ins}
theorem node_one {w w':World} {v:Value} {l:List Int} (h:NewOwn w w' v l) (a b:Int):∀ u∈[I a,I b,v],u.oneCell'=true:=by
 obtain ⟨fp,h,_⟩:=h
 obtain ⟨va,vc,rfl,_⟩:=h.val
 simp [Value.oneCell']
theorem x_update (h:TopAt w τ m S M ks k) (ho:M.st.Ok) (he:Ends M.st.ns) (hs:M.top.stack.length≤4294967295) (ha:0≤x.a∧x.a < M.top.stack.length) (h1:0≤M.top.place x.a∧M.top.place x.a < M.st.ns.length) (h0:0≤M.top.place 0∧M.top.place 0 < M.st.ns.length) :
   CallsR Tryz.prog 77 [ptr m,ptr k,insV x] w fun _ w'=>MOp w τ m S { M.setTop (M.top.pop 1) with st:=M.st.set (M.st.ov (M.top.place x.a)) ⟨5,0,[(M.st.ov (M.top.place 0):Int)]⟩} ks w':=by
 refine fit77.calls rfl ?_
 unfold ir77
 (try simp only [go_sem,simprocAttr])
 refine e_bx rfl ?_
 intro w1 hb1 hm1 _
 (try simp only [go_sem,simprocAttr,cell_of hb1,Value.cells])
 refine e_call (by rfl) ?_
 refine (f_place (h.later hm1).fr (by omega) ha).mono ?_
 rintro _ _ ⟨rfl,rfl⟩
 have hm2:Mod (fun _=>False) w w1.drew:=hm1.drew
 (try simp only [go_sem,simprocAttr])
 refine e_call (by rfl) ?_
 refine (m_over (h.later hm2).at' ho he h1).mono ?_
 rintro _ w3 ⟨v3,rfl,hv3,hm3⟩
 (try simp only [go_sem,simprocAttr])
 refine e_al ?_
 intro w4 hb4 hm4 _
 (try simp only [go_sem,simprocAttr])
 refine e_sta (cs:=[I 0,I 0,.slice none 0 0]) rfl rfl hb4 rfl rfl (node_one hv3 _ _) ?_
 intro w5 hb5 hm5 hs5
 (try simp only [go_sem,simprocAttr])
 have hs3:=(hm2.trans hm3).size
 have hm05:Mod (fun _=>False) w w5:=(hm2.trans (hm3.trans hm4)).step hm5 (fun x hx hl=>by subst hx;omega)
 refine e_call (by rfl) ?_
 refine (f_place (h.later hm05).fr (by omega) ⟨by omega,by omega⟩).mono ?_
 rintro _ _ ⟨rfl,rfl⟩
 have hm6:Mod (fun _=>False) w w5.drew:=hm05.drew
 (try simp only [go_sem,simprocAttr])
 refine e_call (by rfl) ?_
 refine (m_over (h.later hm6).at' ho he h0).mono ?_
 rintro _ w7 ⟨v7,rfl,hv7,hm7⟩
 (try simp only [go_sem,simprocAttr])
 refine e_al ?_
 intro w8 hb8 hm8 _
 (try simp only [go_sem,simprocAttr])
 refine e_sta (cs:=[I 0,I 0,.slice none 0 0]) rfl rfl hb8 rfl rfl (node_one hv7 _ _) ?_
 intro w9 hb9 hm9 hs9
 (try simp only [go_sem,simprocAttr])
 have hs7:=(hm6.trans hm7).size
 have hm09:Mod (fun _=>False) w w9:=(hm6.trans (hm7.trans hm8)).step hm9 (fun x hx hl=>by subst hx;omega)
 have h9:=h.later hm09
 obtain ⟨vG,vF,vW,vT,fg,ff,fw,ft,F,hh⟩:=h9.at'
 have hc9:=hh.cells
 obtain ⟨ti,ui,hsv⟩:=hh.st.iface
 (try simp only [go_sem,simprocAttr,cell_of hc9,mcCells])
 refine e_bs (by rfl) (by rfl) ?_
 intro w10 hb10 hm10 _
 (try simp only [go_sem,simprocAttr])
 have h10:=h.later (hm09.trans hm10)
 obtain ⟨vG,vF,vW,vT,fg,ff,fw,ft,F,hh⟩:=h10.at'
 refine s_set (p:=(M.st.ov (M.top.place x.a):Int)) (nd:=⟨5,0,[(M.st.ov (M.top.place 0):Int)]⟩) rfl (by rfl) hh.st ho ?_ rfl ?_ (ints_blk (xs:=[(M.st.ov (M.top.place 0):Int)]) hb10 (by simp)) ?_
 · have:=stov_lt ho h1;omega
 · have:=stov_lt ho h0
   simp [okPl];omega
 intro w11 F11 hs11 hg11
 have h11:=hh.store (s:=M.st.set (M.st.ov (M.top.place x.a)) ⟨5,0,[(M.st.ov (M.top.place 0):Int)]⟩) hg11 hs11 rfl
 (try simp only [go_sem,simprocAttr])
 refine e_call (by rfl) ?_
 have hop:MOp w10 (newTag τ w .no) m S { M with st:=M.st.set (M.st.ov (M.top.place x.a)) ⟨5,0,[(M.st.ov (M.top.place 0):Int)]⟩} ks w11:=
   ⟨_,stTag_ext _ _ _,⟨vG,vF,vW,vT,fg,ff,fw,ft,F11,h11⟩,hg11.1.weak (fun b hb=>by rw [hh.tF b hb];simp [Tg.own])⟩
 obtain ⟨τ5,k1,k2,k5⟩:=h10.two hop rfl
 refine (f_pop (n:=1) k5.fr (by show M.top.stack.length≤_;omega) ⟨by omega,by show (1:Int)≤M.top.stack.length;omega⟩).mono ?_
 intro _ w12 hf12
 (try simp only [go_sem,simprocAttr])
 exact MOp.boxed (hm09.trans hm10) (two_frm k1 k2 k5 hf12)
theorem alloc_zero (hp:0 < M.frames.length):M.alloc 0=M:=by
 have h1:M.setTop M.top=M:=by
   simp only [Mc.setTop]
   have:M.frames.set (M.frames.length - 1) M.top=M.frames:=by
     apply List.ext_getElem?
     intro j
     rw [List.getElem?_set]
     split
     · rename_i hj
       subst hj
       rw [if_pos (by omega),top_get hp]
     · rfl
   rw [this]
 unfold Mc.alloc
 simp only [List.range_zero,List.map_nil,List.append_nil,List.replicate_zero]
 exact h1
theorem alloc_succ (hp:0 < M.frames.length) (i:Nat):M.alloc (i+1)=({ M.alloc i with st:=(M.alloc i).st.add ⟨6,0,[]⟩}:Mc).setTop (({ M.alloc i with st:=(M.alloc i).st.add ⟨6,0,[]⟩}:Mc).top.push (M.alloc i).st.ns.length):=by
 have ht:=(setTop_top hp { M.top with stack:=M.top.stack++(List.range i).map fun i=>((M.st.ns.length+i:Nat):Int)}).1
 have e:({ M.alloc i with st:=(M.alloc i).st.add ⟨6,0,[]⟩}:Mc).top = { M.top with stack:=M.top.stack++(List.range i).map fun i=>((M.st.ns.length+i:Nat):Int)}:=ht
 rw [e]
 simp only [Mc.alloc,Mc.setTop,Fr.push,St.add,List.set_set,List.length_set,List.length_append,List.length_replicate,List.range_succ,List.map_append,List.map_cons,List.map_nil,List.append_assoc,List.replicate_succ',Mc.mk.injEq,St.mk.injEq,true_and,and_true]
theorem x_alloc (h:TopAt w τ m S M ks k) (ho:M.st.Ok) {n:Nat} (hn:x.a=n) (hs:M.top.stack.length+n≤4294967295) (hr:(M.st.ns.length:Int)+n≤M.st.size) (hok:∀ i,i≤n→(M.alloc i).st.Ok) :
   CallsR Tryz.prog 79 [ptr m,ptr k,insV x] w fun _ w'=>MOp w τ m S (M.alloc n) ks w':=by
 refine fit79.calls rfl ?_
 unfold ir79
 (try simp only [go_sem,simprocAttr])
 refine e_bx rfl ?_
 intro w1 hb1 hm1 _
 have h1:=h.later hm1
 rw [hn] at hb1
 (try simp only [go_sem,simprocAttr,cell_of hb1,Value.cells])
 refine ir_loop (fun z ρ w'=>∃ i:Nat,z=n - i∧i≤n∧MOp w1 (newTag τ w .no) m S (M.alloc i) ks w'∧ρ=[(0,ptr m),(1,ptr k),(7,I n),(8,I i)]) n ⟨0,rfl,by omega,?_,rfl⟩ ?_
 · rw [alloc_zero h.pos];exact ⟨_,ext_refl _ _,h1.at',Mod.refl _ _⟩
 rintro z ρ w2 ⟨i,rfl,hi,hop,rfl⟩
 unfold ir79L1
 (try simp only [go_sem,simprocAttr])
 refine ir_cond rfl (fun hh=>?_) (fun hh=>?_)
 · have hin:i < n:=by simpa using hh
   (try simp only [go_sem,simprocAttr])
   obtain ⟨τ2,k1,k2,k5⟩:=hop.top (by simp [Mc.alloc,Mc.setTop]) h.pos h.hk
   have hti:=(setTop_top h.pos { M.top with stack:=M.top.stack++(List.range i).map fun i=>((M.st.ns.length+i:Nat):Int)}).1
   have hti:(M.alloc i).top=_:=hti
   have hli:(M.alloc i).st.ns.length=M.st.ns.length+i:=by simp [Mc.alloc]
   refine e_call (by rfl) ?_
   refine (m_add (nd:=⟨6,0,[]⟩) k5.at' (hok i (by omega)) rfl rfl (ints_nil w2) (by rw [hli];show ((M.st.ns.length+i:Nat):Int) < M.st.size;omega)).mono ?_
   rintro _ w3 ⟨rfl,hop3⟩
   obtain ⟨τ3,j1,j2,k6⟩:=k5.two hop3 rfl
   (try simp only [go_sem,simprocAttr])
   refine e_call (by rfl) ?_
   refine (f_push k6.fr (by show (M.alloc i).top.stack.length≤_;rw [hti];simp;omega) _).mono ?_
   intro _ w4 hf4
   have e1:IntKind.i64.wrap ((i:Int)+1)=((i+1:Nat):Int):=by rw [wrap_in (by omega) (by omega)];omega
   (try simp only [go_sem,simprocAttr,e1])
   refine ⟨_,by omega,i+1,rfl,by omega,?_,rfl⟩
   rw [alloc_succ h.pos]
   exact MOp.cat k1 k2 (two_frm j1 j2 k6 hf4)
 · have hin:¬ i < n:=by simpa using hh
   obtain rfl:i=n:=by omega
   (try simp only [go_sem,simprocAttr])
   exact MOp.boxed hm1 hop
end
end
end Go.Proofs.YtcllploggibicaaGreat