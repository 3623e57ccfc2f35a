/- Texts that the last file stands on: IRA, S2, H1, H2, P1, H3, H4, P2, H5, P3, H6, H7, G1, G2, G3, G4, G5, G6, G7, P10. -/
import Derived.Test.YtnjobkbblhaliaaGreatDoorZSA
import Derived.KernelRfl
set_option linter.unusedSimpArgs false
set_option linter.unusedVariables false
set_option maxRecDepth 100000
namespace Go.Proofs.YtnjobkbblhaliaaGreatDoor
section
open Go Go.W Go.W.Z
def ir39:IR:=z [] [0] <| .seq (z [.r (some 4) (.eq .slice false (.t 0) (.c (.slice none 0 0)))] [0,4] <| j 4 (z [.r (some 2) (.mv (.c (.slice none 0 0)))] [2] <| .ret) (.skip)) <| z [.e (some 5) (.raw ⟨(some 5),(.buildSlice 26 0 #[]),26, "slices.go:362",#[],none⟩),m 6 0,.e (some 7) (.ap 3 1 8 #[(i 0)] (.t 5) (.t 6)),m 2 7] [2] <| .ret
theorem fit39:Fits Tryz.prog 39 1 (hOf Tryz.f39 ir39) ir39 [.t 2] 8:=.m Tryz.f39 _
def ir70:IR:=z [] [0,1] <| z [c 7 102 [0,1],bk 8 .geq 7 0,m 4 8] [4] <| .ret
theorem fit70:Fits Tryz.prog 70 2 (hOf Tryz.f70 ir70) ir70 [.t 4] 9:=.m Tryz.f70 _
def ir102L1:IR:=z [bi 9 .lss 8 7] [0,1,7,8,9] <| .seq (j 9 (.skip) ((.exit 0))) <| .seq (.block 1 (z [m 5 8] [0,1,5,7,8] <| z [m 11 1,m 12 0,m 13 5,ia 14 1 12 13,l 15 14,.e (some 16) (.raw ⟨(some 16),(.call { callee:=(.value (.tmp 11)),args:=#[(.tmp 15)],argTypes:=#[3]}),4, "slices.go:109",#[⟨0,.data⟩,⟨4,.data⟩],none⟩)] [0,1,5,7,8,16] <| j 16 (z [m 4 5] [4] <| .ret) (.skip))) <| q [bk 18 .add 8 1,m 8 18] [0,1,7,8]
def ir102:IR:=z [] [0,1] <| .seq (z [le 7 0,mk 8 0] [0,1,7,8] <| .block 0 (.loop ir102L1)) <| z [mk 4 (-1)] [4] <| .ret
theorem fit102:Fits Tryz.prog 102 2 (hOf Tryz.f102 ir102) ir102 [.t 4] 19:=.m Tryz.f102 _
def ir107:IR:=z [] [0,1] <| .seq (z [bk 7 .lss 0 1,m' 7 false 9 0,bk' 7 false 10 .gtr 9 1048576,u 11 7 10,m' 11 false 13 1,bk' 11 false 14 .lss 13 1,u 15 11 14,m' 15 false 17 1,m' 15 false 18 0,bi' 15 false 19 .gtr 17 18,u 20 15 19] [0,1,20] <| j 20 (z [.r (some 4) (.mv (.c (.pointer none))),mk 5 210] [4,5] <| .ret) (.skip)) <| z [m 21 0,m 22 1,.e (some 23) (.raw ⟨(some 23),(.makeMap 200 none),200, "gens.go:25",#[],none⟩),.r (some 24) (.bd #[(i 0),(i 0),(.slice none 0 0),(i 0),(.map none),(i 0)] [(0,1,(.t 21)),(1,1,(.t 22)),(4,1,(.t 23))]),.e (some 25) (.bx 202 (.t 24)),m 4 25,mk 5 0] [4,5] <| .ret
theorem fit107:Fits Tryz.prog 107 2 (hOf Tryz.f107 ir107) ir107 [.t 4,.t 5] 26:=.m Tryz.f107 _
def ir108:IR:=z [] [0] <| .seq (z [bk 5 .lss 0 1,m' 5 false 7 0,bk' 5 false 8 .gtr 7 1048576,u 9 5 8] [0,9] <| j 9 (z [.r (some 2) (.mv (.c (.pointer none))),mk 3 200] [2,3] <| .ret) (.skip)) <| z [.r (some 11) (.bd #[(i 0),(.slice none 0 0),(i 0)] [(0,1,(.t 0))]),.e (some 12) (.bx 205 (.t 11)),m 2 12,mk 3 0] [2,3] <| .ret
theorem fit108:Fits Tryz.prog 108 1 (hOf Tryz.f108 ir108) ir108 [.t 2,.t 3] 13:=.m Tryz.f108 _
def ir186:IR:=z [.e (some 3) (.bx 104 (.t 1))] [0,3] <| .seq (.block 0 (z [ln 7 3 3,c 8 193 [7],no 9 8,m 6 9] [0,3,6] <| j 6 (z [mk 4 0,mk 5 1] [4,5] <| .ret) (z [f 12 2 3,l 13 12,c 14 194 [0,13],no 15 14,m 10 15] [0,3,10] <| j 10 (z [mk 4 0,mk 5 212] [4,5] <| .ret) (.seq (q' [m 17 0,n 18 17,f 19 2 18,l 20 19,le 21 20,m 22 0,n 23 22,f 24 0 23,l 25 24,bi 26 .geq 21 25,m 16 26] [0,3,16]) <| j 16 (z [mk 4 0,mk 5 211] [4,5] <| .ret) (.skip))))) <| z [f 27 2 3,l 28 27,c 29 39 [28],f 30 2 3,s 1 30 29] [0,3] <| .seq (.dr (r 0 31 (.mv (.t 0)) <| r 1 32 (.mv (.t 0)) <| r 2 33 (.nn (.t 32)) <| r 3 34 (.fa 2 (.t 33)) <| r 4 35 (.l1 (.t 34)) <| r 5 36 (.ln 3 (.t 3)) <| .e 6 none (some 37) (.bs 104 1 #[(i 0),(i 0),(.slice none 0 0)] [(0,3,(.t 36))]) [4] <| .e 7 none (some 38) (.ap 104 3 40 #[(i 0),(i 0),(.slice none 0 0)] (.t 35) (.t 37)) [] <| r 8 39 (.nn (.t 31)) <| r 9 40 (.fa 2 (.t 39)) <| .e 10 none none (.st 1 (.t 40) (.t 38)) [] <| .nil) [0]) <| z [n 42 0,f 43 2 42,l 44 43,le 45 44,bk 46 .sub 45 1,m 4 46,mk 5 0] [4,5] <| .ret
theorem fit186:Fits Tryz.prog 186 2 (hOf Tryz.f186 ir186) ir186 [.t 4,.t 5] 47:=.m Tryz.f186 _
def ir187:IR:=z [] [0,1] <| .seq (z [c 8 194 [0,1],no 9 8] [0,1,9] <| j 9 (z [.r (some 4) (.mv (.c (.slice none 0 0))),mk 5 212] [4,5] <| .ret) (.skip)) <| z [c 12 195 [0,1],m 4 12,mk 5 0] [4,5] <| .ret
theorem fit187:Fits Tryz.prog 187 2 (hOf Tryz.f187 ir187) ir187 [.t 4,.t 5] 13:=.m Tryz.f187 _
def ir189:IR:=z [.e (some 4) (.al 104 (.agg #[(i 0),(i 0),(.slice none 0 0)]))] [0,1,4] <| .seq (z [.e (some 9) (.bs 3 1 #[(i 0)] [(0,1,(.t 1))]),c 10 194 [0,9],no 11 10] [0,1,4,11] <| j 11 (z [.r (some 12) (.bd #[(i 0),(i 0),(.slice none 0 0)] []),s 3 4 12,mk 5 212] [4,5] <| .ret) (.skip)) <| z [n 14 0,f 15 2 14,l 16 15,ia 18 3 16 1,ln 19 3 18,.e (some 6) (.al 104 (.agg #[(i 0),(i 0),(.slice none 0 0)])),s 3 6 19] [4,6] <| z [f 20 2 6,l 21 20,c 22 39 [21],f 23 2 6,s 1 23 22] [4,6] <| z [ln 24 3 6,s 3 4 24,mk 5 0] [4,5] <| .ret
theorem fit189:Fits Tryz.prog 189 2 (hOf Tryz.f189 ir189) ir189 [.n 4 3,.t 5] 25:=.m Tryz.f189 _
def ir190:IR:=z [] [0,1,2] <| .seq (z [bk 9 .lss 1 0] [0,1,2,9] <| j 9 (z [.r (some 6) (.mv (.c (.slice none 0 0))),mk 7 1] [6,7] <| .ret) (.skip)) <| .seq (z [c 12 194 [0,2],no 13 12] [0,1,2,13] <| j 13 (z [.r (some 6) (.mv (.c (.slice none 0 0))),mk 7 212] [6,7] <| .ret) (.skip)) <| .seq (.seq (q' [m 14 1,m 15 0,n 16 15,f 17 1 16,l 18 17,m 19 0,n 20 19,f 21 2 20,l 22 21,le 23 22,m 24 0,n 25 24,f 26 3 25,l 27 26,bi 28 .sub 23 27,bi 29 .sub 18 28,bi 30 .leq 14 29,m 31 30,m' 31 true 32 1,m' 31 true 33 0,n' 31 true 34 33,f' 31 true 35 0 34,l' 31 true 36 35,m' 31 true 37 0,n' 31 true 38 37,f' 31 true 39 2 38,l' 31 true 40 39,le' 31 true 41 40,bi' 31 true 42 .sub 36 41,bi' 31 true 43 .leq 32 42,a 44 31 43] [0,1,2,44]) <| j 44 (z [c 46 39 [2],m 6 46,mk 7 0] [6,7] <| .ret) (.skip)) <| z [c 49 196 [0,2],m 2 49] [0,1,2] <| .seq (.seq (q' [m 50 1,m 51 0,n 52 51,f 53 0 52,l 54 53,m 55 0,n 56 55,f 57 2 56,l 58 57,le 59 58,bi 60 .sub 54 59,bi 61 .gtr 50 60] [0,1,2,61]) <| j 61 (q [c 64 195 [0,2],m 2 64] [0,1,2]) (.skip)) <| .seq (.seq (q' [m 65 1,m 66 0,n 67 66,f 68 0 67,l 69 68,m 70 0,n 71 70,f 72 2 71,l 73 72,le 74 73,bi 75 .sub 69 74,bi 76 .gtr 65 75] [2,76]) <| j 76 (z [.r (some 6) (.mv (.c (.slice none 0 0))),mk 7 211] [6,7] <| .ret) (.skip)) <| z [m 6 2,mk 7 0] [6,7] <| .ret
theorem fit190:Fits Tryz.prog 190 3 (hOf Tryz.f190 ir190) ir190 [.t 6,.t 7] 78:=.m Tryz.f190 _
def ir191:IR:=z [.e (some 3) (.bx 169 (.t 0)),.e (some 5) (.bx 104 (.t 2))] [1,3,5] <| .seq (.block 0 (z [l 8 3,.e (some 10) (.bs 3 1 #[(i 0)] [(0,1,(.t 1))]),c 11 194 [8,10],no 12 11,m 7 12] [1,3,5,7] <| j 7 (z [mk 6 212] [6] <| .ret) (z [ln 14 3 5,c 15 193 [14],no 16 15,m 13 16] [1,3,5,13] <| j 13 (z [mk 6 1] [6] <| .ret) (z [l 18 3,f 19 2 5,l 20 19,c 21 194 [18,20],no 22 21,m 17 22] [1,3,5,17] <| j 17 (z [mk 6 212] [6] <| .ret) (.skip))))) <| z [f 23 2 5,l 24 23,c 25 39 [24],f 26 2 5,s 1 26 25] [1,3,5] <| .seq (q' [l 27 3,n 28 27,f 29 2 28,l 30 29,m 31 1,ln 32 3 5,ia 33 3 30 31,s 3 33 32] [1,3,5]) <| .seq (z [l 35 3,n 36 35,f 37 3 36,l 38 37,bi 39 .lss 1 38] [1,3,5,39] <| j 39 (z [l 40 3,n 41 40,f 42 4 41,l 43 42,m 44 1,.e none (.raw ⟨none,(.call { callee:=(.builtin .delete),args:=#[(.tmp 43),(.tmp 44)],argTypes:=#[200,3]}),0, "gens.go:94",#[⟨3,.data⟩,⟨4,.data⟩],none⟩)] [1,3,5] <| z [f 45 2 5,l 46 45,.r (some 47) (.mf (.func 197) [] [(.t 3)]),c 48 70 [46,47]] [1,3,48] <| j 48 (q [l 49 3,n 50 49,f 51 4 50,l 52 51,m 53 1,.e none (.raw ⟨none,(.mapUpdate 200 (.tmp 52) (.tmp 53) (.const (i 1))),0, "gens.go:96",#[⟨3,.data⟩,⟨4,.data⟩,⟨0,.phase⟩,⟨1,.phase⟩,⟨2,.phase⟩,⟨3,.phase⟩,⟨4,.phase⟩],none⟩)] []) (.skip)) (.skip)) <| z [mk 6 0] [6] <| .ret
theorem fit191:Fits Tryz.prog 191 3 (hOf Tryz.f191 ir191) ir191 [.t 6] 54:=.m Tryz.f191 _
def ir192:IR:=z [] [0] <| z [n 4 0,f 5 2 4,l 6 5,le 7 6,m 2 7] [2] <| .ret
theorem fit192:Fits Tryz.prog 192 1 (hOf Tryz.f192 ir192) ir192 [.t 2] 8:=.m Tryz.f192 _
def ir193:IR:=z [.e (some 1) (.bx 104 (.t 0))] [1] <| z [mk 3 0] [1,3] <| .seq (z [f 4 0 1,l 5 4] [1,3,5] <| .block 0 (z [bk 7 .eql 5 1,m 6 7] [1,3,5,6] <| j 6 (.seq (z [f 8 1 1,l 9 8,bk 10 .lss 9 (-4611686018427387904),f' 10 false 12 1 1,l' 10 false 13 12,bk' 10 false 14 .gtr 13 4611686018427387903,u 15 10 14] [1,15] <| j 15 (z [.r (some 2) (.mv (.c (.bool false)))] [2] <| .ret) (.skip)) <| z [f 16 2 1,l 17 16,le 18 17,bk 19 .eql 18 0,m 2 19] [2] <| .ret) (z [bk 21 .eql 5 2,m 20 21] [1,3,5,20] <| j 20 (z [f 22 1 1,l 23 22,bk 24 .geq 23 0,f' 24 true 26 2 1,l' 24 true 27 26,le' 24 true 28 27,bk' 24 true 29 .leq 28 8,a 30 24 29,m 2 30] [2] <| .ret) (.seq (z [bk 32 .eql 5 4,m 31 32] [1,3,5,31] <| j 31 (.skip) (q [bk 33 .eql 5 8,m 31 33] [1,3,5,31])) <| j 31 (z [f 34 1 1,l 35 34,bk 36 .geq 35 0,f' 36 true 38 2 1,l' 36 true 39 38,le' 36 true 40 39,bk' 36 true 41 .eql 40 0,a 42 36 41,m 2 42] [2] <| .ret) (z [bk 44 .eql 5 3,m 43 44] [1,3,5,43] <| j 43 (q [mk 3 2] [1,3]) (z [bk 46 .eql 5 5,m 45 46] [1,3,5,45] <| j 45 (q [mk 3 1] [1,3]) (.seq (z [bk 48 .eql 5 6,m 47 48] [1,3,5,47] <| j 47 (.skip) (q [bk 49 .eql 5 7,m 47 49] [1,3,47])) <| j 47 (.skip) (z [.r (some 2) (.mv (.c (.bool false)))] [2] <| .ret)))))))) <| z [f 50 1 1,l 51 50,bk 52 .eql 51 0,f' 52 true 54 2 1,l' 52 true 55 54,le' 52 true 56 55,m' 52 true 57 3,bi' 52 true 58 .eql 56 57,a 59 52 58,m 2 59] [2] <| .ret
theorem fit193:Fits Tryz.prog 193 1 (hOf Tryz.f193 ir193) ir193 [.t 2] 60:=.m Tryz.f193 _
def ir194:IR:=z [.e (some 2) (.bx 169 (.t 0))] [1,2] <| z [.r (some 6) (.mf (.func 198) [] [(.t 2)]),c 7 70 [1,6],no 8 7,m 4 8] [4] <| .ret
theorem fit194:Fits Tryz.prog 194 2 (hOf Tryz.f194 ir194) ir194 [.t 4] 9:=.m Tryz.f194 _
def ir195:IR:=z [] [0,1] <| z [n 8 0,f 9 5 8,l 10 9,bk 11 .add 10 1,n 12 0,f 13 5 12,s 1 13 11] [0,1] <| z [m 14 0,m 15 0,c 16 199 [15],.e (some 17) (.raw ⟨(some 17),(.makeMap 200 none),200, "gens.go:221",#[],none⟩),.r (some 18) (.bd #[(.pointer none),(.slice none 0 0),(.map none),(i 0),(.map none),(.slice none 0 0)] [(0,1,(.t 14)),(1,2,(.t 16)),(4,1,(.t 17))]),.e (some 19) (.bx 249 (.t 18)),m 5 19] [0,1,5] <| z [c 22 200 [5,1],m 6 22] [0,5,6] <| z [c 25 201 [5],n 26 0,f 27 2 26,s 1 27 25] [0,6] <| z [n 30 0,f 31 2 30,l 32 31,le 33 32,n 34 0,f 35 3 34,s 1 35 33] [0,6] <| z [m 36 0,n 37 36,f 38 4 37,l 39 38,.e none (.raw ⟨none,(.call { callee:=(.builtin .clear),args:=#[(.tmp 39)],argTypes:=#[200]}),0, "gens.go:225",#[⟨3,.data⟩],none⟩)] [6] <| z [m 4 6] [4] <| .ret
theorem fit195:Fits Tryz.prog 195 2 (hOf Tryz.f195 ir195) ir195 [.t 4] 41:=.m Tryz.f195 _
def ir196L1:IR:=z [bi 57 .lss 56 55] [0,5,6,9,39,40,41,54,55,56,57] <| .seq (j 57 (.skip) ((.exit 2))) <| .seq (.block 3 (z [ia 59 1 54 56,l 60 59,m 10 56,m 11 60] [0,5,6,9,10,11,39,40,41,54,55,56] <| z [n 63 0,f 64 3 63,l 65 64,bi 66 .geq 11 65] [0,5,6,9,10,11,39,40,41,54,55,56,66] <| j 66 (.dr (r 0 67 (.mv (.t 9)) <| r 1 68 (.nn (.t 67)) <| r 2 69 (.fa 2 (.t 68)) <| r 3 70 (.l1 (.t 69)) <| r 4 71 (.mv (.t 10)) <| r 5 72 (.mv (.t 5)) <| r 6 73 (.mv (.t 11)) <| .e 7 none (some 74) (.call 204 [(.t 72),(.t 73)]) [3] <| r 8 75 (.ia 1 (.t 70) (.t 71)) <| .e 9 none none (.st 1 (.t 75) (.t 74)) [] <| .nil) [0,5,6,9,39,40,41,54,55,56]) (.skip))) <| q [bk 76 .add 56 1,m 56 76] [0,5,6,9,39,40,41,54,55,56]
def ir196L2:IR:=z [bi 42 .lss 41 40] [0,5,6,39,40,41,42] <| .seq (j 42 (.skip) ((.exit 0))) <| .seq (.block 1 (z [ia 43 1 39 41,l 44 43,m 8 44] [0,5,6,8,39,40,41] <| z [n 46 0,f 47 2 46,l 48 47,ia 50 3 48 8,m 9 50] [0,5,6,9,39,40,41] <| z [n 52 9,f 53 2 52,l 54 53,le 55 54,mk 56 0] [0,5,6,9,39,40,41,54,55,56] <| .block 2 (.loop ir196L1))) <| q [bk 77 .add 41 1,m 41 77] [0,5,6,39,40,41]
def ir196L3:IR:=z [.e (some 84) (.raw ⟨(some 84),(.next (.tmp 83) false),0, "gens.go:206",#[],none⟩),ex 85 0 84] [0,5,6,83,85] <| .seq (j 85 (.skip) ((.exit 4))) <| .block 5 (z [.e (some 86) (.raw ⟨(some 86),(.entry (.tmp 83)),0, "gens.go:206",#[],none⟩),ex 87 0 86,m 12 87] [0,5,6,12,83] <| z [n 90 0,f 91 3 90,l 92 91,bi 93 .lss 12 92] [0,5,6,12,83,93] <| j 93 (q [n 95 0,f 96 2 95,l 97 96,ia 99 3 97 12,f 100 2 99,l 101 100,.r (some 103) (.ia 1 (.t 101) (k 0)),s 1 103 12] [0,5,6,83]) (.skip))
def ir196:IR:=z [] [0,1] <| z [n 15 0,f 16 5 15,l 17 16,bk 18 .add 17 1,n 19 0,f 20 5 19,s 1 20 18] [0,1] <| .seq (.dr (r 0 21 (.mv (.t 0)) <| r 1 22 (.mv (.t 0)) <| r 3 24 (.mv (.t 0)) <| r 4 25 (.nn (.t 24)) <| r 5 26 (.fa 3 (.t 25)) <| r 6 27 (.l1 (.t 26)) <| .e2 2 (some 23) (.call 199 [(.t 22)]) [6] (.e 7 none (some 28) (.raw ⟨(some 28),(.makeMap 200 none),200, "gens.go:196",#[],none⟩) [6] <| r 8 29 (.bd #[(.pointer none),(.slice none 0 0),(.map none),(i 0),(.map none),(.slice none 0 0)] [(0,1,(.t 21)),(1,2,(.t 23)),(3,1,(.t 27)),(4,1,(.t 28))]) <| .e 9 none (some 30) (.bx 249 (.t 29)) [] <| r 10 5 (.mv (.t 30)) <| .nil) 7 (some 28) (.raw ⟨(some 28),(.makeMap 200 none),200, "gens.go:196",#[],none⟩) [6]
   (.e 2 none (some 23) (.call 199 [(.t 22)]) [6] <| r 8 29 (.bd #[(.pointer none),(.slice none 0 0),(.map none),(i 0),(.map none),(.slice none 0 0)] [(0,1,(.t 21)),(1,2,(.t 23)),(3,1,(.t 27)),(4,1,(.t 28))]) <| .e 9 none (some 30) (.bx 249 (.t 29)) [] <| r 10 5 (.mv (.t 30)) <| .nil)) [0,1,5]) <| z [c 33 200 [5,1],m 6 33] [0,5,6] <| .seq (z [n 35 0,f 36 4 35,l 37 36,c 38 203 [37],c 39 202 [38],le 40 39,mk 41 0] [0,5,6,39,40,41] <| .block 0 (.loop ir196L2)) <| .seq (z [m 78 5,n 79 78,f 80 1 79,f 81 1 80,l 82 81,.e (some 83) (.raw ⟨(some 83),(.range 200 (.tmp 82)),0, "gens.go:206",#[⟨4,.data⟩],none⟩)] [0,5,6,83] <| .block 4 (.loop ir196L3)) <| z [c 105 201 [5],m 13 105] [0,6,13] <| .seq (q' [m 106 0,m 107 0,n 108 107,f 109 2 108,l 110 109,m 111 0,n 112 111,f 113 3 112,l 114 113,m 115 0,n 116 115,f 117 3 116,l 118 117,.r (some 119) (.sl 3 (.t 110) none (some (.t 114)) (some (.t 118))),m 120 13,.e (some 121) (.ap 104 3 40 #[(i 0),(i 0),(.slice none 0 0)] (.t 119) (.t 120)),n 122 106,f 123 2 122,s 1 123 121] [0,6]) <| z [n 126 0,f 127 2 126,l 128 127,le 129 128,n 130 0,f 131 3 130,s 1 131 129] [0,6] <| z [m 132 0,n 133 132,f 134 4 133,l 135 134,.e none (.raw ⟨none,(.call { callee:=(.builtin .clear),args:=#[(.tmp 135)],argTypes:=#[200]}),0, "gens.go:214",#[⟨3,.data⟩],none⟩)] [6] <| z [m 4 6] [4] <| .ret
theorem fit196:Fits Tryz.prog 196 2 (hOf Tryz.f196 ir196) ir196 [.t 4] 137:=.m Tryz.f196 _
def ir197:IR:=z [] [0,1] <| z [l 5 1,n 6 5,f 7 3 6,l 8 7,bi 9 .geq 0 8,m 3 9] [3] <| .ret
theorem fit197:Fits Tryz.prog 197 2 (hOf Tryz.f197 ir197) ir197 [.t 3] 10:=.m Tryz.f197 _
def ir198:IR:=z [] [0,1] <| z [bk 5 .lss 0 0,m' 5 false 7 0,l' 5 false 8 1,n' 5 false 9 8,f' 5 false 10 2 9,l' 5 false 11 10,le' 5 false 12 11,bi' 5 false 13 .geq 7 12,u 14 5 13,m 3 14] [3] <| .ret
theorem fit198:Fits Tryz.prog 198 2 (hOf Tryz.f198 ir198) ir198 [.t 3] 15:=.m Tryz.f198 _
def ir199L1:IR:=z [bi 18 .lss 17 16] [0,2,3,16,17,18] <| .seq (j 18 (.skip) ((.exit 0))) <| .seq (.block 1 (z [m 4 17] [0,2,3,4,16,17] <| q [f 20 0 3,l 21 20,ia 23 1 21 4,.e none (.st 1 (.t 23) (k (-1)))] [0,2,3,16,17])) <| q [bk 24 .add 17 1,m 17 24] [0,2,3,16,17]
def ir199L2:IR:=z [bi 31 .lss 30 29] [0,2,3,29,30,31] <| .seq (j 31 (.skip) ((.exit 2))) <| .seq (.block 3 (z [m 5 30] [0,2,3,5,29,30] <| q [ln 35 2 3,c 36 205 [0,5,35]] [0,2,3,29,30])) <| q [bk 37 .add 30 1,m 30 37] [0,2,3,29,30]
def ir199:IR:=z [.e (some 2) (.al 246 (.agg #[(.slice none 0 0),(.map none)]))] [0,2] <| z [m 6 0,n 7 6,f 8 2 7,l 9 8,le 10 9,.e (some 11) (.ms 3 1 8 #[(i 0)] (.t 10) (.t 10)),.e (some 12) (.raw ⟨(some 12),(.makeMap 200 none),200, "gens.go:110",#[],none⟩),.r (some 13) (.bd #[(.slice none 0 0),(.map none)] [(0,1,(.t 11)),(1,1,(.t 12))]),.e (some 3) (.al 246 (.agg #[(.slice none 0 0),(.map none)])),s 2 3 13] [0,2,3] <| .seq (z [f 14 0 3,l 15 14,le 16 15,mk 17 0] [0,2,3,16,17] <| .block 0 (.loop ir199L1)) <| .seq (z [n 26 0,f 27 2 26,l 28 27,le 29 28,mk 30 0] [0,2,3,29,30] <| .block 2 (.loop ir199L2)) <| z [ln 38 2 3,s 2 2 38] [2] <| .ret
theorem fit199:Fits Tryz.prog 199 1 (hOf Tryz.f199 ir199) ir199 [.n 2 2] 39:=.m Tryz.f199 _
def ir200L1:IR:=z [bi 11 .lss 10 9] [0,5,8,9,10,11] <| .seq (j 11 (.skip) ((.exit 0))) <| .seq (.block 1 (z [ia 12 1 8 10,l 13 12,m 7 13] [0,5,7,8,9,10] <| q [c 17 204 [0,7],.e (some 18) (.bs 3 1 #[(i 0)] [(0,1,(.t 17))]),.e (some 19) (.ap 3 1 8 #[(i 0)] (.t 5) (.t 18)),m 5 19] [0,5,8,9,10])) <| q [bk 20 .add 10 1,m 10 20] [0,5,8,9,10]
def ir200:IR:=z [] [0,1] <| z [.r (some 5) (.mv (.c (.slice none 0 0)))] [0,1,5] <| .seq (z [m 8 1,le 9 8,mk 10 0] [0,5,8,9,10] <| .block 0 (.loop ir200L1)) <| z [m 4 5] [4] <| .ret
theorem fit200:Fits Tryz.prog 200 2 (hOf Tryz.f200 ir200) ir200 [.t 4] 22:=.m Tryz.f200 _
def ir201L1:IR:=.seq (z [n 8 0,f 9 5 8,l 10 9,le 11 10,bi 12 .lss 4 11] [0,3,4,12] <| j 12 (.skip) ((.exit 0))) <| .seq (.block 1 (.seq (.dr (r 0 15 (.mv (.t 0)) <| r 1 16 (.nn (.t 15)) <| r 2 17 (.fa 0 (.t 16)) <| r 3 18 (.l1 (.t 17)) <| r 4 19 (.nn (.t 18)) <| r 5 20 (.fa 2 (.t 19)) <| r 6 21 (.l1 (.t 20)) <| r 7 22 (.mv (.t 0)) <| r 8 23 (.nn (.t 22)) <| r 9 24 (.fa 5 (.t 23)) <| r 10 25 (.l1 (.t 24)) <| r 11 26 (.mv (.t 4)) <| r 12 27 (.ia 1 (.t 25) (.t 26)) <| r 13 28 (.l1 (.t 27)) <| r 14 29 (.ia 3 (.t 21) (.t 28)) <| r 15 30 (.ln 3 (.t 29)) <| .e 16 none (some 5) (.al 104 (.agg #[(i 0),(i 0),(.slice none 0 0)])) [3,6,10,13,15] <| .e 17 none none (.st 3 (.t 5) (.t 30)) [] <| .nil) [0,3,4,5]) <| z [f 32 2 5,l 33 32,c 34 200 [0,33],f 35 2 5,s 1 35 34] [0,3,4,5] <| q [ln 37 3 5,.e (some 38) (.bs 104 1 #[(i 0),(i 0),(.slice none 0 0)] [(0,3,(.t 37))]),.e (some 39) (.ap 104 3 40 #[(i 0),(i 0),(.slice none 0 0)] (.t 3) (.t 38)),m 3 39] [0,3,4])) <| q [bk 14 .add 4 1,m 4 14] [0,3,4]
def ir201:IR:=z [] [0] <| z [.r (some 3) (.mv (.c (.slice none 0 0)))] [0,3] <| .seq (z [mk 4 0] [0,3,4] <| .block 0 (.loop ir201L1)) <| z [m 2 3] [2] <| .ret
theorem fit201:Fits Tryz.prog 201 1 (hOf Tryz.f201 ir201) ir201 [.t 2] 41:=.m Tryz.f201 _
def ir204:IR:=z [] [0,1] <| z [n 9 0,f 10 1 9,f 11 0 10,l 12 11,ia 14 1 12 1,l 15 14,m 5 15] [0,5] <| .seq (z [n 18 0,f 19 3 18,l 20 19,bi 21 .lss 5 20] [0,5,21] <| j 21 (z [m 4 5] [4] <| .ret) (.skip)) <| z [m 24 0,n 25 24,f 26 4 25,l 27 26,m 28 5,.e (some 29) (.raw ⟨(some 29),(.lookup 200 (.tmp 27) (.tmp 28) true),87, "gens.go:164",#[⟨3,.data⟩,⟨4,.data⟩],none⟩),m 23 29,ex 30 0 23,ex 31 1 23,m 6 30,m 7 31] [0,5,6,7] <| .seq (z [no 33 7] [0,5,6,33] <| j 33 (.seq (q' [m 34 0,n 35 34,f 36 3 35,l 37 36,m 38 0,n 39 38,f 40 5 39,l 41 40,le 42 41,bi 43 .add 37 42,m 6 43] [0,5,6]) <| z [m 44 0,n 45 44,f 46 4 45,l 47 46,m 48 5,m 49 6,.e none (.raw ⟨none,(.mapUpdate 200 (.tmp 47) (.tmp 48) (.tmp 49)),0, "gens.go:167",#[⟨3,.data⟩,⟨4,.data⟩,⟨5,.data⟩,⟨0,.phase⟩,⟨1,.phase⟩,⟨2,.phase⟩,⟨3,.phase⟩,⟨4,.phase⟩,⟨5,.phase⟩],none⟩)] [0,5,6] <| q [n 52 0,f 53 5 52,l 54 53,.e (some 56) (.bs 3 1 #[(i 0)] [(0,1,(.t 5))]),.e (some 57) (.ap 3 1 8 #[(i 0)] (.t 54) (.t 56)),n 58 0,f 59 5 58,s 1 59 57] [6]) (.skip)) <| z [m 4 6] [4] <| .ret
theorem fit204:Fits Tryz.prog 204 2 (hOf Tryz.f204 ir204) ir204 [.t 4] 61:=.m Tryz.f204 _
def ir205L1:IR:=.seq (z [f 13 0 5,l 14 13,ia 16 1 14 1,l 17 16,bk 18 .lss 17 0] [0,1,5,6,7,18] <| j 18 (.skip) ((.exit 0))) <| .block 1 (.seq (z [n 20 0,f 21 2 20,l 22 21,ia 24 3 22 1,f 25 0 24,l 26 25,bk 27 .neq 26 5] [0,1,5,6,7,27] <| j 27 (z [f 28 0 5,l 29 28,ia 32 1 29 1,s 1 32 1] [1,5,7] <| (.exit 0)) (.skip)) <| .seq (z [m 34 6,m 35 1,.e (some 36) (.raw ⟨(some 36),(.lookup 200 (.tmp 34) (.tmp 35) true),87, "gens.go:129",#[⟨0,.data⟩,⟨1,.data⟩],none⟩),m 33 36,ex 37 0 33,ex 38 1 33,m 8 37,m 9 38] [0,1,5,6,7,8,9] <| z [m 39 9] [0,1,5,6,7,8,39] <| j 39 (z [.r (some 43) (.sl 1 (.t 7) (some (.t 8)) none none),c 44 209 [0,43],m 1 44] [1,5,7] <| z [f 45 1 5,l 46 45,m 47 1,.e none (.raw ⟨none,(.mapUpdate 200 (.tmp 46) (.tmp 47) (.const (i 1))),0, "gens.go:131",#[⟨1,.data⟩,⟨2,.data⟩,⟨0,.phase⟩,⟨1,.phase⟩,⟨2,.phase⟩],none⟩)] [1,5,7] <| z [f 48 0 5,l 49 48,ia 52 1 49 1,s 1 52 1] [1,5,7] <| (.exit 0)) (.skip)) <| z [m 53 6,m 54 1,m 55 7,le 56 55,.e none (.raw ⟨none,(.mapUpdate 200 (.tmp 53) (.tmp 54) (.tmp 56)),0, "gens.go:135",#[⟨0,.data⟩,⟨1,.data⟩,⟨3,.data⟩,⟨0,.phase⟩,⟨1,.phase⟩,⟨2,.phase⟩,⟨3,.phase⟩],none⟩)] [0,1,5,6,7] <| z [.e (some 59) (.bs 3 1 #[(i 0)] [(0,1,(.t 1))]),.e (some 60) (.ap 3 1 8 #[(i 0)] (.t 7) (.t 59)),m 7 60] [0,1,5,6,7] <| q [n 62 0,f 63 2 62,l 64 63,ia 66 3 64 1,f 67 2 66,l 68 67,.r (some 69) (.ia 1 (.t 68) (k 0)),l 70 69,m 1 70] [0,1,5,6,7])
def ir205L2:IR:=z [bi 74 .lss 73 72] [1,5,71,72,73,74] <| .seq (j 74 (.skip) ((.exit 2))) <| .seq (.block 3 (z [ia 75 1 71 73,l 76 75,m 11 76] [1,5,11,71,72,73] <| q' [f 77 0 5,l 78 77,m 79 11,f 80 0 5,l 81 80,m 82 1,ia 83 1 81 82,l 84 83,ia 85 1 78 79,s 1 85 84] [1,5,71,72,73])) <| q [bk 86 .add 73 1,m 73 86] [1,5,71,72,73]
def ir205:IR:=z [.e (some 5) (.bx 246 (.t 2))] [0,1,5] <| z [.e (some 12) (.raw ⟨(some 12),(.makeMap 200 none),200, "gens.go:122",#[],none⟩),m 6 12] [0,1,5,6] <| z [.r (some 7) (.mv (.c (.slice none 0 0)))] [0,1,5,6,7] <| .seq (.block 0 (.loop ir205L1)) <| z [m 71 7,le 72 71,mk 73 0] [1,5,71,72,73] <| .block 2 (.loop ir205L2)
theorem fit205:Fits Tryz.prog 205 3 (hOf Tryz.f205 ir205) ir205 [] 87:=.m Tryz.f205 _
def ir209:IR:=z [] [1] <| z [c 6 213 [1],m 4 6] [4] <| .ret
theorem fit209:Fits Tryz.prog 209 2 (hOf Tryz.f209 ir209) ir209 [.t 4] 7:=.m Tryz.f209 _
def ir213L1:IR:=.seq (z [le 14 0,bi 15 .lss 4 14] [0,3,4,15] <| j 15 (.skip) ((.exit 0))) <| .seq (.block 1 (q [ia 21 1 0 4,l 22 21,.r (some 23) (.mm false (.t 3) (.t 22)),m 3 23] [0,3,4])) <| q [bk 17 .add 4 1,m 4 17] [0,3,4]
def ir213:IR:=z [] [0] <| .seq (z [le 6 0,bk 7 .lss 6 1] [0,7] <| j 7 (q [.r (some 8) (.mi 9 (.c (.string ⟨#[115,108,105,99,101,115,46,77,105,110,58,32,101,109,112,116,121,32,108,105,115,116]⟩))),.e none (.raw ⟨none,(.panic (.tmp 8)),0, "sort.go:67",#[⟨0,.data⟩],none⟩)] [0]) (.skip)) <| z [.r (some 10) (.ia 1 (.t 0) (k 0)),l 11 10,m 3 11] [0,3] <| .seq (z [mk 4 1] [0,3,4] <| .block 0 (.loop ir213L1)) <| z [m 2 3] [2] <| .ret
theorem fit213:Fits Tryz.prog 213 1 (hOf Tryz.f213 ir213) ir213 [.t 2] 25:=.m Tryz.f213 _
def ir231:IR:=z [.e (some 3) (.bx 104 (.t 1))] [0,3] <| .seq (.block 0 (z [ln 7 3 3,c 8 238 [7],no 9 8,m 6 9] [0,3,6] <| j 6 (z [mk 4 0,mk 5 1] [4,5] <| .ret) (z [f 12 2 3,l 13 12,c 14 239 [0,13],no 15 14,m 10 15] [0,3,10] <| j 10 (z [mk 4 0,mk 5 202] [4,5] <| .ret) (.seq (q' [m 17 0,n 18 17,f 19 1 18,l 20 19,le 21 20,m 22 0,n 23 22,f 24 0 23,l 25 24,bi 26 .eql 21 25,m 16 26] [0,3,16]) <| j 16 (z [mk 4 0,mk 5 201] [4,5] <| .ret) (.skip))))) <| .seq (.dr (r 0 27 (.mv (.t 0)) <| r 1 28 (.mv (.t 0)) <| r 2 29 (.nn (.t 28)) <| r 3 30 (.fa 1 (.t 29)) <| r 4 31 (.l1 (.t 30)) <| r 5 32 (.ln 3 (.t 3)) <| .e 6 none (some 33) (.call 240 [(.t 32)]) [4] <| .e 7 none (some 34) (.bs 277 1 #[(i 0),(i 0),(.slice none 0 0)] [(0,3,(.t 33))]) [4] <| .e 8 none (some 35) (.ap 277 3 40 #[(i 0),(i 0),(.slice none 0 0)] (.t 31) (.t 34)) [] <| r 9 36 (.nn (.t 27)) <| r 10 37 (.fa 1 (.t 36)) <| .e 11 none none (.st 1 (.t 37) (.t 35)) [] <| .nil) [0]) <| z [n 39 0,f 40 1 39,l 41 40,le 42 41,bk 43 .sub 42 1,m 4 43,mk 5 0] [4,5] <| .ret
theorem fit231:Fits Tryz.prog 231 2 (hOf Tryz.f231 ir231) ir231 [.t 4,.t 5] 44:=.m Tryz.f231 _
def ir232L1:IR:=z [bi 42 .lss 41 40] [0,6,7,39,40,41,42] <| .seq (j 42 (.skip) ((.exit 0))) <| .seq (.block 1 (z [ia 44 1 39 41,l 45 44,m 8 41,m 9 45] [0,6,7,8,9,39,40,41] <| q [c 50 241 [6,9],ia 51 1 7 8,s 1 51 50] [0,6,7,39,40,41])) <| q [bk 52 .add 41 1,m 41 52] [0,6,7,39,40,41]
def ir232L2:IR:=z [bi 72 .lss 71 70] [0,6,7,10,69,70,71,72] <| .seq (j 72 (.skip) ((.exit 4))) <| .seq (.block 5 (z [ia 74 1 69 71,l 75 74,m 11 71,m 12 75] [0,6,7,10,11,12,69,70,71] <| z [c 78 241 [6,12],m 13 78] [0,6,7,10,11,13,69,70,71] <| q [n 80 6,f 81 1 80,l 82 81,ia 84 3 82 10,f 85 2 84,l 86 85,ia 89 1 86 11,s 1 89 13] [0,6,7,10,69,70,71])) <| q [bk 90 .add 71 1,m 71 90] [0,6,7,10,69,70,71]
def ir232L3:IR:=.seq (z [n 55 6,f 56 1 55,l 57 56,le 58 57,bi 59 .lss 10 58] [0,6,7,10,59] <| j 59 (.skip) ((.exit 2))) <| .seq (.block 3 (z [n 63 6,f 64 1 63,l 65 64,ia 67 3 65 10,f 68 2 67,l 69 68,le 70 69,mk 71 0] [0,6,7,10,69,70,71] <| .block 4 (.loop ir232L2))) <| q [bk 61 .add 10 1,m 10 61] [0,6,7,10]
def ir232:IR:=z [] [0,1] <| .seq (z [c 16 239 [0,1],no 17 16] [0,1,17] <| j 17 (z [.r (some 4) (.mv (.c (.slice none 0 0))),mk 5 202] [4,5] <| .ret) (.skip)) <| .seq (.dr (r 0 18 (.mv (.t 0)) <| r 1 19 (.nn (.t 18)) <| r 2 20 (.fa 1 (.t 19)) <| r 3 21 (.l1 (.t 20)) <| r 4 22 (.mv (.t 0)) <| r 5 23 (.nn (.t 22)) <| r 6 24 (.fa 1 (.t 23)) <| r 7 25 (.l1 (.t 24)) <| r 8 26 (.len (.t 25)) <| r 10 28 (.mv (.t 0)) <| r 11 29 (.nn (.t 28)) <| r 12 30 (.fa 1 (.t 29)) <| r 13 31 (.l1 (.t 30)) <| r 14 32 (.len (.t 31)) <| .e2 9 (some 27) (.ms 3 1 8 #[(i 0)] (.t 26) (.t 26)) [3,13] (.e 15 none (some 33) (.ms 3 1 8 #[(i 0)] (.t 32) (.t 32)) [3,7] <| r 16 34 (.bd #[(.slice none 0 0),(.slice none 0 0),(.slice none 0 0),(.slice none 0 0),(.slice none 0 0)] [(0,1,(.t 21)),(2,1,(.t 27)),(3,1,(.t 33))]) <| .e 17 none (some 35) (.bx 281 (.t 34)) [] <| r 18 6 (.mv (.t 35)) <| .nil) 15 (some 33) (.ms 3 1 8 #[(i 0)] (.t 32) (.t 32)) [3,7]
   (.e 9 none (some 27) (.ms 3 1 8 #[(i 0)] (.t 26) (.t 26)) [3,13] <| r 16 34 (.bd #[(.slice none 0 0),(.slice none 0 0),(.slice none 0 0),(.slice none 0 0),(.slice none 0 0)] [(0,1,(.t 21)),(2,1,(.t 27)),(3,1,(.t 33))]) <| .e 17 none (some 35) (.bx 281 (.t 34)) [] <| r 18 6 (.mv (.t 35)) <| .nil)) [0,1,6]) <| z [le 37 1,.e (some 38) (.ms 3 1 8 #[(i 0)] (.t 37) (.t 37)),m 7 38] [0,1,6,7] <| .seq (z [m 39 1,le 40 39,mk 41 0] [0,6,7,39,40,41] <| .block 0 (.loop ir232L1)) <| .seq (z [mk 10 0] [0,6,7,10] <| .block 2 (.loop ir232L3)) <| z [n 93 6,f 94 1 93,l 95 94,n 96 0,f 97 1 96,s 1 97 95] [0,7] <| z [n 99 0,f 100 2 99,l 101 100,bk 102 .add 101 1,n 103 0,f 104 2 103,s 1 104 102] [7] <| z [m 4 7,mk 5 0] [4,5] <| .ret
theorem fit232:Fits Tryz.prog 232 2 (hOf Tryz.f232 ir232) ir232 [.t 4,.t 5] 106:=.m Tryz.f232 _
def ir234:IR:=z [.e (some 4) (.al 104 (.agg #[(i 0),(i 0),(.slice none 0 0)]))] [0,1,4] <| .seq (z [.e (some 9) (.bs 3 1 #[(i 0)] [(0,1,(.t 1))]),c 10 239 [0,9],no 11 10] [0,1,4,11] <| j 11 (z [.r (some 12) (.bd #[(i 0),(i 0),(.slice none 0 0)] []),s 3 4 12,mk 5 202] [4,5] <| .ret) (.skip)) <| z [n 14 0,f 15 1 14,l 16 15,ia 18 3 16 1,ln 19 3 18,.e (some 6) (.al 277 (.agg #[(i 0),(i 0),(.slice none 0 0)])),s 3 6 19] [4,6] <| .seq (.dr (r 0 20 (.fa 0 (.t 6)) <| r 1 21 (.fa 0 (.t 20)) <| r 2 22 (.l1 (.t 21)) <| r 3 23 (.fa 0 (.t 6)) <| r 4 24 (.fa 1 (.t 23)) <| r 5 25 (.l1 (.t 24)) <| r 6 26 (.fa 2 (.t 6)) <| r 7 27 (.l1 (.t 26)) <| .e 8 none (some 28) (.call 242 [(.t 27)]) [2,5] <| r 9 29 (.bd #[(i 0),(i 0),(.slice none 0 0)] [(0,1,(.t 22)),(1,1,(.t 25)),(2,1,(.t 28))]) <| .e 10 none none (.st 3 (.t 4) (.t 29)) [] <| r 11 5 (.mv (k 0)) <| .nil) [4,5]) <| .ret
theorem fit234:Fits Tryz.prog 234 2 (hOf Tryz.f234 ir234) ir234 [.n 4 3,.t 5] 30:=.m Tryz.f234 _
def ir235:IR:=z [] [0,1,2] <| .seq (.block 0 (z [bk 10 .lss 1 0,m 8 10] [0,1,2,8] <| j 8 (z [.r (some 6) (.mv (.c (.slice none 0 0))),mk 7 1] [6,7] <| .ret) (z [c 14 239 [0,2],no 15 14,m 11 15] [0,1,2,11] <| j 11 (z [.r (some 6) (.mv (.c (.slice none 0 0))),mk 7 202] [6,7] <| .ret) (.seq (q' [m 17 1,m 18 0,n 19 18,f 20 0 19,l 21 20,m 22 0,n 23 22,f 24 1 23,l 25 24,le 26 25,bi 27 .sub 21 26,bi 28 .leq 17 27,m 16 28] [0,1,2,16]) <| j 16 (z [c 30 242 [2],m 6 30,mk 7 0] [6,7] <| .ret) (.skip))))) <| z [c 34 232 [0,2],ex 35 0 34,ex 36 1 34,m 2 35] [0,1,2] <| .seq (.seq (q' [m 37 1,m 38 0,n 39 38,f 40 0 39,l 41 40,m 42 0,n 43 42,f 44 1 43,l 45 44,le 46 45,bi 47 .sub 41 46,bi 48 .gtr 37 47] [2,48]) <| j 48 (z [.r (some 6) (.mv (.c (.slice none 0 0))),mk 7 201] [6,7] <| .ret) (.skip)) <| z [m 6 2,mk 7 0] [6,7] <| .ret
theorem fit235:Fits Tryz.prog 235 3 (hOf Tryz.f235 ir235) ir235 [.t 6,.t 7] 50:=.m Tryz.f235 _
def ir236:IR:=z [.e (some 5) (.bx 104 (.t 2))] [0,1,5] <| .seq (.block 0 (z [.e (some 10) (.bs 3 1 #[(i 0)] [(0,1,(.t 1))]),c 11 239 [0,10],no 12 11,m 7 12] [0,1,5,7] <| j 7 (z [mk 6 202] [6] <| .ret) (z [ln 14 3 5,c 15 238 [14],no 16 15,m 13 16] [0,1,5,13] <| j 13 (z [mk 6 1] [6] <| .ret) (z [f 19 2 5,l 20 19,c 21 239 [0,20],no 22 21,m 17 22] [0,1,5,17] <| j 17 (z [mk 6 202] [6] <| .ret) (.skip))))) <| .seq (.seq (q' [f 23 2 5,l 24 23,le 25 24,bk 26 .eql 25 0,m 27 26,m' 27 true 28 0,n' 27 true 29 28,f' 27 true 30 1 29,l' 27 true 31 30,m' 27 true 32 1,ia' 27 true 33 3 31 32,f' 27 true 34 0 33,ln' 27 true 35 2 34,f' 27 true 36 0 5,l' 27 true 37 36,f' 27 true 38 1 5,l' 27 true 39 38,.gr 27 true (some 40) (.bd #[(i 0),(i 0)] [(0,1,(.t 37)),(1,1,(.t 39))]),.gr 27 true (some 41) (.eqa false [(0,.int),(1,.int)] (.t 35) (.t 40)),a 42 27 41,m 43 42,m' 43 true 44 0,n' 43 true 45 44,f' 43 true 46 1 45,l' 43 true 47 46,m' 43 true 48 1,ia' 43 true 49 3 47 48,f' 43 true 50 2 49,l' 43 true 51 50,le' 43 true 52 51,bk' 43 true 53 .eql 52 0,a 54 43 53] [0,1,5,54]) <| j 54 (z [mk 6 0] [6] <| .ret) (.skip)) <| .seq (.dr (r 0 55 (.mv (.t 0)) <| r 1 56 (.nn (.t 55)) <| r 2 57 (.fa 1 (.t 56)) <| r 3 58 (.l1 (.t 57)) <| r 4 59 (.mv (.t 1)) <| r 5 60 (.ln 3 (.t 5)) <| .e 6 none (some 61) (.call 240 [(.t 60)]) [3] <| r 7 62 (.ia 3 (.t 58) (.t 59)) <| .e 8 none none (.st 3 (.t 62) (.t 61)) [] <| .nil) []) <| z [mk 6 0] [6] <| .ret
theorem fit236:Fits Tryz.prog 236 3 (hOf Tryz.f236 ir236) ir236 [.t 6] 63:=.m Tryz.f236 _
def ir237:IR:=z [] [0] <| z [n 4 0,f 5 1 4,l 6 5,le 7 6,m 2 7] [2] <| .ret
theorem fit237:Fits Tryz.prog 237 1 (hOf Tryz.f237 ir237) ir237 [.t 2] 8:=.m Tryz.f237 _
def ir238:IR:=z [.e (some 1) (.bx 104 (.t 0))] [1] <| z [f 4 2 1,l 5 4,le 6 5,m 3 6] [1,3] <| .seq (z [f 7 0 1,l 8 7] [1,3,8] <| .block 0 (z [bk 10 .eql 8 1,m 9 10] [1,3,8,9] <| j 9 (z [bk 12 .eql 3 0,f' 12 true 14 1 1,l' 12 true 15 14,bk' 12 true 16 .geq 15 (-4611686018427387904),a 17 12 16,f' 17 true 19 1 1,l' 17 true 20 19,bk' 17 true 21 .leq 20 4611686018427387903,a 22 17 21,m 2 22] [2] <| .ret) (z [bk 24 .eql 8 2,m 23 24] [1,3,8,23] <| j 23 (z [bk 26 .leq 3 8,f' 26 true 28 1 1,l' 26 true 29 28,bk' 26 true 30 .geq 29 0,a 31 26 30,m 2 31] [2] <| .ret) (z [bk 33 .eql 8 3,m 32 33] [1,3,8,32] <| j 32 (z [bk 35 .eql 3 2,f' 35 true 37 1 1,l' 35 true 38 37,bk' 35 true 39 .eql 38 0,a 40 35 39,m 2 40] [2] <| .ret) (.seq (z [bk 42 .eql 8 4,m 41 42] [1,3,8,41] <| j 41 (.skip) (q [bk 43 .eql 8 8,m 41 43] [1,3,8,41])) <| j 41 (z [bk 45 .eql 3 0,f' 45 true 47 1 1,l' 45 true 48 47,bk' 45 true 49 .geq 48 0,a 50 45 49,m 2 50] [2] <| .ret) (z [bk 52 .eql 8 5,m 51 52] [1,3,8,51] <| j 51 (z [bk 54 .eql 3 1,f' 54 true 56 1 1,l' 54 true 57 56,bk' 54 true 58 .eql 57 0,a 59 54 58,m 2 59] [2] <| .ret) (.seq (z [bk 61 .eql 8 6,m 60 61] [1,3,8,60] <| j 60 (.skip) (q [bk 62 .eql 8 7,m 60 62] [1,3,60])) <| j 60 (z [bk 64 .eql 3 0,f' 64 true 66 1 1,l' 64 true 67 66,bk' 64 true 68 .eql 67 0,a 69 64 68,m 2 69] [2] <| .ret) (.skip)))))))) <| z [.r (some 2) (.mv (.c (.bool false)))] [2] <| .ret
theorem fit238:Fits Tryz.prog 238 1 (hOf Tryz.f238 ir238) ir238 [.t 2] 70:=.m Tryz.f238 _
def ir239L1:IR:=z [bi 10 .lss 9 8] [0,7,8,9,10] <| .seq (j 10 (.skip) ((.exit 0))) <| .seq (.block 1 (z [ia 11 1 7 9,l 12 11,m 6 12] [0,6,7,8,9] <| z [bk 14 .lss 6 0,m' 14 false 16 6,m' 14 false 17 0,n' 14 false 18 17,f' 14 false 19 1 18,l' 14 false 20 19,le' 14 false 21 20,bi' 14 false 22 .geq 16 21,u 23 14 22] [0,7,8,9,23] <| j 23 (z [.r (some 4) (.mv (.c (.bool false)))] [4] <| .ret) (.skip))) <| q [bk 24 .add 9 1,m 9 24] [0,7,8,9]
def ir239:IR:=z [] [0,1] <| .seq (z [m 7 1,le 8 7,mk 9 0] [0,7,8,9] <| .block 0 (.loop ir239L1)) <| z [.r (some 4) (.mv (.c (.bool true)))] [4] <| .ret
theorem fit239:Fits Tryz.prog 239 2 (hOf Tryz.f239 ir239) ir239 [.t 4] 25:=.m Tryz.f239 _
def ir240:IR:=z [.e (some 1) (.bx 104 (.t 0)),.e (some 2) (.al 277 (.agg #[(i 0),(i 0),(.slice none 0 0)]))] [1,2] <| .seq (.dr (r 0 3 (.fa 0 (.t 1)) <| r 1 4 (.l1 (.t 3)) <| r 2 5 (.fa 1 (.t 1)) <| r 3 6 (.l1 (.t 5)) <| r 4 7 (.bd #[(i 0),(i 0)] [(0,1,(.t 4)),(1,1,(.t 6))]) <| r 5 8 (.fa 2 (.t 1)) <| r 6 9 (.l1 (.t 8)) <| .e 7 none (some 10) (.call 242 [(.t 9)]) [1,3] <| r 8 11 (.bd #[(i 0),(i 0),(.slice none 0 0)] [(0,2,(.t 7)),(2,1,(.t 10))]) <| .e 9 none none (.st 3 (.t 2) (.t 11)) [] <| .nil) [2]) <| .ret
theorem fit240:Fits Tryz.prog 240 1 (hOf Tryz.f240 ir240) ir240 [.n 2 3] 12:=.m Tryz.f240 _
def ir241:IR:=z [] [0,1] <| z [c 7 243 [0,1],m 1 7] [0,1] <| .seq (z [n 9 0,f 10 3 9,l 11 10,ia 13 1 11 1,l 14 13,bk 15 .eql 14 0] [0,1,15] <| j 15 (.seq (.dr (r 0 16 (.mv (.t 0)) <| r 1 17 (.mv (.t 0)) <| r 2 18 (.nn (.t 17)) <| r 3 19 (.fa 1 (.t 18)) <| r 4 20 (.l1 (.t 19)) <| r 5 21 (.mv (.t 0)) <| r 6 22 (.nn (.t 21)) <| r 7 23 (.fa 0 (.t 22)) <| r 8 24 (.l1 (.t 23)) <| r 9 25 (.mv (.t 1)) <| r 10 26 (.ia 3 (.t 24) (.t 25)) <| r 11 27 (.fa 0 (.t 26)) <| r 12 28 (.ln 2 (.t 27)) <| r 13 29 (.mv (.t 0)) <| r 14 30 (.nn (.t 29)) <| r 15 31 (.fa 0 (.t 30)) <| r 16 32 (.l1 (.t 31)) <| r 17 33 (.mv (.t 1)) <| r 18 34 (.ia 3 (.t 32) (.t 33)) <| r 19 35 (.fa 2 (.t 34)) <| r 20 36 (.l1 (.t 35)) <| .e 21 none (some 37) (.call 242 [(.t 36)]) [4,8,12] <| r 22 38 (.bd #[(i 0),(i 0),(.slice none 0 0)] [(0,2,(.t 28)),(2,1,(.t 37))]) <| .e 23 none (some 39) (.bs 277 1 #[(i 0),(i 0),(.slice none 0 0)] [(0,3,(.t 38))]) [4] <| .e 24 none (some 40) (.ap 277 3 40 #[(i 0),(i 0),(.slice none 0 0)] (.t 20) (.t 39)) [] <| r 25 41 (.nn (.t 16)) <| r 26 42 (.fa 1 (.t 41)) <| .e 27 none none (.st 1 (.t 42) (.t 40)) [] <| .nil) [0,1]) <| q' [m 43 0,n 44 43,f 45 3 44,l 46 45,m 47 1,m 48 0,n 49 48,f 50 1 49,l 51 50,le 52 51,ia 53 1 46 47,s 1 53 52] [0,1]) (.skip)) <| z [n 55 0,f 56 3 55,l 57 56,ia 59 1 57 1,l 60 59,bk 61 .sub 60 1,m 4 61] [4] <| .ret
theorem fit241:Fits Tryz.prog 241 2 (hOf Tryz.f241 ir241) ir241 [.t 4] 62:=.m Tryz.f241 _
def ir242:IR:=z [] [0] <| z [le 5 0,.e (some 6) (.ms 3 1 8 #[(i 0)] (.t 5) (.t 5)),m 3 6] [0,3] <| z [.e (some 9) (.cp 1 (.t 3) (.t 0))] [3] <| z [m 2 3] [2] <| .ret
theorem fit242:Fits Tryz.prog 242 1 (hOf Tryz.f242 ir242) ir242 [.t 2] 11:=.m Tryz.f242 _
def ir243L1:IR:=.seq (z [n 17 0,f 18 2 17,l 19 18,ia 21 1 19 1,l 22 21,bk 23 .eql 22 0,m' 23 true 25 0,n' 23 true 26 25,f' 23 true 27 0 26,l' 23 true 28 27,m' 23 true 29 1,ia' 23 true 30 3 28 29,f' 23 true 31 0 30,f' 23 true 32 0 31,l' 23 true 33 32,bk' 23 true 34 .eql 33 5,a 35 23 34] [0,1,35] <| j 35 (.skip) ((.exit 0))) <| .block 1 (z [n 37 0,f 38 2 37,l 39 38,ia 41 1 39 1,.e none (.st 1 (.t 41) (k (-1)))] [0,1] <| z [n 44 0,f 45 4 44,l 46 45,.e (some 48) (.bs 3 1 #[(i 0)] [(0,1,(.t 1))]),.e (some 49) (.ap 3 1 8 #[(i 0)] (.t 46) (.t 48)),n 50 0,f 51 4 50,s 1 51 49] [0,1] <| q [n 53 0,f 54 0 53,l 55 54,ia 57 3 55 1,f 58 2 57,l 59 58,.r (some 60) (.ia 1 (.t 59) (k 0)),l 61 60,m 1 61] [0,1])
def ir243L2:IR:=z [bi 93 .lss 92 91] [0,5,90,91,92,93] <| .seq (j 93 (.skip) ((.exit 2))) <| .seq (.block 3 (z [ia 94 1 90 92,l 95 94,m 7 95] [0,5,7,90,91,92] <| q [n 97 0,f 98 2 97,l 99 98,bk 102 .add 5 1,ia 103 1 99 7,s 1 103 102] [0,5,90,91,92])) <| q [bk 104 .add 92 1,m 92 104] [0,5,90,91,92]
def ir243:IR:=z [] [0,1] <| z [n 10 0,f 11 4 10,l 12 11,.r (some 13) (.sl 1 (.t 12) none (some (k 0)) none),n 14 0,f 15 4 14,s 1 15 13] [0,1] <| .seq (.block 0 (.loop ir243L1)) <| z [m 5 1] [0,1,5] <| .seq (z [n 64 0,f 65 2 64,l 66 65,ia 68 1 66 1,l 69 68,bk 70 .gtr 69 0] [0,1,5,70] <| j 70 (q [n 72 0,f 73 2 72,l 74 73,ia 76 1 74 1,l 77 76,bk 78 .sub 77 1,m 5 78] [0,1,5]) (.skip)) <| z [n 80 0,f 81 2 80,l 82 81,bk 85 .add 5 1,ia 86 1 82 1,s 1 86 85] [0,5] <| .seq (z [n 88 0,f 89 4 88,l 90 89,le 91 90,mk 92 0] [0,5,90,91,92] <| .block 2 (.loop ir243L2)) <| z [m 4 5] [4] <| .ret
theorem fit243:Fits Tryz.prog 243 2 (hOf Tryz.f243 ir243) ir243 [.t 4] 106:=.m Tryz.f243 _
end
section
open Go Go.W Go.RowKit Go.Maps Go.Sort Go.Shelf Go.ChangeMaps Go.MapKept
open Go.WideElems (Fit rd rg)
theorem sortsA (m:Nat):AnyZI.SortsIn Tryz.prog Tryz.sortedA_ren Fence.wide m:=
 ⟨fun blk off cap ss W hH hblk hsz=>callsIn_wide.2 (AnyM.slices_Sort_int Tryz.sortA blk off cap ss W hH hblk hsz),
  fun p cap W=>callsIn_wide.2 (AnyM.slices_Sort_int_none Tryz.sortA p cap W)⟩
theorem keys_ok (w:World) (mb:Option Nat):CallsR Tryz.prog 203 [.map mb] w fun v w'=>v = .func (.func 208) #[] #[.pointer (some ⟨w.heap.size,0,none⟩)]∧w'=w.alloc (.cells #[.map mb] 200):=by
 have:=callsIn_wide.1 (AnyZI.keys_in Tryz.keysA Fence.wide 5 trivial rfl mb w);exact this.mono (fun e w' ⟨h1,h2⟩=>⟨_,h1,rfl,h2⟩)
def R0 {H:Type}:Value→Option (DataW H×List MemPlace):=fun _=>some (.nil,[])
theorem keyOf_I {k:Int} (h : -9223372036854775808≤k∧k≤9223372036854775807):keyOf Tryz.prog 3 (I k)=some (.int .i64 k):=by
 have h1:IntKind.i64.min = -9223372036854775808:=rfl;have h2:IntKind.i64.max=9223372036854775807:=rfl;have h3:(Lit.int .i64 k).wf=true:=by simp only [Lit.wf,Bool.and_eq_true,decide_eq_true_eq];omega
 simp [keyOf,Tryz.underlying3,mapKey,I,h3]
theorem owns_of {w:World} {b:Nat} {l:List (Int×Int)} (h:MapAt w b l) (hn:(l.map (·.1)).Nodup) (hk:∀ p∈l,-9223372036854775808≤p.1∧p.1≤9223372036854775807) (hl:l.length≤1048576) :
   ∃ D0:DataW Unit,w.ownsMap Tryz.prog 3 R0 b l.length D0∧Maps.size D0=l.length∧(intKeys D0).Perm (l.map (·.1)):=by
 obtain ⟨es,clock,h1,h2,h3,h4⟩:=h;have hsz:es.size=l.length:=by have:=congrArg List.length h2;simpa using this
 have hat:∀ x∈es.toList,∃ p∈l,x.key=I p.1∧x.val=I p.2:=by
   intro x hx;obtain ⟨i,hi,rfl⟩:=List.getElem_of_mem hx;have hil:i < l.length:=by
     have:es.toList.length=es.size:=by simp
     omega
   have:=congrArg (fun z=>z[i]?) h2;simp only [List.getElem?_map,List.getElem?_eq_getElem hi,List.getElem?_eq_getElem hil,Option.map_some,Option.some.injEq,Prod.mk.injEq] at this;exact ⟨_,List.getElem_mem hil,this.1,this.2⟩
 have hrd:∀ x∈es.toList,∃ p∈l,x.key=I p.1∧rd (H:=Unit) Tryz.prog 3 R0 x=some (.int .i64 p.1,.nil):=by
   intro x hx;obtain ⟨p,hp,e1,e2⟩:=hat x hx;exact ⟨p,hp,e1,by simp [WideElems.rd,e1,keyOf_I (hk p hp),R0]⟩
 have hkeys:es.toList.map (·.key)=(l.map (·.1)).map I:=by
   have:=congrArg (List.map Prod.fst) h2
   simpa [List.map_map,Function.comp_def] using this
 have hrg:es.toList.map (rg (H:=Unit) Tryz.prog 3 R0)=l.map (fun p=>(Lit.int .i64 p.1,DataW.nil)):=by
   apply List.ext_getElem?;intro i;have:=congrArg (fun z=>z[i]?) h2;simp only [List.getElem?_map] at this ⊢;cases hx:es.toList[i]? with
   | none=>
     rw [hx] at this;cases hp:l[i]? with
     | none=>rfl
     | some p=>rw [hp] at this;simp at this
   | some x=>
     rw [hx] at this;cases hp:l[i]? with
     | none=>rw [hp] at this;simp at this
     | some p=>
       rw [hp] at this;simp only [Option.map_some,Option.some.injEq,Prod.mk.injEq] at this;simp [WideElems.rg,WideElems.rd,this.1,keyOf_I (hk p (List.mem_of_getElem? hp)),R0]
 refine ⟨_,⟨es,clock,h1,⟨?_,⟨h3,h4,?_⟩,fun x hx=>?_⟩,Nat.le_of_eq hsz,rfl⟩,?_,?_⟩
 · have:maxLen=9223372036854775807:=by decide
   omega
 · rw [hkeys];refine List.Pairwise.map _ ?_ hn;intro a b hab hh;exact hab (by simpa [I] using hh)
 · obtain ⟨p,_,_,h5⟩:=hrd x hx;exact ⟨_,h5⟩
 · rw [hrg];have:=(Go.WideShapes.sorted_perm (l.map (fun p=>((Lit.int .i64 p.1,DataW.nil):Lit×DataW Unit)))).length_eq
   simpa [Maps.size] using this
 · rw [hrg];have:=(Go.WideShapes.sorted_perm (l.map (fun p=>((Lit.int .i64 p.1,DataW.nil):Lit×DataW Unit)))).map (fun p=>Go.intOf p.1)
   simpa [intKeys,List.map_map,Function.comp_def,Go.intOf] using this
def sortedKeys (l:List (Int×Int)):List Int:=(l.map (·.1)).mergeSort (fun x y=>decide (x≤y))
theorem sorted_ok (w:World) (Bm b:Nat) (l:List (Int×Int)) (hBm:w.heap[Bm]? = some (.cells #[.map (some b)] 200 (0,0))) (h:MapAt w b l) (hn:(l.map (·.1)).Nodup) (hk:∀ p∈l,-9223372036854775808≤p.1∧p.1≤9223372036854775807) (hl:l.length≤1048576) :
   CallsR Tryz.prog 202 [.func (.func 208) #[] #[.pointer (some ⟨Bm,0,none⟩)]] w fun v w'=>Mod (fun _=>False) w w'∧∃ fp,OwnS w' 3 1 v ((sortedKeys l).map I) (sortedKeys l).length fp∧∀ x,fp=some x→w.heap.size≤x:=by
 obtain ⟨D0,hown,hsz,hperm⟩:=owns_of h hn hk hl;have hlt:Bm < w.heap.size:=lt_of_heap hBm;have hcell:w.cell? ⟨Bm,0,none⟩=some (.map (some b)):=by rw [cell_of hBm];rfl
 have hseq:SeqGives Fence.wide 2 Tryz.prog 208 #[.pointer (some ⟨Bm,0,none⟩)] encZ (fun ss=>ss.Perm (intKeys D0)) (Maps.size D0) w:=
   AnyZI.keys_gives (ρ:=Tryz.keysA_ren) { Tryz.keysA with} Fence.wide _ trivial rfl (by omega) Bm b l.length D0 w hlt hcell hown
 have hmax:Maps.size D0≤maxLen:=by
   have:maxLen=9223372036854775807:=by decide
   omega
 have cS:=AnyZI.sorted_in Tryz.sortedA Fence.wide 5 trivial trivial trivial trivial rfl (by omega) (sortsA _) (enters_of Tryz.func207 (by kernel_rfl) rfl) 208 #[.pointer (some ⟨Bm,0,none⟩)] trivial (enters_of Tryz.func208 (by kernel_rfl) rfl) _ _ hmax (by omega) _ hseq;refine (callsIn_wide.1 cS).mono ?_;rintro e w' ⟨v,ss,rfl,hS,hrow,hnil,hb⟩;have hm:Mod (fun _=>False) w w':=⟨hb.size,fun i hi _=>hb.block i hi,hb.os,hb.tape,hb.output⟩;have hss:ss.mergeSort (fun x y=>decide (x≤y))=sortedKeys l:=mergeSort_of_perm_i (hS.trans hperm);have hlen:ss.length=(sortedKeys l).length:=by rw [← hss,List.length_mergeSort]
 rw [hss,hlen] at hrow;have henc:((sortedKeys l).map encZ:List Value)=(sortedKeys l).map I:=rfl;rw [henc] at hrow;obtain ⟨h1,h2⟩:=hrow;rcases h2 with ⟨rfl,h2⟩ | ⟨g,cap,cur,rfl,hg,hh,r1,r2,r3,r4⟩
 · exact ⟨_,rfl,hm,none,⟨h1,.inl ⟨rfl,h2,rfl⟩⟩,fun x hx=>by cases hx⟩
 · refine ⟨_,rfl,hm,some g,⟨h1,.inr ⟨g,cap,cur.toList.drop ((sortedKeys l).length*1),rfl,rfl,?_,?_,r1⟩⟩,fun x hx=>by cases hx;exact hg⟩
   · rw [← r4,List.take_append_drop];exact hh
   · rw [← r4,List.take_append_drop];simpa using Nat.le_of_eq r3.symm
end
section
open Go Go.W
structure Nd where
 kind:Int
 num:Int
 args:List Int
def mayB (k n:Int) (a:Nat):Bool:=
 decide ((k=1∧a=0 ∧ -4611686018427387904≤n∧n≤4611686018427387903)∨(k=2∧a≤8∧0≤n)∨(k=3∧a=2∧n=0)∨((k=4∨k=8)∧a=0∧0≤n) ∨
   (k=5∧a=1∧n=0)∨((k=6∨k=7)∧a=0∧n=0))
def Nd.may (n:Nd):Bool:=mayB n.kind n.num n.args.length
def okPl (len:Nat) (l:List Int):Bool:=l.all fun x=>decide (0≤x)&&decide (x < len)
def nc (p:Nd×Value):List Value:=[I p.1.kind,I p.1.num,p.2]
def flat (ps:List (Nd×Value)):List Value:=ps.flatMap nc
theorem flat_len (ps:List (Nd×Value)):(flat ps).length=ps.length*3:=by
 induction ps with
 | nil=>rfl
 | cons p ps ih=>simp only [flat,List.flatMap_cons,List.length_append] at *;simp only [nc,List.length_cons,List.length_nil] at *;omega
theorem flat_app (ps qs:List (Nd×Value)):flat (ps++qs)=flat ps++flat qs:=by simp [flat]
theorem flat_take_drop (ps:List (Nd×Value)) (i:Nat) (h:i < ps.length):((flat ps).drop (i*3)).take 3=nc ps[i]:=by
 have h1:ps=ps.take i++ps[i]::ps.drop (i+1):=by simp
 have h2:flat ps=flat (ps.take i)++(nc ps[i]++flat (ps.drop (i+1))):=by
   conv=>lhs;rw [h1]
   rw [flat_app];rfl
 have h3:(flat (ps.take i)).length=i*3:=by rw [flat_len];simp;omega
 rw [h2,← h3,List.drop_left];exact List.take_left' rfl
theorem flat_at (ps:List (Nd×Value)) (i k:Nat) (h:i < ps.length) (hk:k < 3):(flat ps)[i*3+k]? = (nc ps[i])[k]?:=by
 rw [← flat_take_drop ps i h,List.getElem?_take,if_pos hk,List.getElem?_drop]
theorem flat_set (ps:List (Nd×Value)) (i:Nat) (q:Nd×Value) (h:i < ps.length) (sp':List Value) :
   sp (flat ps++sp').toArray (i*3) (nc q)=(flat (ps.set i q)++sp').toArray:=by
 have h1:ps=ps.take i++ps[i]::ps.drop (i+1):=by simp
 have h2:flat ps=flat (ps.take i)++(nc ps[i]++flat (ps.drop (i+1))):=by
   conv=>lhs;rw [h1]
   rw [flat_app];rfl
 have h3:(flat (ps.take i)).length=i*3:=by rw [flat_len];simp;omega
 have h4:flat (ps.set i q)=flat (ps.take i)++(nc q++flat (ps.drop (i+1))):=by
   rw [List.set_eq_take_append_cons_drop,if_pos h,flat_app];rfl
 unfold sp;rw [h2,h4]
 congr 1
 simp only [List.append_assoc];rw [← h3,List.take_left]
 congr 2
 have h5:(flat (ps.take i)++(nc ps[i]++(flat (ps.drop (i+1))++sp'))).drop ((flat (ps.take i)).length+(nc q).length)=flat (ps.drop (i+1))++sp':=by
   rw [← List.drop_drop,List.drop_left];exact List.drop_left' rfl
 exact h5
def Args (w:World) (ps:List (Nd×Value)) (F:Nat→Prop):Prop:=
 ∀ p∈ps,∃ fp,OwnS w 3 1 p.2 (p.1.args.map I) p.1.args.length fp∧∀ b,fp=some b→F b
theorem Args.mod {w w':World} {ps:List (Nd×Value)} {F S:Nat→Prop} (h:Args w ps F) (hm:Mod S w w') (hd:∀ b,F b→¬ S b):Args w' ps F:=by
 intro p hp;obtain ⟨fp,h1,h2⟩:=h p hp;exact ⟨fp,h1.mod hm (fun b hb=>hd b (h2 b hb)),h2⟩
theorem Args.weak {w:World} {ps:List (Nd×Value)} {F F':Nat→Prop} (h:Args w ps F) (hf:∀ b,F b→F' b):Args w ps F':=by
 intro p hp;obtain ⟨fp,h1,h2⟩:=h p hp;exact ⟨fp,h1,fun b hb=>hf b (h2 b hb)⟩
theorem may_ok (k n:Int) (v:Value) (xs:List Int) (w:World) (hx:Ints w v xs) :
   CallsR Tryz.prog 238 [.agg #[I k,I n,v]] w fun r w'=>r = .bool (mayB k n xs.length)∧Mod (fun _=>False) w w':=by
 obtain ⟨a,c,rfl,hl,_⟩:=hx;refine fit238.calls rfl ?_;unfold ir238;(try simp only [go_sem,simprocAttr]);refine e_bx rfl ?_;intro w1 hb hm _;have hlt:=lt_of_heap hb;(try simp only [go_sem,simprocAttr,cell_of hb])
 repeat' (first | (refine ir_cond rfl (fun h=>?_) (fun h=>?_)<;>(try simp only [go_sem,simprocAttr,cell_of hb,h])) | (refine wpS_gr rfl (fun h=>?_) (fun h=>?_)<;>(try simp only [go_sem,simprocAttr,cell_of hb,h])))
 all_goals (refine ⟨?_,hm⟩;congr 1;rw [Bool.eq_iff_iff];unfold mayB;simp only [zb1,zb2,zb3,zb4,zb5] at *;omega)
def NewInts (w w':World) (r:Value) (xs:List Int):Prop:=
 ∃ b,r = .slice (some ⟨b,0,none⟩) xs.length xs.length∧w'.heap[b]? = some (.cells (xs.map I).toArray 3 (0,0))∧w.heap.size≤b∧Mod (fun _=>False) w w'
theorem copied_ok (v:Value) (xs:List Int) (w:World) (hx:Ints w v xs) :
   CallsR Tryz.prog 242 [v] w fun r w'=>NewInts w w' r xs:=by
 have hx':=hx;obtain ⟨a,c,rfl,hl,_⟩:=hx;refine fit242.calls rfl ?_;unfold ir242;(try simp only [go_sem,simprocAttr]);refine e_ms1 (n:=xs.length) rfl (by omega) (by omega) ?_;intro w1 hb1 hm1 hs1;obtain ⟨_,hr,hn⟩:=(hx'.mod hm1 (fun _ _ h=>h)).rd;(try simp only [go_sem,simprocAttr]);refine e_cp (cs:=List.replicate xs.length (I 0)) rfl rfl hn (Nat.le_refl _) hr (oneI xs) hb1 (by simp) ?_;intro w2 hb2 hm2 hs2;(try simp only [go_sem,simprocAttr]);exact ⟨_,rfl,by simpa using hb2,Nat.le_refl _,hm1.step hm2 (fun i hi hlt=>by omega)⟩
def HasNodes (w:World) (a:Nat) (n:Nat):Prop:=∃ T sz ba c col,w.heap[a]? = some (.cells #[sz,.slice ba n c,col] T (0,0))
theorem places_ok (a n:Nat) (l:Value) (xs:List Int) (w:World) (ha:HasNodes w a n) (hx:Ints w l xs) :
   CallsR Tryz.prog 239 [.pointer (some ⟨a,0,none⟩),l] w fun v w'=>v = .bool (okPl n xs)∧w=w':=by
 obtain ⟨T,sz,ba,c,col,ha⟩:=ha;obtain ⟨la,lc,rfl,hl,hx⟩:=hx;refine fit239.calls rfl ?_;unfold ir239;(try simp only [go_sem,simprocAttr])
 refine ir_loop (fun m ρ w'=>∃ k:Nat,m=xs.length - k∧k≤xs.length∧w'=w∧okPl n (xs.take k)=true ∧
   ρ=[(0,.pointer (some ⟨a,0,none⟩)),(7,.slice la xs.length lc),(8,.int .i64 xs.length),(9,.int .i64 k)]) xs.length ⟨0,rfl,by omega,rfl,by simp [okPl],rfl⟩ ?_
 rintro m ρ _ ⟨k,rfl,hk,rfl,hall,rfl⟩;unfold ir239L1;(try simp only [go_sem,simprocAttr]);refine ir_cond rfl (fun h=>?_) (fun h=>?_)
 · have hlt:k < xs.length:=by simpa using h
   obtain ⟨ad,rfl,hc⟩:=hx k hlt;have c1:(0:Int)≤k∧(k:Int) < xs.length:=by omega
   (try simp only [go_sem,simprocAttr,c1,hc,and_self,Int.toNat_natCast,Nat.mul_one]);refine wpS_gr rfl (fun hg=>?_) (fun hg=>?_)
   · (try simp only [go_sem,simprocAttr,hg]);rw [okPl,List.all_eq_false.2 ⟨xs[k],List.getElem_mem _,by simp at hg;simp;omega⟩]
   · (try simp only [go_sem,simprocAttr,hg,cell_of ha]);refine ir_cond rfl (fun h2=>?_) (fun h2=>?_)
     · (try simp only [go_sem,simprocAttr]);rw [okPl,List.all_eq_false.2 ⟨xs[k],List.getElem_mem _,by simp at h2;simp;omega⟩]
     · have hw:IntKind.i64.wrap ((k:Int)+1)=((k+1:Nat):Int):=by rw [wrap_in]<;>omega
       (try simp only [go_sem,simprocAttr,hw]);refine ⟨_,?_,k+1,rfl,hlt,?_,rfl⟩
       · omega
       · unfold okPl at hall ⊢;rw [List.take_succ_eq_append_getElem hlt,List.all_append,hall];simp at hg h2;simp;omega
 · have hk':k=xs.length:=by simp at h;omega
   subst hk';(try simp only [go_sem,simprocAttr]);rw [List.take_length] at hall;rw [hall]
theorem cellOf_ok (k n:Int) (v:Value) (xs:List Int) (w:World) (hx0:Ints w v xs) :
   CallsR Tryz.prog 240 [.agg #[I k,I n,v]] w fun r w'=>∃ b,r = .agg #[I k,I n,.slice (some ⟨b,0,none⟩) xs.length xs.length] ∧
     w'.heap[b]? = some (.cells (xs.map I).toArray 3 (0,0))∧w.heap.size≤b∧Mod (fun _=>False) w w':=by
 have hx:=hx0;obtain ⟨a,c,rfl,hl,_⟩:=hx0;refine fit240.calls rfl ?_;unfold ir240;(try simp only [go_sem,simprocAttr]);refine e_bx rfl ?_;intro w1 hb1 hm1 hs1;(try simp only [go_sem,simprocAttr]);refine e_al ?_;intro w2 hb2 hm2 hs2;have hb1':=hm2.at hb1 (fun h=>h);(try simp only [go_sem,simprocAttr,cell_of hb1']);have hx2:Ints w2.drew (.slice a xs.length c) xs:=(hx.mod (hm1.trans hm2.drew) (fun _ _ h=>h));refine e_call (by rfl) ?_;refine (copied_ok _ xs _ hx2).mono ?_;rintro r w3 ⟨b,rfl,hb3,hge,hm3⟩;have hm3:=hm3.of_drew;have hlt:=lt_of_heap hb1';(try simp only [go_sem,simprocAttr]);refine ⟨hm3.old _ hlt (fun h=>h),?_⟩;have hb2':=hm3.at hb2 (fun h=>h);have hge:w2.heap.size≤b:=hge;refine e_sta rfl rfl hb2' rfl rfl (by simp [Value.oneCell']) ?_;intro w4 hb4 hm4 hs4;have hl2:=lt_of_heap hb2;(try simp only [go_sem,simprocAttr,ln_of hb4 (off:=0) (n:=3) (by simp)]);exact ⟨b,rfl,hm4.at hb3 (by omega),by omega,((hm1.trans hm2).trans hm3).step hm4 (fun i hi hlt=>by omega)⟩
theorem Args.mod' {w w':World} {ps:List (Nd×Value)} {F S:Nat→Prop} (h:Args w ps F) (hm:Mod S w w') (hs:∀ b cs fz,S b→w.heap[b]? = some (.cells cs 3 fz)→False):Args w' ps F:=by
 intro p hp;obtain ⟨fp,h1,h2⟩:=h p hp;exact ⟨fp,h1.mod' hm hs,h2⟩
theorem Args.app {w:World} {ps qs:List (Nd×Value)} {F:Nat→Prop} (h:Args w ps F) (k:Args w qs F):Args w (ps++qs) F:=by
 intro p hp;rcases List.mem_append.1 hp with hp | hp
 · exact h p hp
 · exact k p hp
def ArenaAt (Ta Tc:Nat) (w:World) (a:Nat) (size times:Int) (ns:List Nd) (F:Nat→Prop):Prop:=
 ∃ cv fpc ps,w.heap[a]? = some (.cells #[I size,cv,I times] Ta (0,0))∧F a∧OwnS w Tc 3 cv (flat ps) ns.length fpc∧(∀ b,fpc=some b→F b)∧Args w ps F∧ps.map Prod.fst=ns∧(∀ b,F b→b < w.heap.size)
theorem ArenaAt.mod {Ta Tc:Nat} {w w':World} {a:Nat} {size times:Int} {ns:List Nd} {F S:Nat→Prop} (h:ArenaAt Ta Tc w a size times ns F) (hm:Mod S w w') (hd:∀ b,F b→¬ S b) :
   ArenaAt Ta Tc w' a size times ns F:=by
 obtain ⟨cv,fpc,ps,h1,h2,h3,h4,h5,h6,h7⟩:=h;exact ⟨cv,fpc,ps,hm.at h1 (hd a h2),h2,h3.mod hm (fun b hb=>hd b (h4 b hb)),h4,h5.mod hm hd,h6,fun b hb=>Nat.lt_of_lt_of_le (h7 b hb) hm.size⟩
def Grow (F F':Nat→Prop) (w w':World):Prop:=Mod F w w'∧∀ b,F' b→F b∨w.heap.size≤b
theorem ArenaAt.has {Ta Tc:Nat} {w:World} {a:Nat} {size times:Int} {ns:List Nd} {F:Nat→Prop} (h:ArenaAt Ta Tc w a size times ns F):HasNodes w a ns.length:=by
 obtain ⟨cv,fpc,ps,h1,h2,h3,h4,h5,h6,h7⟩:=h;obtain ⟨x,c,rfl,_⟩:=h3.val;exact ⟨Ta,_,x,c,_,h1⟩
theorem used_ok (a:Nat) (size times:Int) (ns:List Nd) (F:Nat→Prop) (w:World) (h:ArenaAt 205 277 w a size times ns F) :
   CallsR Tryz.prog 237 [.pointer (some ⟨a,0,none⟩)] w fun r w'=>r=I ns.length∧w=w':=by
 obtain ⟨T,sz,x,c,col,h1⟩:=h.has;refine fit237.calls rfl ?_;unfold ir237;(try simp only [go_sem,simprocAttr,cell_of h1])
theorem new_ok (size:Int) (w:World) :
   CallsR Tryz.prog 108 [I size] w fun r w'=>(1≤size∧size≤1048576→r = .tuple #[.pointer (some ⟨w.heap.size,0,none⟩),I 0]∧ArenaAt 205 277 w' w.heap.size size 0 [] (· = w.heap.size)∧Mod (fun _=>False) w w'∧w'.heap.size=w.heap.size+1) ∧
     (¬ (1≤size∧size≤1048576)→r = .tuple #[.pointer none,I 200]∧w=w'):=by
 refine fit108.calls rfl ?_;unfold ir108;(try simp only [go_sem,simprocAttr]);refine wpS_gr rfl (fun h=>?_) (fun h=>?_)
 · (try simp only [go_sem,simprocAttr,h]);have h':size < 1:=by simpa using h
   exact ⟨fun hh=>by omega,fun _=>trivial⟩
 · (try simp only [go_sem,simprocAttr,h]);have h':¬ size < 1:=by simpa using h
   refine ir_cond rfl (fun h2=>?_) (fun h2=>?_)
   · (try simp only [go_sem,simprocAttr]);have h2':size > 1048576:=by simpa using h2
     exact ⟨fun hh=>by omega,fun _=>trivial⟩
   · (try simp only [go_sem,simprocAttr]);have h2':¬ size > 1048576:=by simpa using h2
     refine e_bx rfl ?_;intro w1 hb1 hm1 hs1;(try simp only [go_sem,simprocAttr]);refine ⟨fun _=>⟨⟨_,none,[],hb1,rfl,OwnS.nil w1 277 3,(fun b h=>by cases h),(fun p hp=>by cases hp),rfl,(fun b hb=>by omega)⟩,hm1,hs1⟩,fun hh=>by omega⟩
def addS (size:Int) (ns:List Nd) (nd:Nd):Int×Int×List Nd:=
 if nd.may=false then (0,1,ns) else if okPl ns.length nd.args=false then (0,202,ns) else if (ns.length:Int)=size then (0,201,ns) else (ns.length,0,ns++[nd])
def AddPost (Ta Tc:Nat) (a:Nat) (size times:Int) (F:Nat→Prop) (w:World) (s:Int×Int×List Nd) (r:Value) (w':World):Prop:=
 r = .tuple #[I s.1,I s.2.1]∧∃ F',ArenaAt Ta Tc w' a size times s.2.2 F'∧Grow F F' w w'
theorem flat_one (p:Nd×Value):flat [p]=nc p:=by simp [flat]
theorem add_ok (a:Nat) (size times:Int) (ns:List Nd) (nd:Nd) (v:Value) (F:Nat→Prop) (w:World) (h:ArenaAt 205 277 w a size times ns F) (hle:(ns.length:Int)≤size) (hsz:size≤1048576) (hx0:Ints w v nd.args) :
   CallsR Tryz.prog 231 [.pointer (some ⟨a,0,none⟩),.agg #[I nd.kind,I nd.num,v]] w (AddPost 205 277 a size times F w (addS size ns nd)):=by
 have hx:=hx0;obtain ⟨va,vc,rfl,hl,_⟩:=hx0;refine fit231.calls rfl ?_;unfold ir231;(try simp only [go_sem,simprocAttr]);refine e_bx rfl ?_;intro w1 hb1 hm1 hs1;have h1:=h.mod hm1 (fun _ _ h=>h);have hx1:=hx.mod hm1 (fun _ _ h=>h);have hd:vLN w1 3 (.pointer (some ⟨w.heap.size,0,none⟩))=some (.agg #[I nd.kind,I nd.num,.slice va nd.args.length vc]):=ln_of hb1 (off:=0) (n:=3) (by simp);have same:∀ w2,Mod (fun _=>False) w1 w2→∃ F',ArenaAt 205 277 w2 a size times ns F'∧Grow F F' w w2:=fun w2 hm2=>
   ⟨F,h1.mod hm2 (fun _ _ h=>h),(hm1.trans hm2).weak (fun _ h=>h.elim),fun b hb=>.inl hb⟩
 (try simp only [go_sem,simprocAttr,hd]);refine e_call (by rfl) ?_;refine (may_ok nd.kind nd.num _ nd.args w1 hx1).mono ?_;rintro r w2 ⟨rfl,hm2⟩;have hb2:=hm2.at hb1 (fun h=>h);(try simp only [go_sem,simprocAttr]);refine ir_cond rfl (fun hc=>?_) (fun hc=>?_)
 · (try simp only [go_sem,simprocAttr]);have hc':nd.may=false:=by simpa [Nd.may] using hc
   exact ⟨by simp [addS,hc'],by simpa [addS,hc'] using same w2 hm2⟩
 have hc1:nd.may=true:=by simpa [Nd.may] using hc
 have hx2:=hx1.mod hm2 (fun _ _ h=>h);have h2:=h1.mod hm2 (fun _ _ h=>h);(try simp only [go_sem,simprocAttr,cell_of hb2]);refine e_call (by rfl) ?_;refine (places_ok a ns.length _ nd.args w2 h2.has hx2).mono ?_;rintro r _ ⟨rfl,rfl⟩;(try simp only [go_sem,simprocAttr]);refine ir_cond rfl (fun hc=>?_) (fun hc=>?_)
 · (try simp only [go_sem,simprocAttr]);have hc':okPl ns.length nd.args=false:=by simpa using hc
   exact ⟨by simp [addS,hc',hc1],by simpa [addS,hc',hc1] using same w2 hm2⟩
 have hc2:okPl ns.length nd.args=true:=by simpa using hc
 obtain ⟨cv,fpc,ps,g1,g2,g3,g4,g5,g6,g7⟩:=h2;obtain ⟨ca,cc,rfl,hcc,hca⟩:=g3.val;(try simp only [go_sem,simprocAttr,cell_of g1]);refine ir_cond rfl (fun hc=>?_) (fun hc=>?_)
 · (try simp only [go_sem,simprocAttr]);have hc':(ns.length:Int)=size:=by simpa using hc
   exact ⟨by simp [addS,hc',hc1,hc2],by simpa [addS,hc',hc1,hc2] using same w2.drew hm2.drew⟩
 have hc3:¬ (ns.length:Int)=size:=by simpa using hc
 have hd2:vLN w2.drew.drew 3 (.pointer (some ⟨w.heap.size,0,none⟩))=some (.agg #[I nd.kind,I nd.num,.slice va nd.args.length vc]):=ln_of (w:=w2.drew.drew) hb2 (off:=0) (n:=3) (by simp);(try simp only [go_sem,simprocAttr,cell_of g1,hd2]);refine e_call (by rfl) ?_;refine (cellOf_ok nd.kind nd.num _ nd.args w2.drew.drew hx2).mono ?_;rintro r w3 ⟨b3,rfl,hb3,hge3,hm3⟩;have hm3:Mod (fun _=>False) w2 w3:=hm3.of_drew.of_drew;have hge3:w2.heap.size≤b3:=hge3;have ga:=hm3.at g1 (fun h=>h);have gc:=g3.mod hm3 (fun _ _ h=>h);(try simp only [go_sem,simprocAttr]);refine ⟨hm3.old _ (lt_of_heap g1) (fun h=>h),?_⟩;refine e_bs (by rfl) (by (try simp only [go_sem,simprocAttr]);rfl) ?_;intro w4 hb4 hm4 hs4;(try simp only [go_sem,simprocAttr]);refine ⟨hm4.old _ (lt_of_heap ga) (fun h=>h),?_⟩;have ga4:=hm4.at ga (fun h=>h);have gc4:=gc.mod hm4 (fun _ _ h=>h);have hb4':=hm4.at hb3 (fun h=>h);refine e_ap (m:=1) (news:=nc (nd,.slice (some ⟨b3,0,none⟩) nd.args.length nd.args.length)) rfl gc4 rfl (fun h=>by cases h) (rd_block hb4) (by simp [nc,Value.oneCell']) rfl (by omega) (by omega) ?_;intro v5 w5 fp5 ho5 hm5 hf5;have hne:fpc≠some a:=own_ne gc4 ga4 (by omega);have ga5:=hm5.at ga4 hne;have hne3:fpc≠some b3:=own_ne gc4 hb4' (by omega);have hb5':=hm5.at hb4' hne3;obtain ⟨va5,vc5,rfl,_⟩:=ho5.val;(try simp only [go_sem,simprocAttr]);refine e_st1 (off:=1) rfl rfl ga5 rfl (by simp) ?_;intro w6 hb6 hm6 hs6;have hw:IntKind.i64.wrap (((ns.length+1:Nat):Int) - 1)=ns.length:=by rw [wrap_in]<;>omega
 (try simp only [go_sem,simprocAttr,cell_of hb6,hw]);have la:=lt_of_heap g1;have hall:Mod F w w6:=(((((hm1.weak (fun _ h=>h.elim)).step hm2 (fun _ h _=>h.elim)).step hm3 (fun _ h _=>h.elim)).step hm4 (fun _ h _=>h.elim)).step hm5 (fun i h _=>g4 i h)).step hm6 (fun i h _=>h ▸ g2);have hadd:addS size ns nd=((ns.length:Int),0,ns++[nd]):=by simp [addS,hc1,hc2,hc3]
 refine ⟨by rw [hadd],fun b=>F b∨b=b3∨fp5=some b,?_,hall,?_⟩
 · rw [hadd];have hn5:fp5≠some a:=own_ne ho5 ga5 (by omega);refine ⟨_,fp5,ps++[(nd,.slice (some ⟨b3,0,none⟩) nd.args.length nd.args.length)],hb6,.inl g2,?_,fun b hb=>.inr (.inr hb),?_,?_,?_⟩
   · rw [flat_app,flat_one]
     simpa using ho5.mod hm6 (fun b hb hh=>hn5 (by rw [hb,hh]))
   · have e1:=((g5.mod' (hm3.trans hm4) (fun _ _ _ h _=>h)).mod' hm5 (fun b cs fz hb hc=>own_kind gc4 hb hc (by omega))).mod' hm6 (fun b cs fz hb hc=>kind_ne ga5 (hb ▸ hc) (by omega));refine (e1.weak (fun b hb=>.inl hb)).app ?_;intro p hp;simp only [List.mem_cons,List.not_mem_nil,or_false] at hp;subst hp;refine ⟨some b3,OwnS.of_block (hm6.at hb5' (fun hh=>kind_ne hb5' (hh ▸ ga5) (by omega))) (by simp),fun b hb=>.inr (.inl (by cases hb;rfl))⟩
   · simp [g6]
   · intro b hb;have:=hm3.size;have:=hm4.size;have:=hm5.size;have:=hm6.size;have:=lt_of_heap hb3;rcases hb with hb | hb | hb
     · have:=g7 b hb;omega
     · omega
     · have:=ho5.lt hb;omega
 · intro b hb;have:=hm1.size;have:=hm2.size;have:=hm3.size;have:=hm4.size;rcases hb with hb | hb | hb
   · exact .inl hb
   · exact .inr (by omega)
   · rcases hf5 b hb with hh | hh
     · exact .inl (g4 b hh)
     · exact .inr (by omega)
end
section
open Go Go.W
theorem ints_block {w:World} {b T:Nat} {xs:List Int} (h:w.heap[b]? = some (.cells (xs.map I).toArray T (0,0))) (hl:xs.length≤17592186044416) :
   Ints w (.slice (some ⟨b,0,none⟩) xs.length xs.length) xs:=by
 refine ⟨some ⟨b,0,none⟩,xs.length,rfl,hl,fun i hi=>⟨_,rfl,?_⟩⟩;rw [add_at,cell_of h];simp [hi]
theorem okPl_one (n:Nat) (x:Int):okPl n [x]=decide (0≤x∧x < n):=by
 simp [okPl]
def NewOwn (w w':World) (v:Value) (xs:List Int):Prop:=∃ fp,OwnS w' 3 1 v (xs.map I) xs.length fp∧∀ b,fp=some b→w.heap.size≤b
def GetPost (w:World) (ns:List Nd) (at':Int) (r:Value) (w':World):Prop:=
 Mod (fun _=>False) w w'∧(∀ i nd,at'=(i:Nat)→ns[i]? = some nd→∃ v,r = .tuple #[.agg #[I nd.kind,I nd.num,v],I 0]∧NewOwn w w' v nd.args) ∧
   (¬ (0≤at'∧at' < ns.length)→r = .tuple #[.agg #[I 0,I 0,.slice none 0 0],I 202])
theorem node_ln {w:World} {b T:Nat} {ps:List (Nd×Value)} {sp':List Value} (h:w.heap[b]? = some (.cells (flat ps++sp').toArray T (0,0))) {i:Nat} (hi:i < ps.length) :
   vLN w 3 (.pointer (some ⟨b,i*3,none⟩))=some (.agg #[I ps[i].1.kind,I ps[i].1.num,ps[i].2]):=by
 have hlen:=flat_len ps;rw [ln_of h (off:=i*3) (n:=3) (by simp;omega)];rw [List.drop_append_of_le_length (by omega),List.take_append_of_le_length (by simp;omega),flat_take_drop ps i hi];rfl
theorem node_cell {w:World} {b T:Nat} {ps:List (Nd×Value)} {sp':List Value} (h:w.heap[b]? = some (.cells (flat ps++sp').toArray T (0,0))) {i k:Nat} (hi:i < ps.length) (hk:k < 3) :
   w.cell? ⟨b,i*3+k,none⟩=(nc ps[i])[k]?:=by
 have hlen:=flat_len ps;rw [cell_of h,← flat_at ps i k hi hk];simp only [List.getElem?_toArray];rw [List.getElem?_append_left (by omega)]
theorem Args.at {w:World} {ps:List (Nd×Value)} {F:Nat→Prop} (h:Args w ps F) {i:Nat} (hi:i < ps.length) (hl:ps[i].1.args.length≤17592186044416):Ints w ps[i].2 ps[i].1.args:=by
 obtain ⟨fp,h1,_⟩:=h _ (List.getElem_mem hi);exact (h1.ints hl).1
theorem get_ok (a:Nat) (size times:Int) (ns:List Nd) (at':Int) (F:Nat→Prop) (w:World) (h:ArenaAt 205 277 w a size times ns F) (hlen:ns.length≤1048576) (hargs:∀ nd∈ns,nd.args.length≤8) :
   CallsR Tryz.prog 234 [.pointer (some ⟨a,0,none⟩),I at'] w (GetPost w ns at'):=by
 refine fit234.calls rfl ?_;unfold ir234;(try simp only [go_sem,simprocAttr]);refine e_al ?_;intro w1 hb1 hm1 hs1;(try simp only [go_sem,simprocAttr]);refine e_bs (by rfl) (by (try simp only [go_sem,simprocAttr]);rfl) ?_;intro w2 hb2 hm2 hs2;have hm12:=hm1.trans hm2;have h2:=h.mod hm12 (fun _ _ h=>h);have hx:Ints w2 (.slice (some ⟨w1.heap.size,0,none⟩) 1 1) [at']:=ints_block (xs:=[at']) hb2 (by simp);(try simp only [go_sem,simprocAttr]);refine e_call (by rfl) ?_;refine (places_ok a ns.length _ [at'] w2 h2.has hx).mono ?_;rintro r _ ⟨rfl,rfl⟩;rw [okPl_one];have hb1':=hm2.at hb1 (fun h=>h);(try simp only [go_sem,simprocAttr]);refine ir_cond rfl (fun hc=>?_) (fun hc=>?_)
 · have hc':¬ (0≤at'∧at' < ns.length):=by simp at hc;omega
   (try simp only [go_sem,simprocAttr]);refine e_sta rfl rfl hb1' rfl rfl (by simp [Value.oneCell']) ?_;intro w3 hb3 hm3 hs3;(try simp only [go_sem,simprocAttr,ln_of hb3 (off:=0) (n:=3) (by simp)]);refine ⟨hm12.step hm3 (fun i hi hlt=>by omega),fun i nd he hn=>?_,fun _=>rfl⟩;exact absurd ⟨by omega,by have:=(List.getElem?_eq_some_iff.1 hn).1;omega⟩ hc'
 · have hc':0≤at'∧at' < ns.length:=by simpa using hc
   obtain ⟨i,rfl⟩:∃ i:Nat,at'=i:=⟨at'.toNat,by omega⟩;have hi:i < ns.length:=by omega
   obtain ⟨cv,fpc,ps,g1,g2,g3,g4,g5,g6,g7⟩:=h2;have hps:ps.length=ns.length:=by rw [← g6];simp
   obtain ⟨bc,cc,spc,rfl,rfl,gc,hcc,hcap⟩:=g3.pos (by omega);have hi':i < ps.length:=by omega
   have hnd:ps[i].1=ns[i]:=by simp [← g6]
   (try simp only [go_sem,simprocAttr,cell_of g1,hc',Int.toNat_natCast,node_ln gc hi']);refine e_al ?_;intro w3 hb3 hm3 hs3;(try simp only [go_sem,simprocAttr]);have hav:=g5.at hi' (by rw [hnd];have:=hargs ns[i] (List.getElem_mem hi);omega);obtain ⟨xa,xc,hav1,_,_⟩:=id hav;rw [hav1];refine e_sta rfl rfl hb3 rfl rfl (by simp [Value.oneCell']) ?_;intro w4 hb4 hm4 hs4;have hx4:Ints w4 (.slice xa ps[i].1.args.length xc) ps[i].1.args:=by
     rw [hav1] at hav;refine (hav.mod hm3 (fun _ _ h=>h)).mod hm4 (fun b hb hh=>?_);obtain ⟨fp,k1,k2⟩:=g5 _ (List.getElem_mem hi');rw [hav1] at k1;rcases k1.2 with ⟨k3,_,_⟩ | ⟨b',c',sp',k3,k4,k5,_⟩
     · simp only [Value.slice.injEq] at k3;obtain ⟨rfl,_⟩:=k3;simp [vblk] at hb
     · simp only [Value.slice.injEq] at k3;obtain ⟨rfl,_⟩:=k3;simp only [vblk,Option.some.injEq] at hb;subst hb;have:=lt_of_heap k5;omega
   (try simp only [go_sem,simprocAttr,cell_of hb4]);refine e_call (by rfl) ?_;refine (copied_ok _ _ w4.drew hx4).mono ?_;rintro r w5 ⟨b5,rfl,hb5,hge5,hm5⟩;have hm5:=hm5.of_drew;have hge5:w4.heap.size≤b5:=hge5;(try simp only [go_sem,simprocAttr]);refine ⟨hm5.old _ (lt_of_heap hb4) (fun h=>h),?_⟩;have hb6:=hm5.at (hm4.at (hm3.at hb1' (fun h=>h)) (by have:=lt_of_heap hb1';omega)) (fun h=>h);refine e_sta rfl rfl hb6 rfl rfl (by simp [Value.oneCell']) ?_;intro w6 hb7 hm6 hs6;(try simp only [go_sem,simprocAttr,ln_of hb7 (off:=0) (n:=3) (by simp)]);have l1:=lt_of_heap hb1';refine ⟨(((hm12.step hm3 (fun _ h _=>h)).step hm4 (fun j hj hlt=>by omega)).step hm5 (fun _ h _=>h)).step hm6 (fun j hj hlt=>by omega),fun j nd he hn=>?_,fun hh=>absurd hc' hh⟩;obtain rfl:i=j:=by omega
   have e1:nd=ps[i].1:=by
     rw [hnd];rw [List.getElem?_eq_getElem hi] at hn;exact (Option.some.inj hn).symm
   subst e1;refine ⟨_,rfl,some b5,OwnS.of_block (hm6.at hb5 (by omega)) (by simp),fun b hb=>by cases hb;have:=hm12.size;omega⟩
def setS (ns:List Nd) (at':Int) (nd:Nd):Int×List Nd:=
 if ¬ (0≤at'∧at' < ns.length) then (202,ns) else if nd.may=false then (1,ns) else if okPl ns.length nd.args=false then (202,ns) else (0,ns.set at'.toNat nd)
def SetPost (Ta Tc:Nat) (a:Nat) (size times:Int) (F:Nat→Prop) (w:World) (s:Int×List Nd) (r:Value) (w':World):Prop:=
 r=I s.1∧∃ F',ArenaAt Ta Tc w' a size times s.2 F'∧Grow F F' w w'
theorem set_self (ns:List Nd) (i:Nat) (nd:Nd) (hi:i < ns.length) (h:ns[i]=nd):ns.set i nd=ns:=by
 subst h;exact List.set_getElem_self hi
theorem set_ok (a:Nat) (size times:Int) (ns:List Nd) (at':Int) (nd:Nd) (v:Value) (F:Nat→Prop) (w:World) (h:ArenaAt 205 277 w a size times ns F) (hlen:ns.length≤1048576)
   (hargs:∀ nd∈ns,nd.args.length≤8) (hx0:Ints w v nd.args) :
   CallsR Tryz.prog 236 [.pointer (some ⟨a,0,none⟩),I at',.agg #[I nd.kind,I nd.num,v]] w (SetPost 205 277 a size times F w (setS ns at' nd)):=by
 have hx:=hx0;obtain ⟨va,vc,rfl,hl,_⟩:=hx0;refine fit236.calls rfl ?_;unfold ir236;(try simp only [go_sem,simprocAttr]);refine e_bx rfl ?_;intro w1 hb1 hm1 hs1;(try simp only [go_sem,simprocAttr]);refine e_bs (by rfl) (by (try simp only [go_sem,simprocAttr]);rfl) ?_;intro w2 hb2 hm2 hs2;have hm12:=hm1.trans hm2;have h2:=h.mod hm12 (fun _ _ h=>h);have hx1:Ints w2 (.slice (some ⟨w1.heap.size,0,none⟩) 1 1) [at']:=ints_block (xs:=[at']) hb2 (by simp);have hx2:=hx.mod hm12 (fun _ _ h=>h);have hb1':=hm2.at hb1 (fun h=>h);have same:∀ w3,Mod (fun _=>False) w2 w3→∃ F',ArenaAt 205 277 w3 a size times ns F'∧Grow F F' w w3:=fun w3 hm3=>
   ⟨F,h2.mod hm3 (fun _ _ h=>h),(hm12.trans hm3).weak (fun _ h=>h.elim),fun b hb=>.inl hb⟩
 (try simp only [go_sem,simprocAttr]);refine e_call (by rfl) ?_;refine (places_ok a ns.length _ [at'] w2 h2.has hx1).mono ?_;rintro r _ ⟨rfl,rfl⟩;rw [okPl_one];(try simp only [go_sem,simprocAttr]);refine ir_cond rfl (fun hc=>?_) (fun hc=>?_)
 · have hc':¬ (0≤at'∧at' < ns.length):=by simp at hc;omega
   (try simp only [go_sem,simprocAttr]);have e:setS ns at' nd=(202,ns):=by unfold setS;rw [if_pos hc']
   rw [e];exact ⟨rfl,same w2 (Mod.refl _ _)⟩
 have hc':0≤at'∧at' < ns.length:=by simpa using hc
 obtain ⟨i,rfl⟩:∃ i:Nat,at'=i:=⟨at'.toNat,by omega⟩;have hi:i < ns.length:=by omega
 have hd:vLN w2 3 (.pointer (some ⟨w.heap.size,0,none⟩))=some (.agg #[I nd.kind,I nd.num,.slice va nd.args.length vc]):=ln_of hb1' (off:=0) (n:=3) (by simp);(try simp only [go_sem,simprocAttr,hd]);refine e_call (by rfl) ?_;refine (may_ok nd.kind nd.num _ nd.args w2 hx2).mono ?_;rintro r w3 ⟨rfl,hm3⟩;have hb3:=hm3.at hb1' (fun h=>h);have h3:=h2.mod hm3 (fun _ _ h=>h);have hx3:=hx2.mod hm3 (fun _ _ h=>h);(try simp only [go_sem,simprocAttr]);refine ir_cond rfl (fun hm=>?_) (fun hm=>?_)
 · (try simp only [go_sem,simprocAttr]);have hm':nd.may=false:=by simpa [Nd.may] using hm
   have e:setS ns i nd=(1,ns):=by unfold setS;rw [if_neg (by simpa using hc'),if_pos hm']
   rw [e];exact ⟨rfl,same w3 hm3⟩
 have hm1':nd.may=true:=by simpa [Nd.may] using hm
 (try simp only [go_sem,simprocAttr,cell_of hb3]);refine e_call (by rfl) ?_;refine (places_ok a ns.length _ nd.args w3 h3.has hx3).mono ?_;rintro r _ ⟨rfl,rfl⟩;(try simp only [go_sem,simprocAttr]);refine ir_cond rfl (fun ho=>?_) (fun ho=>?_)
 · (try simp only [go_sem,simprocAttr]);have ho':okPl ns.length nd.args=false:=by simpa using ho
   have e:setS ns i nd=(202,ns):=by unfold setS;rw [if_neg (by simpa using hc'),if_neg (by simp [hm1']),if_pos ho']
   rw [e];exact ⟨rfl,same w3 hm3⟩
 have ho1:okPl ns.length nd.args=true:=by simpa using ho
 have e:setS ns i nd=(0,ns.set i nd):=by unfold setS;rw [if_neg (by simpa using hc'),if_neg (by simp [hm1']),if_neg (by simp [ho1])];simp
 rw [e];obtain ⟨cv,fpc,ps,g1,g2,g3,g4,g5,g6,g7⟩:=h3;have hps:ps.length=ns.length:=by rw [← g6];simp
 obtain ⟨bc,cc,spc,rfl,rfl,gc,hcc,hcap⟩:=g3.pos (by omega);have hi':i < ps.length:=by omega
 have hnd:ps[i].1=ns[i]:=by simp [← g6]
 have hflat:=flat_len ps;have hav:=g5.at hi' (by rw [hnd];have:=hargs ns[i] (List.getElem_mem hi);omega);obtain ⟨xa,xc,hav1,_,_⟩:=id hav;have c0:w3.cell? ⟨bc,i*3,none⟩=some (I ps[i].1.kind):=by have:=node_cell gc hi' (k:=0) (by omega);simpa [nc] using this
 have c1:w3.cell? ⟨bc,i*3+1,none⟩=some (I ps[i].1.num):=by have:=node_cell gc hi' (k:=1) (by omega);simpa [nc] using this
 have c2:w3.cell? ⟨bc,i*3+2,none⟩=some (.slice xa ps[i].1.args.length xc):=by have:=node_cell gc hi' (k:=2) (by omega);simpa [nc,hav1] using this
 have l2:vLN w3.drew 2 (.pointer (some ⟨bc,i*3,none⟩))=some (.agg #[I ps[i].1.kind,I ps[i].1.num]):=by
   have:=ln_of (w:=w3.drew) gc (off:=i*3) (n:=2) (by simp;omega);rw [this,List.drop_append_of_le_length (by omega),List.take_append_of_le_length (by simp;omega)];have h3:=flat_take_drop ps i hi';have:((flat ps).drop (i*3)).take 2=(nc ps[i]).take 2:=by rw [← h3,List.take_take];rfl
   rw [this];rfl
 (try simp only [go_sem,simprocAttr,cell_of hb3]);refine wpS_cut (fun ρ w'=>w'=w3.drew∧∃ q:Bool,(q=true→ns.set i nd=ns)∧ρ.get 0=some (.pointer (some ⟨a,0,none⟩))∧ρ.get 1=some (I i)∧ρ.get 5=some (.pointer (some ⟨w.heap.size,0,none⟩))∧ρ.get 54=some (.bool q)) ?_ ?_
 · refine wpS_gr rfl (fun hz=>?_) (fun hz=>?_)
   · have hz':nd.args.length=0:=Int.ofNat.inj (eq_of_beq hz);(try simp only [go_sem,simprocAttr,cell_of hb3,cell_of g1,hc',Int.toNat_natCast,l2,hz,c2]);refine wpS_gr rfl (fun ht=>?_) (fun ht=>?_)
     · (try simp only [go_sem,simprocAttr,cell_of hb3,cell_of g1,hc',Int.toNat_natCast,l2,hz,c2,ht]);refine ⟨_,fun hq=>?_,rfl⟩;have q1:ps[i].1.kind=nd.kind∧ps[i].1.num=nd.num:=by simpa using ht
       have q2:ps[i].1.args=[]:=by
         have:(ps[i].1.args.length:Int)=0:=by simpa using hq
         exact List.eq_nil_of_length_eq_zero (by omega)
       refine set_self ns i nd hi ?_;rw [← hnd];have e3:nd.args=[]:=List.eq_nil_of_length_eq_zero hz';have:∀ x y:Nd,x.kind=y.kind→x.num=y.num→x.args=y.args→x=y:=by intro x y h1 h2 h3;cases x;cases y;simp_all
       exact this _ _ q1.1 q1.2 (by rw [q2,e3])
     · (try simp only [go_sem,simprocAttr,cell_of hb3,hz,ht]);exact ⟨_,fun hq=>(by cases hq),rfl⟩
   · (try simp only [go_sem,simprocAttr,cell_of hb3,hz]);exact ⟨_,fun hq=>(by cases hq),rfl⟩
 · rintro ρ _ ⟨rfl,q,hq,r0,r1,r5,r54⟩;(try simp only [go_sem,simprocAttr,r0,r1,r5,r54]);refine ir_cond rfl (fun ht=>?_) (fun ht=>?_)
   · (try simp only [go_sem,simprocAttr]);rw [hq ht];exact ⟨rfl,same w3.drew hm3.drew⟩
   · have hd3:vLN w3.drew.drew 3 (.pointer (some ⟨w.heap.size,0,none⟩))=some (.agg #[I nd.kind,I nd.num,.slice va nd.args.length vc]):=ln_of (w:=w3.drew.drew) hb3 (off:=0) (n:=3) (by simp);(try simp only [go_sem,simprocAttr,cell_of g1,hd3]);refine e_call (by rfl) ?_;refine (cellOf_ok nd.kind nd.num _ nd.args w3.drew.drew hx3).mono ?_;rintro r w4 ⟨b4,rfl,hb4,hge4,hm4⟩;have hm4:Mod (fun _=>False) w3 w4:=hm4.of_drew.of_drew;have hge4:w3.heap.size≤b4:=hge4;(try simp only [go_sem,simprocAttr,hc',Int.toNat_natCast]);refine ⟨hm4.old _ (lt_of_heap g1) (fun h=>h),?_⟩;have gc4:=hm4.at gc (fun h=>h);have ga4:=hm4.at g1 (fun h=>h);refine e_stg rfl rfl gc4 rfl (by simp;omega) (by simp [Value.oneCell']) ?_;intro w5 hb5 hm5 hs5;(try simp only [go_sem,simprocAttr]);have hne:a≠bc:=fun hh=>kind_ne ga4 (hh ▸ gc4) (by omega)
     have hsp:=flat_set ps i (nd,.slice (some ⟨b4,0,none⟩) nd.args.length nd.args.length) hi' spc;have lc:=lt_of_heap gc;have la:=lt_of_heap g1;have l4:=lt_of_heap hb4;have h45:=hm4.size;have h55:=hm5.size;refine ⟨rfl,fun b=>F b∨b=b4,⟨_,some bc,ps.set i (nd,.slice (some ⟨b4,0,none⟩) nd.args.length nd.args.length),hm5.at ga4 hne,.inl g2,?_,fun b hb=>.inl (g4 b hb),?_,?_,?_⟩,?_,?_⟩
     · refine ⟨by rw [flat_len];simp;omega,.inr ⟨bc,cc,spc,by simp,rfl,?_,?_,by simpa using hcc⟩⟩
       · rw [← hsp];exact hb5
       · rw [List.length_append,flat_len,List.length_set,← flat_len,← List.length_append];exact hcap
     · have e1:=(g5.mod' hm4 (fun _ _ _ h _=>h)).mod' hm5 (fun b cs fz hb hc=>kind_ne gc4 (hb ▸ hc) (by omega));intro p hp;rcases List.mem_or_eq_of_mem_set hp with hp | rfl
       · obtain ⟨fp,k1,k2⟩:=e1 p hp;exact ⟨fp,k1,fun b hb=>.inl (k2 b hb)⟩
       · exact ⟨some b4,OwnS.of_block (hm5.at hb4 (fun hh=>kind_ne hb4 (hh ▸ gc4) (by omega))) (by simp),fun b hb=>.inr (by cases hb;rfl)⟩
     · rw [List.map_set,g6]
     · intro b hb;rcases hb with hb | hb
       · have:=g7 b hb;omega
       · omega
     · exact (((hm12.trans hm3).weak (fun _ h=>h.elim)).step hm4 (fun _ h _=>h.elim)).step hm5 (fun j hj _=>hj ▸ g4 bc rfl)
     · intro b hb;have:=(hm12.trans hm3).size;rcases hb with hb | hb
       · exact .inl hb
       · exact .inr (by omega)
end
section
def fit (f:Nat→Nat):Nat→Nat→Nat
 | 0,x=>x
 | k+1,x=>fit f k (f x)
theorem fit_add (f:Nat→Nat) (a b x:Nat):fit f (a+b) x=fit f a (fit f b x):=by
 induction b generalizing x with
 | zero=>rfl
 | succ b ih=>exact ih (f x)
theorem fit_succ (f:Nat→Nat) (k x:Nat):fit f (k+1) x=f (fit f k x):=by
 rw [Nat.add_comm,fit_add];rfl
theorem fit_lt {f:Nat→Nat} {n:Nat} (hf:∀ x,x < n→f x < n) (k:Nat) {x:Nat} (hx:x < n):fit f k x < n:=by
 induction k generalizing x with
 | zero=>exact hx
 | succ k ih=>exact ih (hf x hx)
theorem nodup_le:∀ (n:Nat) (l:List Nat),l.Nodup→(∀ x∈l,x < n)→l.length≤n:=by
 intro n
 induction n with
 | zero=>
   intro l _ h;cases l with
   | nil=>simp
   | cons x l=>exact absurd (h x List.mem_cons_self) (by omega)
 | succ n ih=>
   intro l hn h;have h1:(l.erase n).length≤n:=by
     refine ih _ (hn.erase n) (fun x hx=>?_);have h2:=(hn.mem_erase_iff).1 hx;have:=h x h2.2;have:=h2.1;omega
   by_cases hm:n∈l
   · rw [List.length_erase_of_mem hm] at h1;omega
   · rw [List.erase_of_not_mem hm] at h1;omega
theorem pigeon {f:Nat→Nat} {n x:Nat} (hf:∀ x,x < n→f x < n) (hx:x < n):∃ i j,i < j∧j≤n∧fit f i x=fit f j x:=by
 apply Classical.byContradiction;intro hno;have hnd:((List.range (n+1)).map (fun k=>fit f k x)).Nodup:=by
   unfold List.Nodup;rw [List.pairwise_map];have hp:(List.range (n+1)).Pairwise (· < ·):=List.pairwise_lt_range;refine (hp.imp_of_mem ?_);intro i j hi hj hij he;exact hno ⟨i,j,hij,by have:=List.mem_range.1 hj;omega,he⟩
 have:=nodup_le n _ hnd (by
   intro y hy;obtain ⟨k,_,rfl⟩:=List.mem_map.1 hy
   exact fit_lt hf k hx)
 simp at this;omega
section
variable {f:Nat→Nat} {n:Nat} (hf:∀ x,x < n→f x < n)
include hf
theorem onRing {x:Nat} (hx:x < n) (m:Nat) (hm:n≤m):∃ d,1≤d∧d≤n∧fit f d (fit f m x)=fit f m x:=by
 obtain ⟨i,j,hij,hj,he⟩:=pigeon hf hx;refine ⟨j - i,by omega,by omega,?_⟩;have h1:fit f m x=fit f (m - i) (fit f i x):=by rw [← fit_add];congr 1;omega
 rw [← fit_add,show j - i+m=(m - i)+j by omega,fit_add,← he,← fit_add]
 congr 1;omega
omit hf in
theorem ring_mod {c d:Nat} (hd1:1≤d) (hdn:d≤n) (hc:fit f d c=c):∀ m,∃ k,k≤n∧fit f m c=fit f k c:=by
 intro m
 induction m using Nat.strongRecOn with
 | _ m ih=>
   by_cases hm:m≤n
   · exact ⟨m,hm,rfl⟩
   · obtain ⟨k,hk,he⟩:=ih (m - d) (by omega);refine ⟨k,hk,?_⟩;rw [← he,show m=(m - d)+d by omega,fit_add,hc]
     congr 1;omega
omit hf in
theorem foldmin (l:List Nat):∀ a,(l.foldl min a=a∨l.foldl min a∈l)∧l.foldl min a≤a∧∀ x∈l,l.foldl min a≤x:=by
 induction l with
 | nil=>intro a;simp
 | cons y l ih=>
   intro a;obtain ⟨h1,h2,h3⟩:=ih (min a y);simp only [List.foldl_cons];refine ⟨?_,by omega,?_⟩
   · rcases h1 with h1 | h1
     · by_cases hay:a≤y
       · left;rw [h1];omega
       · right;rw [h1,show min a y=y by omega];exact List.mem_cons_self
     · right;exact List.mem_cons_of_mem _ h1
   · intro x hx;cases hx with
     | head=>omega
     | tail _ hx=>exact h3 x hx
omit hf
def ov (f:Nat→Nat) (n x:Nat):Nat:=((List.range (n+1)).map (fun k=>fit f k (fit f n x))).foldl min (fit f n x)
theorem ov_mem (f:Nat→Nat) (n x:Nat):∃ k,k≤n∧ov f n x=fit f (k+n) x:=by
 have:=(foldmin ((List.range (n+1)).map (fun k=>fit f k (fit f n x))) (fit f n x)).1;unfold ov;rcases this with h | h
 · exact ⟨0,by omega,by rw [h];simp⟩
 · obtain ⟨k,hk,he⟩:=List.mem_map.1 h;exact ⟨k,by have:=List.mem_range.1 hk;omega,by rw [← he,fit_add]⟩
theorem ov_le (f:Nat→Nat) (n x k:Nat) (hk:k≤n):ov f n x≤fit f k (fit f n x):=
 (foldmin ((List.range (n+1)).map (fun k=>fit f k (fit f n x))) (fit f n x)).2.2 _ (List.mem_map.2 ⟨k,List.mem_range.2 (by omega),rfl⟩)
include hf
theorem ov_lt {x:Nat} (hx:x < n):ov f n x < n:=by
 obtain ⟨k,_,h⟩:=ov_mem f n x;rw [h];exact fit_lt hf _ hx
theorem ov_le' {x:Nat} (hx:x < n) (m:Nat) (hm:n≤m):ov f n x≤fit f m x:=by
 obtain ⟨d,h1,h2,h3⟩:=onRing hf hx n (Nat.le_refl _);obtain ⟨k,hk,he⟩:=ring_mod h1 h2 h3 (m - n);have:fit f m x=fit f k (fit f n x):=by rw [← he,← fit_add];congr 1;omega
 rw [this];exact ov_le f n x k hk
theorem ov_f {x:Nat} (hx:x < n):ov f n (f x)=ov f n x:=by
 apply Nat.le_antisymm
 · obtain ⟨k,_,h⟩:=ov_mem f n x;obtain ⟨d,h1,h2,h3⟩:=onRing hf hx (k+n) (by omega);rw [h,← h3,← fit_add,show d+(k+n)=(d+(k+n) - 1)+1 by omega];exact ov_le' hf (hf x hx) (d+(k+n) - 1) (by omega)
 · obtain ⟨k,_,h⟩:=ov_mem f n (f x);rw [h];exact ov_le' hf hx (k+n+1) (by omega)
theorem ov_fit {x:Nat} (hx:x < n) (k:Nat):ov f n (fit f k x)=ov f n x:=by
 induction k generalizing x with
 | zero=>rfl
 | succ k ih=>rw [show fit f (k+1) x=fit f k (f x) from rfl,ih (hf x hx),ov_f hf hx]
theorem ov_ov {x:Nat} (hx:x < n):ov f n (ov f n x)=ov f n x:=by
 obtain ⟨k,_,h⟩:=ov_mem f n x
 conv=>lhs;rw [h]
 exact ov_fit hf hx _
theorem ov_eq {x y:Nat} (hx:x < n) (hy:y < n):ov f n x=ov f n y↔∃ a b,fit f a x=fit f b y:=by
 constructor
 · intro h;obtain ⟨a,_,ha⟩:=ov_mem f n x;obtain ⟨b,_,hb⟩:=ov_mem f n y;exact ⟨a+n,b+n,by rw [← ha,← hb,h]⟩
 · rintro ⟨a,b,h⟩;rw [← ov_fit hf hx a,h,ov_fit hf hy b]
omit hf
theorem fit_fix {t:Nat} (h:f t=t):∀ k,fit f k t=t:=by
 intro k
 induction k with
 | zero=>rfl
 | succ k ih=>rw [fit_succ,ih,h]
theorem ov_fix {t:Nat} (h:f t=t):ov f n t=t:=by
 obtain ⟨k,_,he⟩:=ov_mem f n t;rw [he,fit_fix h]
end
end
section
open Go Go.W
def ndAt (ns:List Nd) (p:Nat):Nd:=ns.getD p ⟨0,0,[]⟩
def ind (ns:List Nd) (p:Nat):Bool:=decide ((ndAt ns p).kind=5)
def nxt (ns:List Nd) (p:Nat):Nat:=if ind ns p then ((ndAt ns p).args.getD 0 0).toNat else p
def WF (ns:List Nd):Prop:=∀ nd∈ns,nd.may=true∧okPl ns.length nd.args=true
theorem wf_at {ns:List Nd} (h:WF ns) {p:Nat} (hp:p < ns.length):(ndAt ns p).may=true∧okPl ns.length (ndAt ns p).args=true:=by
 have:ndAt ns p=ns[p]:=by simp [ndAt,hp]
 rw [this];exact h _ (List.getElem_mem hp)
theorem wf_ind {ns:List Nd} (h:WF ns) {p:Nat} (hp:p < ns.length) (hi:ind ns p=true):∃ q:Nat,q < ns.length∧(ndAt ns p).args=[(q:Int)]∧nxt ns p=q:=by
 obtain ⟨h1,h2⟩:=wf_at h hp;have hk:(ndAt ns p).kind=5:=by simpa [ind] using hi
 simp only [Nd.may,mayB,hk,decide_eq_true_eq] at h1;have hl:(ndAt ns p).args.length=1:=by omega
 obtain ⟨x,hx⟩:=List.length_eq_one_iff.1 hl;rw [hx] at h2;rw [okPl_one] at h2;simp only [decide_eq_true_eq] at h2;refine ⟨x.toNat,by omega,by rw [hx];congr 1;omega,by simp [nxt,hi,hx]⟩
theorem wf_nxt_lt {ns:List Nd} (h:WF ns):∀ p,p < ns.length→nxt ns p < ns.length:=by
 intro p hp;cases hi:ind ns p with
 | true=>obtain ⟨q,h1,_,h2⟩:=wf_ind h hp hi;rw [h2];exact h1
 | false=>simp [nxt,hi,hp]
theorem nxt_fix {ns:List Nd} {p:Nat} (hi:ind ns p=false):nxt ns p=p:=by simp [nxt,hi]
theorem wf_args_le {ns:List Nd} (h:WF ns):∀ nd∈ns,nd.args.length≤8:=by
 intro nd hn;have:=(h nd hn).1;simp only [Nd.may,mayB,decide_eq_true_eq] at this;omega
def over (ns:List Nd) (p:Nat):Nat:=ov (nxt ns) ns.length p
structure KI (ns:List Nd) (l:List Int):Prop where
 len:l.length=ns.length
 rep:∀ i,i < ns.length→l.getD i 0≠0→∃ e:Nat,l.getD i 0=e+1∧e < ns.length∧over ns e=over ns i∧l.getD e 0=e+1∧(ind ns e=true→ind ns (over ns i)=true)
 shut:∀ i,i < ns.length→l.getD i 0≠0→l.getD (nxt ns i) 0≠0
 one:∀ i j,i < ns.length→j < ns.length→l.getD i 0≠0→l.getD j 0≠0→over ns i=over ns j→l.getD i 0=l.getD j 0
theorem ki_fit {ns:List Nd} (hw:WF ns) {l:List Int} (h:KI ns l) {i:Nat} (hi:i < ns.length) (hk:l.getD i 0≠0):∀ k,l.getD (fit (nxt ns) k i) 0≠0:=by
 intro k
 induction k with
 | zero=>exact hk
 | succ k ih=>rw [fit_succ];exact h.shut _ (fit_lt (wf_nxt_lt hw) k hi) ih
theorem ki_start (ns:List Nd):KI ns (List.replicate ns.length 0):=by
 have h0:∀ i,(List.replicate ns.length (0:Int)).getD i 0=0:=by intro i;simp [List.getElem?_replicate];split<;>rfl
 refine ⟨by simp,fun i _ h=>absurd (h0 i) h,fun i _ h=>absurd (h0 i) h,fun i j _ _ h=>absurd (h0 i) h⟩
theorem ki_pass {ns:List Nd} (hw:WF ns) {l l':List Int} (h:KI ns l) {p0 k e:Nat} (hp:p0 < ns.length)
   (hun:∀ j,j < k→ind ns (fit (nxt ns) j p0)=true∧l.getD (fit (nxt ns) j p0) 0=0)
   (hend:(e=fit (nxt ns) k p0∧l.getD e 0=0∧((ind ns e=false)∨∃ j,j < k∧e=fit (nxt ns) j p0))∨(l.getD (fit (nxt ns) k p0) 0=e+1))
   (hl:l'.length=ns.length) (hl':∀ i,i < ns.length→l'.getD i 0=if (∃ j,j≤k∧i=fit (nxt ns) j p0) then (e:Int)+1 else l.getD i 0) :
   KI ns l'∧l'.getD p0 0=e+1∧(∀ i,i < ns.length→l.getD i 0≠0→l'.getD i 0=l.getD i 0):=by
 have hf:=(wf_nxt_lt hw);have onway:∀ j,over ns (fit (nxt ns) j p0)=over ns p0:=fun j=>ov_fit hf hp j
 have hxlt:∀ j,fit (nxt ns) j p0 < ns.length:=fun j=>fit_lt hf j hp
 have agree:∀ i,i < ns.length→l.getD i 0≠0→over ns i=over ns p0→l.getD i 0=e+1:=by
   intro i hi hk ho;rcases hend with ⟨he,h0,hor⟩ | hkn
   · exfalso;obtain ⟨a,b,hab⟩:=(ov_eq hf hi (hxlt k)).1 (ho.trans (onway k).symm);have hka:=ki_fit hw h hi hk a;rw [hab] at hka;rcases hor with hni | ⟨j,hj,hej⟩
     · rw [← he,fit_fix (nxt_fix hni) b] at hka;exact hka h0
     ·
       have hring:∀ b,∃ j',j' < k∧fit (nxt ns) b (fit (nxt ns) k p0)=fit (nxt ns) j' p0:=by
         intro b;have hper:fit (nxt ns) (k - j) (fit (nxt ns) j p0)=fit (nxt ns) j p0:=by
           rw [← fit_add,show k - j+j=k by omega,← he,hej]
         induction b with
         | zero=>exact ⟨j,hj,by show fit (nxt ns) k p0=_;rw [← he,hej]⟩
         | succ b ihb=>
           obtain ⟨j',hj',hb⟩:=ihb;rw [fit_succ,hb,← fit_succ (nxt ns)];by_cases hlast:j'+1 < k
           · exact ⟨j'+1,hlast,rfl⟩
           · have:j'+1=k:=by omega
             rw [this];exact ⟨j,hj,by rw [← he,hej]⟩
       obtain ⟨j',hj',hb⟩:=hring b;rw [hb] at hka;exact hka (hun j' hj').2
   · rw [← hkn];exact h.one _ _ hi (hxlt k) hk (by rw [hkn];omega) (ho.trans (onway k).symm)
 have keep:∀ i,i < ns.length→l.getD i 0≠0→l'.getD i 0=l.getD i 0:=by
   intro i hi hk;rw [hl' i hi]
   split
   · rename_i hex;obtain ⟨j,_,rfl⟩:=hex;exact (agree _ hi hk (onway j)).symm
   · rfl
 have elt:e < ns.length∧over ns e=over ns p0∧l'.getD e 0=e+1∧(ind ns e=true→ind ns (over ns p0)=true):=by
   rcases hend with ⟨he,h0,hor⟩ | hkn
   · refine ⟨by rw [he];exact hxlt k,by rw [he];exact onway k,?_,?_⟩
     · rw [hl' e (by rw [he];exact hxlt k),if_pos ⟨k,Nat.le_refl _,he⟩]
     · intro hi;rcases hor with hni | ⟨j,hj,hej⟩
       · rw [hni] at hi;cases hi
       ·
         obtain ⟨q,_,hq⟩:=ov_mem (nxt ns) ns.length p0;have hallind:∀ m,ind ns (fit (nxt ns) m p0)=true:=by
           intro m;have:∃ j',j' < k∧fit (nxt ns) m p0=fit (nxt ns) j' p0:=by
             induction m with
             | zero=>exact ⟨0,by omega,rfl⟩
             | succ m ihm=>
               obtain ⟨j',hj',hm⟩:=ihm;rw [fit_succ,hm,← fit_succ (nxt ns)];by_cases hlast:j'+1 < k
               · exact ⟨j'+1,hlast,rfl⟩
               · have:j'+1=k:=by omega
                 rw [this];exact ⟨j,hj,by rw [← he,hej]⟩
           obtain ⟨j',hj',hm⟩:=this;rw [hm];exact (hun j' hj').1
         show ind ns (ov (nxt ns) ns.length p0)=true;rw [hq];exact hallind _
   · obtain ⟨e',h1,h2,h3,h4,h5⟩:=h.rep _ (hxlt k) (by rw [hkn];omega);have:e'=e:=by omega
     subst this;refine ⟨h2,h3.trans (onway k),by rw [keep _ h2 (by rw [h4];omega)];exact h4,?_⟩;intro hi;have:=h5 hi
     rwa [onway k] at this
 refine ⟨⟨hl,?_,?_,?_⟩,?_,keep⟩
 · intro i hi hk;rw [hl' i hi] at hk;by_cases hex:∃ j,j≤k∧i=fit (nxt ns) j p0
   · obtain ⟨j,hj,rfl⟩:=hex;refine ⟨e,by rw [hl' _ hi,if_pos ⟨j,hj,rfl⟩],elt.1,elt.2.1.trans (onway j).symm,elt.2.2.1,fun hh=>by rw [onway j];exact elt.2.2.2 hh⟩
   · rw [if_neg hex] at hk;obtain ⟨e',h1,h2,h3,h4,h5⟩:=h.rep i hi hk;exact ⟨e',by rw [hl' i hi,if_neg hex,h1],h2,h3,by rw [keep e' h2 (by rw [h4];omega),h4],h5⟩
 · intro i hi hk;rw [hl' i hi] at hk;rw [hl' _ (hf i hi)];by_cases hex2:∃ j,j≤k∧nxt ns i=fit (nxt ns) j p0
   · rw [if_pos hex2];omega
   · rw [if_neg hex2];by_cases hex:∃ j,j≤k∧i=fit (nxt ns) j p0
     · obtain ⟨j,hj,rfl⟩:=hex;by_cases hjk:j < k
       · exact absurd ⟨j+1,by omega,by rw [fit_succ]⟩ hex2
       · have:j=k:=by omega
         subst this;rcases hend with ⟨he,h0,hor⟩ | hkn
         · rcases hor with hni | ⟨j',hj',hej⟩
           · exact absurd ⟨j,Nat.le_refl _,by rw [← he];exact nxt_fix hni⟩ hex2
           · exact absurd ⟨j'+1,by omega,by rw [← he,hej,fit_succ]⟩ hex2
         · exact h.shut _ hi (by rw [hkn];omega)
     · rw [if_neg hex] at hk;exact h.shut i hi hk
 · intro i j hi hj hki hkj ho;have val:∀ i,i < ns.length→l'.getD i 0≠0→over ns i=over ns p0→l'.getD i 0=e+1:=by
     intro i hi hk ho;rw [hl' i hi] at hk ⊢
     split
     · rfl
     · rename_i hex;rw [if_neg hex] at hk;exact agree i hi hk ho
   by_cases hpo:over ns i=over ns p0
   · rw [val i hi hki hpo,val j hj hkj (ho ▸ hpo)]
   · have hni:∀ i,over ns i≠over ns p0→¬ ∃ j,j≤k∧i=fit (nxt ns) j p0:=by
       rintro i hne ⟨j,_,rfl⟩;exact hne (onway j)
     rw [hl' i hi,if_neg (hni i hpo)] at hki ⊢;rw [hl' j hj,if_neg (hni j (ho ▸ hpo))] at hkj ⊢;exact h.one i j hi hj hki hkj ho
 · rw [hl' p0 hp,if_pos ⟨0,by omega,rfl⟩]
end
section
open Go Go.W
def FromAt (Tc:Nat) (w:World) (cf:Value) (ns:List Nd) (F:Nat→Prop):Prop:=
 ∃ fpc ps,OwnS w Tc 3 cf (flat ps) ns.length fpc∧(∀ b,fpc=some b→F b)∧Args w ps F∧ps.map Prod.fst=ns∧∀ b,F b→b < w.heap.size
theorem FromAt.mod {Tc:Nat} {w w':World} {cf:Value} {ns:List Nd} {F S:Nat→Prop} (h:FromAt Tc w cf ns F) (hm:Mod S w w') (hd:∀ b,F b→¬ S b):FromAt Tc w' cf ns F:=by
 obtain ⟨fpc,ps,h1,h2,h3,h4,h5⟩:=h;exact ⟨fpc,ps,h1.mod hm (fun b hb=>hd b (h2 b hb)),h2,h3.mod hm hd,h4,fun b hb=>Nat.lt_of_lt_of_le (h5 b hb) hm.size⟩
theorem from_at {Tc:Nat} {w:World} {cf:Value} {ns:List Nd} {F:Nat→Prop} (h:FromAt Tc w cf ns F) (hargs:∀ nd∈ns,nd.args.length≤8) {i:Nat} (hi:i < ns.length) :
   ∃ bc cc v,cf = .slice (some ⟨bc,0,none⟩) ns.length cc∧w.cell? ⟨bc,i*3,none⟩=some (I (ndAt ns i).kind)∧w.cell? ⟨bc,i*3+1,none⟩=some (I (ndAt ns i).num) ∧
     w.cell? ⟨bc,i*3+2,none⟩=some v∧Ints w v (ndAt ns i).args∧(∀ b,vblk v=some b→F b)∧vLN w 2 (.pointer (some ⟨bc,i*3,none⟩))=some (.agg #[I (ndAt ns i).kind,I (ndAt ns i).num]):=by
 obtain ⟨fpc,ps,h1,h2,h3,h4,h5⟩:=h;have hps:ps.length=ns.length:=by rw [← h4];simp
 obtain ⟨bc,cc,spc,rfl,rfl,gc,hcc,hcap⟩:=h1.pos (by omega);have hi':i < ps.length:=by omega
 have hnd:ps[i].1=ndAt ns i:=by
   have e1:ndAt ns i=ns[i]:=by simp [ndAt,hi]
   rw [e1];simp [← h4]
 have hflat:=flat_len ps;have hle:ps[i].1.args.length≤17592186044416:=by
   have:=hargs ns[i] (List.getElem_mem hi);rw [hnd];simp only [ndAt,List.getD_eq_getElem?_getD,List.getElem?_eq_getElem hi,Option.getD_some];omega
 have hav:=h3.at hi' hle;refine ⟨bc,cc,ps[i].2,rfl,?_,?_,?_,hnd ▸ hav,?_,?_⟩
 · have:=node_cell gc hi' (k:=0) (by omega);rw [← hnd];simpa [nc] using this
 · have:=node_cell gc hi' (k:=1) (by omega);rw [← hnd];simpa [nc] using this
 · have:=node_cell gc hi' (k:=2) (by omega);simpa [nc] using this
 · intro b hb;obtain ⟨fp,k1,k2⟩:=h3 _ (List.getElem_mem hi');refine k2 b ?_;rcases k1.2 with ⟨k3,_,_⟩ | ⟨b',c',sp',k3,k4,_,_⟩
   · rw [k3] at hb;cases hb
   · rw [k3] at hb;cases hb;exact k4
 · have:=ln_of (w:=w) gc (off:=i*3) (n:=2) (by simp;omega);rw [this,List.drop_append_of_le_length (by omega),List.take_append_of_le_length (by simp;omega)];have h3:=flat_take_drop ps i hi';have:((flat ps).drop (i*3)).take 2=(nc ps[i]).take 2:=by rw [← h3,List.take_take];rfl
   rw [this,← hnd];rfl
theorem own_cut {w:World} {T sz:Nat} {a:Option Addr} {n c:Nat} {xs:List Value} {fp:Option Nat} (h:OwnS w T sz (.slice a n c) xs n fp):OwnS w T sz (.slice a 0 c) [] 0 fp:=by
 refine ⟨by simp,?_⟩;rcases h.2 with ⟨h1,h2,h3⟩ | ⟨b,c',sp',h1,h2,h3,h4,h5⟩
 · cases h1;exact .inl ⟨rfl,rfl,h3⟩
 · cases h1;exact .inr ⟨b,c,xs++sp',rfl,h2,by simpa using h3,by simpa using h4,Nat.zero_le _⟩
def PW (w:World) (bm bo:Nat) (cf to mv pa:Value) (n:Nat) (l path:List Int) (pfp:Option Nat):Prop:=
 w.heap[bm]? = some (.cells #[cf,to,.slice (some ⟨bo,0,none⟩) n n,mv,pa] 281 (0,0))∧w.heap[bo]? = some (.cells (l.map I).toArray 3 (0,0))∧OwnS w 3 1 pa (path.map I) path.length pfp∧pfp≠some bo
def PassPost (ns:List Nd) (w:World) (bm bo:Nat) (cf to mv:Value) (l:List Int) (pfp:Option Nat) (p0:Nat) (r:Value) (w':World):Prop:=
 ∃ (e:Nat) (l':List Int) (pa':Value) (path':List Int) (pfp':Option Nat),r=I e∧KI ns l'∧l'.getD p0 0=e+1∧(∀ i,i < ns.length→l.getD i 0≠0→l'.getD i 0=l.getD i 0) ∧
   PW w' bm bo cf to mv pa' ns.length l' path' pfp'∧Mod (fun b=>b=bm∨b=bo∨pfp=some b) w w'∧(∀ b,pfp'=some b→pfp=some b∨w.heap.size≤b)∧path'.length≤1048576
theorem ints_at {w:World} {b T:Nat} {l:List Int} (h:w.heap[b]? = some (.cells (l.map I).toArray T (0,0))) {i:Nat} (hi:i < l.length):w.cell? ⟨b,i,none⟩=some (I (l.getD i 0)):=by
 rw [cell_of h];simp [hi]
def onWay (ns:List Nd) (p0 k i:Nat):Prop:=∃ j,j < k∧i=fit (nxt ns) j p0
theorem getD_set (l:List Int) (i j:Nat) (v:Int) (hi:i < l.length):(l.set i v).getD j 0=if i=j then v else l.getD j 0:=by
 simp only [List.getD_eq_getElem?_getD,List.getElem?_set]
 split
 · rename_i h;subst h;simp [hi]
 · rfl
theorem map_set (l:List Int) (i:Nat) (v:Int):(l.map I).set i (I v)=(l.set i v).map I:=by simp [List.map_set]
theorem count_set (l:List Int) (i:Nat) (hi:i < l.length) (h0:l.getD i 0=0):(l.set i (-1)).count 0+1=l.count 0:=by
 have h1:l[i]=0:=by simpa [hi] using h0
 have hpos:0 < l.count 0:=List.count_pos_iff.2 (h1 ▸ List.getElem_mem hi);rw [List.count_set hi,h1];simp;omega
theorem pass_ok (ns:List Nd) (hw:WF ns) (hn:ns.length≤1048576) (w:World) (bm bo:Nat) (cf to mv pa:Value) (l path:List Int) (pfp:Option Nat) (F:Nat→Prop)
   (hfr:FromAt 277 w cf ns F) (hd:∀ b,F b→¬ (b=bm∨b=bo∨pfp=some b)) (hp:PW w bm bo cf to mv pa ns.length l path pfp) (hk:KI ns l) (p0:Nat) (hp0:p0 < ns.length) :
   CallsR Tryz.prog 243 [.pointer (some ⟨bm,0,none⟩),I p0] w (PassPost ns w bm bo cf to mv l pfp p0):=by
 have hargs:=wf_args_le hw;have hf:=wf_nxt_lt hw;have hlt:∀ j,fit (nxt ns) j p0 < ns.length:=fun j=>fit_lt hf j hp0
 obtain ⟨m1,m2,m3,m4⟩:=hp;obtain ⟨xa,xc,rfl,hxc,_⟩:=m3.val;have m3':=own_cut m3;refine fit243.calls rfl ?_;unfold ir243;have z1:(0:Int)≤0∧(0:Int)≤xc:=by omega
 have z2:(if xc=0 then xa else Option.map (fun x=>x) xa)=xa:=by cases xa<;>simp
 (try simp only [go_sem,simprocAttr,cell_of m1,z1,z2,and_self,Int.toNat_zero,Nat.sub_zero,Nat.sub_self]);refine e_st1 (off:=4) rfl rfl m1 rfl (by simp) ?_;intro w1 hb1 hm1 hs1;have hbmo:bm≠bo:=fun h=>by subst h;exact kind_ne m2 m1 (by omega)
 have n2:=hm1.at m2 (fun h=>hbmo h.symm);have n3:=m3'.mod hm1 (fun b hb hh=>own_kind m3' hb (hh ▸ m1) (by omega));(try simp only [go_sem,simprocAttr])
 refine ir_loop (fun m ρ w'=>∃ (k:Nat) (lk:List Int) (pa:Value) (pk:Option Nat),m=lk.count 0∧lk.length=ns.length∧k+lk.count 0=l.count 0 ∧
   (∀ i,i < ns.length→(onWay ns p0 k i→lk.getD i 0 = -1)∧(¬ onWay ns p0 k i→lk.getD i 0=l.getD i 0)) ∧
   (∀ j,j < k→ind ns (fit (nxt ns) j p0)=true∧l.getD (fit (nxt ns) j p0) 0=0) ∧
   PW w' bm bo cf to mv pa ns.length lk ((List.range k).map (fun j=>(fit (nxt ns) j p0:Int))) pk∧Mod (fun b=>b=bm∨b=bo∨pfp=some b) w w'∧(∀ b,pk=some b→pfp=some b∨w.heap.size≤b) ∧
   ρ=[(0,.pointer (some ⟨bm,0,none⟩)),(1,I (fit (nxt ns) k p0:Nat))]) (l.count 0)
   ⟨0,l,_,pfp,rfl,hk.len,by omega,fun i hi=>⟨fun ⟨j,hj,_⟩=>by omega,fun _=>rfl⟩,fun j hj=>by omega,⟨hb1,n2,n3,m4⟩,hm1.weak (fun b hb=>.inl hb),fun b hb=>.inl hb,rfl⟩ ?_
 rintro m ρ w2 ⟨k,lk,pk,pkf,rfl,hkl,hkc,hkv,hkn,⟨p1,p2,p3,p4⟩,hm2,hpk,rfl⟩;unfold ir243L1;have hfr2:=hfr.mod hm2 hd;obtain ⟨bc,cc,v,rfl,c0,c1,c2,cx,cb,cl⟩:=from_at hfr2 hargs (hlt k);have hx:=ints_at p2 (i:=fit (nxt ns) k p0) (by rw [hkl];exact hlt k);have b1:(0:Int)≤(fit (nxt ns) k p0:Nat)∧((fit (nxt ns) k p0:Nat):Int) < ns.length:=by have:=hlt k;omega
 have hkx:lk.getD (fit (nxt ns) k p0) 0=0∨lk.getD (fit (nxt ns) k p0) 0≠0:=by omega
 (try simp only [go_sem,simprocAttr,zb4,zb6,cell_of p1,b1,hx])
 refine wpS_cut (fun ρ w'=>w2=w'∧∃ q:Bool,(q=true→lk.getD (fit (nxt ns) k p0) 0=0∧ind ns (fit (nxt ns) k p0)=true)∧(q=false→lk.getD (fit (nxt ns) k p0) 0≠0∨ind ns (fit (nxt ns) k p0)=false) ∧
     ρ.get 0=some (.pointer (some ⟨bm,0,none⟩))∧ρ.get 1=some (I (fit (nxt ns) k p0:Nat))∧ρ.get 35=some (.bool q)) ?_ ?_
 · refine wpS_gr rfl (fun hz=>?_) (fun hz=>?_)
   · (try simp only [go_sem,simprocAttr,zb4,zb6,cell_of p1,b1,hz,c0]);have hz':lk.getD (fit (nxt ns) k p0) 0=0:=by simpa using hz
     exact ⟨_,fun h=>⟨hz',h⟩,fun h=>.inr h,rfl⟩
   · (try simp only [go_sem,simprocAttr,zb4,zb6,hz]);have hz':lk.getD (fit (nxt ns) k p0) 0≠0:=by simpa using hz
     exact ⟨_,fun h=>(by cases h),fun _=>.inl hz',rfl⟩
 rintro ρ _ ⟨rfl,q,hq1,hq2,r0,r1,r35⟩;(try simp only [go_sem,simprocAttr,r0,r1,r35]);refine ir_cond rfl (fun hq=>?_) (fun hq=>?_)
 · obtain ⟨hz,hi⟩:=hq1 hq;obtain ⟨q',hq',ha,hnx⟩:=wf_ind hw (hlt k) hi;(try simp only [go_sem,simprocAttr,zb4,zb6,cell_of p1,b1]);refine e_st1 (off:=fit (nxt ns) k p0) rfl rfl p2 rfl (by simp;rw [hkl];exact hlt k) ?_;intro w3 hb3 hm3 hs3;rw [map_set] at hb3;have hcount:=count_set lk (fit (nxt ns) k p0) (by rw [hkl];exact hlt k) hz;have hkn':k+1≤ns.length:=by
     have:=List.count_le_length (a:=(0:Int)) (l:=l);rw [hk.len] at this;omega
   have q1:=hm3.at p1 hbmo;have q3:=p3.mod hm3 (fun b hb hh=>p4 (hh ▸ hb));obtain ⟨ya,yc,rfl,_,_⟩:=p3.val;(try simp only [go_sem,simprocAttr,cell_of q1]);refine e_bs (by rfl) (by (try simp only [go_sem,simprocAttr]);rfl) ?_;intro w4 hb4 hm4 hs4;have q4:=q3.mod hm4 (fun _ _ h=>h);(try simp only [go_sem,simprocAttr]);refine e_ap (m:=1) (news:=[I (fit (nxt ns) k p0:Nat)]) rfl q4 rfl (fun h=>by cases h) (rd_block hb4) (by simp [Value.oneCell']) rfl (by simp;omega) (by simp;omega) ?_;intro v5 w5 fp5 ho5 hm5 hf5;(try simp only [go_sem,simprocAttr]);have q14:=hm4.at q1 (fun h=>h);have q15:=hm5.at q14 (own_ne q4 q14 (by omega));have hb5:=hm5.at (hm4.at hb3 (fun h=>h)) p4;refine e_st1 (off:=4) rfl rfl q15 (by obtain ⟨_,_,rfl,_⟩:=ho5.val;rfl) (by simp) ?_;intro w6 hb6 hm6 hs6;have hF:∀ b,F b→b < w.heap.size:=by obtain ⟨_,_,_,_,_,_,h⟩:=hfr;exact h
   have hdk:∀ b,F b→pkf≠some b:=fun b hb hh=>by
     have h1:=hF b hb;rcases hpk b hh with h2 | h2
     · exact hd b hb (.inr (.inr h2))
     · omega
   have hm26:Mod (fun b=>b=bm∨b=bo∨pkf=some b) w2 w6:=(((hm3.weak (fun b hb=>.inr (.inl hb))).step hm4 (fun _ h _=>h.elim)).step hm5 (fun b hb _=>.inr (.inr hb))).step hm6 (fun b hb _=>.inl hb)
   have hfr6:=hfr2.mod hm26 (fun b hb hh=>by
     rcases hh with hh | hh | hh
     · exact hd b hb (.inl hh)
     · exact hd b hb (.inr (.inl hh))
     · exact hdk b hb hh)
   obtain ⟨bc',cc',v',hbc,d0,d1,d2,dx,db,dl⟩:=from_at hfr6 hargs (hlt k);cases hbc;rw [ha] at dx;obtain ⟨xb,xd,rfl,_,hxx⟩:=dx;obtain ⟨ad,rfl,had⟩:=hxx 0 (by simp);have had':w6.cell? ad=some (I (q':Nat)):=by rw [add_zero'] at had;exact had
   have z3:(0:Int)≤0∧(0:Int) < ((1:Nat):Int):=by omega
   (try simp only [go_sem,simprocAttr,zb4,zb6,cell_of hb6,b1,d2,z3,had']);have hway:∀ i,onWay ns p0 (k+1) i↔onWay ns p0 k i∨i=fit (nxt ns) k p0:=by
     intro i;constructor
     · rintro ⟨j,hj,rfl⟩;rcases Nat.lt_or_ge j k with h | h
       · exact .inl ⟨j,h,rfl⟩
       · obtain rfl:j=k:=by omega
         exact .inr rfl
     · rintro (⟨j,hj,rfl⟩ | rfl)
       · exact ⟨j,by omega,rfl⟩
       · exact ⟨k,by omega,rfl⟩
   have hnotway:¬ onWay ns p0 k (fit (nxt ns) k p0):=fun h=>by
     have:=(hkv _ (hlt k)).1 h;omega
   refine ⟨_,?_,k+1,lk.set (fit (nxt ns) k p0) (-1),v5,fp5,rfl,by simp [hkl],by omega,?_,?_,⟨hb6,hm6.at hb5 (fun h=>hbmo h.symm),?_,?_⟩,?_,?_,?_⟩
   · omega
   · intro i hi';rw [getD_set _ _ _ _ (by rw [hkl];exact hlt k),hway];refine ⟨?_,?_⟩
     · rintro (h | h)
       · split
         · rfl
         · exact (hkv i hi').1 h
       · rw [if_pos h.symm]
     · intro h;rw [if_neg (fun hh=>h (.inr hh.symm))];exact (hkv i hi').2 (fun hh=>h (.inl hh))
   · intro j hj;rcases Nat.lt_or_ge j k with h | h
     · exact hkn j h
     · obtain rfl:j=k:=by omega
       exact ⟨hi,by rw [← (hkv _ (hlt j)).2 hnotway];exact hz⟩
   · have:=ho5.mod hm6 (fun b hb hh=>own_kind ho5 hb (hh ▸ q15) (by omega));rw [List.range_succ]
     simpa using this
   · intro hh;rcases hf5 bo hh with h1 | h1
     · exact p4 h1
     · have:=lt_of_heap p2;have:=hm3.size;have:=hm4.size;omega
   · refine hm2.step hm26 (fun b hb hlt'=>?_);rcases hb with h | h | h
     · exact .inl h
     · exact .inr (.inl h)
     · rcases hpk b h with h | h
       · exact .inr (.inr h)
       · omega
   · intro b hb;rcases hf5 b hb with h1 | h1
     · exact hpk b h1
     · have:=hm2.size;have:=hm3.size;have:=hm4.size;exact .inr (by omega)
   · rw [fit_succ,hnx]
 · have hz:=hq2 hq;have hxn:onWay ns p0 k (fit (nxt ns) k p0)∨¬ onWay ns p0 k (fit (nxt ns) k p0):=Classical.em _;(try simp only [go_sem,simprocAttr,zb4,zb6,cell_of p1,b1,hx])
   refine ir_then (fun ρ w'=>w2=w'∧∃ e:Nat,((e=fit (nxt ns) k p0∧l.getD e 0=0∧((ind ns e=false)∨∃ j,j < k∧e=fit (nxt ns) j p0))∨(l.getD (fit (nxt ns) k p0) 0=e+1))∧e < ns.length ∧
     ρ.get 0=some (.pointer (some ⟨bm,0,none⟩))∧ρ.get 1=some (I (fit (nxt ns) k p0:Nat))∧ρ.get 5=some (I e)) ?_ ?_
   · refine ir_cond rfl (fun hg=>?_) (fun hg=>?_)
     · have hg':lk.getD (fit (nxt ns) k p0) 0 > 0:=by simpa using hg
       have hno:¬ onWay ns p0 k (fit (nxt ns) k p0):=fun h=>by have:=(hkv _ (hlt k)).1 h;omega
       have hlk:=(hkv _ (hlt k)).2 hno;obtain ⟨e,he,hen,_⟩:=hk.rep _ (hlt k) (by omega);have hwr:IntKind.i64.wrap (lk.getD (fit (nxt ns) k p0) 0 - 1)=e:=by rw [hlk,he,wrap_in]<;>omega
       (try simp only [go_sem,simprocAttr,zb4,zb6,cell_of p1,b1,hx,hwr]);exact ⟨e,.inr he,hen,rfl⟩
     · have hg':¬ lk.getD (fit (nxt ns) k p0) 0 > 0:=by simpa using hg
       (try simp only [go_sem,simprocAttr]);refine ⟨fit (nxt ns) k p0,.inl ⟨rfl,?_,?_⟩,hlt k,rfl⟩
       · rcases hxn with h | h
         · obtain ⟨j,hj,he⟩:=h;rw [he];exact (hkn j hj).2
         · have hlk:=(hkv _ (hlt k)).2 h;rcases Classical.em (l.getD (fit (nxt ns) k p0) 0=0) with h0 | h0
           · exact h0
           · obtain ⟨e,he,_⟩:=hk.rep _ (hlt k) h0;omega
       · rcases hxn with h | h
         · exact .inr h
         · left
           rcases hz with hz | hz
           · exfalso;have hlk:=(hkv _ (hlt k)).2 h;obtain ⟨e,he,_⟩:=hk.rep _ (hlt k) (by omega);omega
           · exact hz
   rintro ρ _ ⟨rfl,e,hend,hen,r0,r1,r5⟩;have hwe:IntKind.i64.wrap ((e:Int)+1)=((e:Int)+1):=by rw [wrap_in]<;>omega
   (try simp only [go_sem,simprocAttr,zb4,zb6,r0,r1,r5,cell_of p1,b1,hwe]);refine e_st1 (off:=fit (nxt ns) k p0) rfl rfl p2 rfl (by simp;rw [hkl];exact hlt k) ?_;intro w3 hb3 hm3 hs3;rw [map_set] at hb3;have q1:=hm3.at p1 hbmo;have q3:=p3.mod hm3 (fun b hb hh=>p4 (hh ▸ hb));obtain ⟨ya,yc,rfl,_,_⟩:=p3.val;(try simp only [go_sem,simprocAttr,zb4,zb6,cell_of q1]);have hpl:((List.range k).map (fun j=>(fit (nxt ns) j p0:Int))).length=k:=by simp
   have hkn':k≤ns.length:=by
     have:=List.count_le_length (a:=(0:Int)) (l:=l);rw [hk.len] at this;omega
   refine ir_loop (fun m ρ w'=>∃ (t:Nat) (l2:List Int),m=k - t∧t≤k∧l2.length=ns.length∧(∀ i,i < ns.length→(i=fit (nxt ns) k p0∨onWay ns p0 t i→l2.getD i 0=e+1)∧(¬ (i=fit (nxt ns) k p0∨onWay ns p0 t i)→l2.getD i 0=lk.getD i 0)) ∧
     PW w' bm bo (.slice (some ⟨bc,0,none⟩) ns.length cc) to mv (.slice ya ((List.range k).map (fun j=>(fit (nxt ns) j p0:Int))).length yc) ns.length l2 ((List.range k).map (fun j=>(fit (nxt ns) j p0:Int))) pkf∧Mod (· = bo) w2 w' ∧
     ρ=[(0,.pointer (some ⟨bm,0,none⟩)),(5,I e),(90,.slice ya ((List.range k).map (fun j=>(fit (nxt ns) j p0:Int))).length yc),(91,I ((List.range k).map (fun j=>(fit (nxt ns) j p0:Int))).length),(92,I t)]) k
     ⟨0,lk.set (fit (nxt ns) k p0) (e+1),rfl,by omega,by simp [hkl],?_,⟨q1,hb3,q3,p4⟩,hm3,rfl⟩ ?_
   · intro i hi;rw [getD_set _ _ _ _ (by rw [hkl];exact hlt k)];refine ⟨?_,?_⟩
     · rintro (h | ⟨j,hj,_⟩)
       · rw [if_pos h.symm]
       · omega
     · intro h;rw [if_neg (fun hh=>h (.inl hh.symm))]
   rintro m ρ w4 ⟨t,l2,rfl,htk,hl2,hv2,⟨o1,o2,o3,o4⟩,hm4,rfl⟩;unfold ir243L2;have o1':=o1;have o3':=o3;rw [hpl] at o1 o3;rw [hpl];(try simp only [go_sem,simprocAttr]);refine ir_cond rfl (fun hc=>?_) (fun hc=>?_)
   · have hc':t < k:=by simpa using hc
     obtain ⟨⟨xb,xd,hxe,_,hxx⟩,_⟩:=o3'.ints (by rw [hpl];omega);cases hxe;obtain ⟨ad,rfl,had⟩:=hxx t (by rw [hpl];exact hc');have b2:(0:Int)≤(t:Nat)∧(t:Int) < (k:Nat):=by omega
     have b3:(0:Int)≤(fit (nxt ns) t p0:Nat)∧((fit (nxt ns) t p0:Nat):Int) < ns.length:=by have:=hlt t;omega
     have had':w4.cell? (ad.add t)=some (I (fit (nxt ns) t p0:Nat)):=by rw [had];simp
     (try simp only [go_sem,simprocAttr,zb4,zb6,b2,had',cell_of o1,b3,hwe]);refine e_st1 (off:=fit (nxt ns) t p0) rfl rfl o2 rfl (by simp;rw [hl2];exact hlt t) ?_;intro w5 hb5 hm5 hs5;rw [map_set] at hb5;have hwt:IntKind.i64.wrap ((t:Int)+1)=((t+1:Nat):Int):=by rw [wrap_in]<;>omega
     (try simp only [go_sem,simprocAttr,hwt]);refine ⟨_,?_,t+1,l2.set (fit (nxt ns) t p0) (e+1),rfl,by omega,by simp [hl2],?_,⟨hm5.at o1 hbmo,hb5,?_,o4⟩,hm4.trans hm5,rfl⟩
     · omega
     · intro i hi;rw [getD_set _ _ _ _ (by rw [hl2];exact hlt t)];have hway:onWay ns p0 (t+1) i↔onWay ns p0 t i∨i=fit (nxt ns) t p0:=by
         constructor
         · rintro ⟨j,hj,rfl⟩;rcases Nat.lt_or_ge j t with h | h
           · exact .inl ⟨j,h,rfl⟩
           · obtain rfl:j=t:=by omega
             exact .inr rfl
         · rintro (⟨j,hj,rfl⟩ | rfl)
           · exact ⟨j,by omega,rfl⟩
           · exact ⟨t,by omega,rfl⟩
       rw [hway];refine ⟨?_,?_⟩
       · intro h
         split
         · rfl
         · rename_i hne;rcases h with h | h | h
           · exact (hv2 i hi).1 (.inl h)
           · exact (hv2 i hi).1 (.inr h)
           · exact absurd h.symm hne
       · intro h;rw [if_neg (fun hh=>h (.inr (.inr hh.symm)))];exact (hv2 i hi).2 (fun hh=>h (hh.elim .inl (fun h=>.inr (.inl h))))
     · have:=o3.mod hm5 (fun b hb hh=>o4 (hh ▸ hb))
       simpa using this
   · have hc':t=k:=by simp at hc;omega
     subst hc';(try simp only [go_sem,simprocAttr])
     obtain ⟨g1,g2,g3⟩:=ki_pass hw hk (l':=l2) (e:=e) hp0 hkn hend hl2 (by
       intro i hi;obtain ⟨a1,a2⟩:=hv2 i hi
       split
       · rename_i hex;obtain ⟨j,hj,he⟩:=hex;refine a1 ?_;rcases Nat.lt_or_ge j t with h | h
         · exact .inr ⟨j,h,he⟩
         · left;rw [he];congr 1;omega
       · rename_i hex;have hno:¬ onWay ns p0 t i:=fun ⟨j,hj,he⟩=>hex ⟨j,by omega,he⟩
         rw [a2 (fun h=>by
           rcases h with h | h
           · exact hex ⟨t,Nat.le_refl _,h⟩
           · exact hno h)]
         exact (hkv i hi).2 hno)
     refine ⟨e,l2,_,_,pkf,rfl,g1,g2,g3,⟨o1',o2,o3',o4⟩,hm2.step hm4 (fun b hb _=>.inr (.inl hb)),hpk,by rw [hpl];omega⟩
end
section
open Go Go.W
def meet (ns:List Nd) (out:List Nat) (p:Nat):List Nat:=if over ns p∈out then out else out++[over ns p]
def meets (ns:List Nd) (out:List Nat) (l:List Int):List Nat:=l.foldl (fun o (p:Int)=>meet ns o p.toNat) out
def reach (ns:List Nd):Nat→Nat→List Nat→List Nat
 | 0,_,out=>out
 | f+1,i,out=>match out[i]? with
   | some x=>reach ns f (i+1) (meets ns out (ndAt ns x).args)
   | none=>out
def reached (ns:List Nd) (roots:List Int):List Nat:=reach ns (ns.length+1) 0 (meets ns [] roots)
def num (ns:List Nd) (out:List Nat) (p:Int):Int:=out.idxOf (over ns p.toNat)
def moveNd (ns:List Nd) (out:List Nat) (x:Nat):Nd:=⟨(ndAt ns x).kind,(ndAt ns x).num,(ndAt ns x).args.map (num ns out)⟩
def colNs (ns:List Nd) (roots:List Int):List Nd:=(reached ns roots).map (moveNd ns (reached ns roots))
def colRoots (ns:List Nd) (roots:List Int):List Int:=roots.map (num ns (reached ns roots))
def Met (ns:List Nd) (out:List Nat):Prop:=out.Nodup∧∀ x∈out,x < ns.length∧over ns x=x
theorem met_nil (ns:List Nd):Met ns []:=⟨List.nodup_nil,fun x h=>by cases h⟩
theorem met_len {ns:List Nd} {out:List Nat} (h:Met ns out):out.length≤ns.length:=nodup_le _ _ h.1 (fun x hx=>(h.2 x hx).1)
theorem met_meet {ns:List Nd} (hw:WF ns) {out:List Nat} (h:Met ns out) {p:Nat} (hp:p < ns.length):Met ns (meet ns out p):=by
 unfold meet
 split
 · exact h
 · rename_i hn;refine ⟨?_,?_⟩
   · rw [List.nodup_append];refine ⟨h.1,by simp,?_⟩;intro a ha b hb hab;simp at hb;exact hn (hb ▸ hab ▸ ha)
   · intro x hx;rcases List.mem_append.1 hx with hx | hx
     · exact h.2 x hx
     · simp at hx;subst hx;exact ⟨ov_lt (wf_nxt_lt hw) hp,ov_ov (wf_nxt_lt hw) hp⟩
theorem mem_meet (ns:List Nd) (out:List Nat) (p:Nat):over ns p∈meet ns out p:=by
 unfold meet;split
 · assumption
 · simp
theorem meet_pre (ns:List Nd) (out:List Nat) (p:Nat):out <+: meet ns out p:=by
 unfold meet;split
 · exact List.prefix_rfl
 · exact List.prefix_append _ _
theorem meets_pre (ns:List Nd) (l:List Int):∀ out,out <+: meets ns out l:=by
 induction l with
 | nil=>intro out;exact List.prefix_rfl
 | cons a l ih=>intro out;exact (meet_pre ns out a.toNat).trans (ih _)
theorem reach_pre (ns:List Nd):∀ f i out,out <+: reach ns f i out:=by
 intro f
 induction f with
 | zero=>intro i out;exact List.prefix_rfl
 | succ f ih=>
   intro i out;unfold reach
   split
   · exact (meets_pre ns _ _).trans (ih _ _)
   · exact List.prefix_rfl
theorem idx_pre {a b:List Nat} (h:a <+: b) {x:Nat} (hx:x∈a):b.idxOf x=a.idxOf x:=by
 obtain ⟨t,rfl⟩:=h;rw [List.idxOf_append,if_pos hx]
theorem reach_end (ns:List Nd) (f i:Nat) (out:List Nat) (h:out.length≤i):reach ns f i out=out:=by
 cases f with
 | zero=>rfl
 | succ f=>simp [reach,List.getElem?_eq_none h]
theorem reach_step (ns:List Nd) (f i:Nat) (out:List Nat) (h:i < out.length):reach ns (f+1) i out=reach ns f (i+1) (meets ns out (ndAt ns out[i]).args):=by
 simp [reach,h]
theorem met_meets {ns:List Nd} (hw:WF ns):∀ (l:List Int) {out:List Nat},Met ns out→okPl ns.length l=true→Met ns (meets ns out l):=by
 intro l
 induction l with
 | nil=>intro out h _;exact h
 | cons a l ih=>
   intro out h ho;simp only [okPl,List.all_cons,Bool.and_eq_true,decide_eq_true_eq] at ho;exact ih (met_meet hw h (by omega)) (by simpa [okPl] using ho.2)
structure MI (ns:List Nd) (l md:List Int) (out:List Nat):Prop where
 len:md.length=ns.length
 met:Met ns out
 old:∀ i,i < ns.length→md.getD i 0≠0→∃ j:Nat,md.getD i 0=j+1∧out[j]? = some (over ns i)∧l.getD i 0=i+1
 all:∀ (j x:Nat),out[j]? = some x→∃ e:Nat,e < ns.length∧md.getD e 0=j+1∧l.getD e 0=e+1
theorem mi_start (ns:List Nd) (l:List Int):MI ns l (List.replicate ns.length 0) []:=by
 have h0:∀ i,(List.replicate ns.length (0:Int)).getD i 0=0:=by intro i;simp [List.getElem?_replicate];split<;>rfl
 exact ⟨by simp,met_nil ns,fun i _ h=>absurd (h0 i) h,fun j x h=>by simp at h⟩
theorem mi_over {ns:List Nd} {l l' md:List Int} {out:List Nat} (h:MI ns l md out) (hm:∀ i,i < ns.length→l.getD i 0≠0→l'.getD i 0=l.getD i 0):MI ns l' md out:=by
 refine ⟨h.len,h.met,?_,?_⟩
 · intro i hi hk;obtain ⟨j,h1,h2,h3⟩:=h.old i hi hk;exact ⟨j,h1,h2,by rw [hm i hi (by omega)];exact h3⟩
 · intro j x hx;obtain ⟨e,h1,h2,h3⟩:=h.all j x hx;exact ⟨e,h1,h2,by rw [hm e h1 (by omega)];exact h3⟩
theorem idx_of {out:List Nat} (hn:out.Nodup) {j x:Nat} (h:out[j]? = some x):out.idxOf x=j:=by
 obtain ⟨hj,hx⟩:=List.getElem?_eq_some_iff.1 h;subst hx;exact hn.idxOf_getElem j hj
theorem mi_had {ns:List Nd} (hw:WF ns) {l md:List Int} {out:List Nat} (hk:KI ns l) (h:MI ns l md out) {p e:Nat} (hp:p < ns.length) (he:l.getD p 0=e+1) (hm:md.getD e 0≠0) :
   over ns p∈out∧meet ns out p=out∧md.getD e 0=(out.idxOf (over ns p):Nat)+1:=by
 obtain ⟨e',h1,h2,h3,h4,_⟩:=hk.rep p hp (by omega);obtain rfl:e'=e:=by omega
 obtain ⟨j,k1,k2,k3⟩:=h.old _ h2 hm;rw [h3] at k2;have hin:over ns p∈out:=List.mem_of_getElem? k2;refine ⟨hin,by simp [meet,hin],?_⟩;rw [idx_of h.met.1 k2];exact k1
theorem mi_new {ns:List Nd} (hw:WF ns) {l md:List Int} {out:List Nat} (hk:KI ns l) (h:MI ns l md out) {p e:Nat} (hp:p < ns.length) (he:l.getD p 0=e+1) (hm:md.getD e 0=0) :
   over ns p∉out∧meet ns out p=out++[over ns p]∧MI ns l (md.set e ((out.length:Int)+1)) (meet ns out p)∧e < ns.length∧over ns e=over ns p∧(ind ns e=true→ind ns (over ns p)=true):=by
 obtain ⟨e',h1,h2,h3,h4,h5⟩:=hk.rep p hp (by omega);obtain rfl:e'=e:=by omega
 have hno:over ns p∉out:=by
   intro hin;obtain ⟨j,hj⟩:=List.getElem?_of_mem hin;obtain ⟨i,k1,k2,k3⟩:=h.all j _ hj;obtain ⟨j',q1,q2,q3⟩:=h.old i k1 (by omega);have:j'=j:=by omega
   subst this;rw [hj] at q2;have hov:over ns i=over ns e':=by rw [h3];exact (Option.some.inj q2).symm
   have:=hk.one i e' k1 h2 (by omega) (by omega) hov;have:i=e':=by omega
   subst this;omega
 have hmeet:meet ns out p=out++[over ns p]:=by simp [meet,hno]
 refine ⟨hno,hmeet,⟨by simp [h.len],met_meet hw h.met hp,?_,?_⟩,h2,h3,h5⟩
 · intro i hi hi0;have hel:e' < md.length:=by rw [h.len];exact h2
   by_cases hie:e'=i
   · subst hie;refine ⟨out.length,by simp [hel],?_,h4⟩;rw [hmeet,h3];simp
   · have hg:(md.set e' ((out.length:Int)+1)).getD i 0=md.getD i 0:=by simp [List.getElem?_set,hie]
     rw [hg] at hi0 ⊢;obtain ⟨j,q1,q2,q3⟩:=h.old i hi hi0;refine ⟨j,q1,?_,q3⟩;rw [hmeet,List.getElem?_append_left (List.getElem?_eq_some_iff.1 q2).1];exact q2
 · intro j x hx;have hel:e' < md.length:=by rw [h.len];exact h2
   rw [hmeet] at hx;rcases Nat.lt_or_ge j out.length with hj | hj
   · rw [List.getElem?_append_left hj] at hx;obtain ⟨i,k1,k2,k3⟩:=h.all j x hx;have hie:e'≠i:=by rintro rfl;omega
     exact ⟨i,k1,by simp only [List.getD_eq_getElem?_getD,List.getElem?_set,if_neg hie] at k2 ⊢;exact k2,k3⟩
   · have:j=out.length:=by
       have:=(List.getElem?_eq_some_iff.1 hx).1;simp at this;omega
     subst this;exact ⟨e',h2,by simp [hel],h4⟩
theorem same_nd {ns:List Nd} (hw:WF ns) {e x:Nat} (he:e < ns.length) (ho:over ns e=x) (hi:ind ns e=true→ind ns x=true) :
   (ndAt ns e).kind=(ndAt ns x).kind∧(ndAt ns e).num=(ndAt ns x).num∧(ndAt ns e).args.map (fun a:Int=>over ns a.toNat)=(ndAt ns x).args.map (fun a:Int=>over ns a.toNat):=by
 cases hie:ind ns e with
 | false=>
   have:over ns e=e:=ov_fix (nxt_fix hie);rw [this] at ho;subst ho;exact ⟨rfl,rfl,rfl⟩
 | true=>
   have hix:=hi hie;have hx:x < ns.length:=ho ▸ ov_lt (wf_nxt_lt hw) he;have hxx:over ns x=x:=by rw [← ho];exact ov_ov (wf_nxt_lt hw) he
   obtain ⟨q,a1,a2,a3⟩:=wf_ind hw he hie;obtain ⟨q',b1,b2,b3⟩:=wf_ind hw hx hix;have k1:(ndAt ns e).kind=5:=by simpa [ind] using hie
   have k2:(ndAt ns x).kind=5:=by simpa [ind] using hix
   have m1:=(wf_at hw he).1;have m2:=(wf_at hw hx).1;simp only [Nd.may,mayB,k1,k2,decide_eq_true_eq] at m1 m2;refine ⟨by rw [k1,k2],by omega,?_⟩;rw [a2,b2];have e1:over ns q=x:=by rw [← a3];exact (ov_f (wf_nxt_lt hw) he).trans ho
   have e2:over ns q'=x:=by rw [← b3];exact (ov_f (wf_nxt_lt hw) hx).trans hxx
   simp [e1,e2]
end
section
open Go Go.W
def cpv (t:Nd×Nat):Nd×Value:=(t.1,.slice (some ⟨t.2,0,none⟩) t.1.args.length t.1.args.length)
structure ToAt (w:World) (to:Value) (ts:List (Nd×Nat)) (tfp:Option Nat):Prop where
 own:OwnS w 277 3 to (flat (ts.map cpv)) ts.length tfp
 row:∀ t∈ts,w.heap[t.2]? = some (.cells (t.1.args.map I).toArray 3 (0,0))
 nodup:(ts.map Prod.snd).Nodup
theorem ToAt.mod {w w':World} {to:Value} {ts:List (Nd×Nat)} {tfp:Option Nat} {S:Nat→Prop} (h:ToAt w to ts tfp) (hm:Mod S w w') (h1:∀ b,tfp=some b→¬ S b) (h2:∀ t∈ts,¬ S t.2):ToAt w' to ts tfp:=
 ⟨h.own.mod hm h1,fun t ht=>hm.at (h.row t ht) (h2 t ht),h.nodup⟩
structure MW (w:World) (X:Nat→Prop) (bm bo bd:Nat) (cf to pa:Value) (n:Nat) (l md path:List Int) (ts:List (Nd×Nat)) (tfp pfp:Option Nat):Prop where
 cells:w.heap[bm]? = some (.cells #[cf,to,.slice (some ⟨bo,0,none⟩) n n,.slice (some ⟨bd,0,none⟩) n n,pa] 281 (0,0))
 over:w.heap[bo]? = some (.cells (l.map I).toArray 3 (0,0))
 moved:w.heap[bd]? = some (.cells (md.map I).toArray 3 (0,0))
 path:OwnS w 3 1 pa (path.map I) path.length pfp
 to:ToAt w to ts tfp
 od:bo≠bd
 po:pfp≠some bo
 pd:pfp≠some bd
 tr:∀ t∈ts,t.2≠bo∧t.2≠bd∧pfp≠some t.2
 X1:¬ X bm∧¬ X bo∧¬ X bd
 X2:∀ b,pfp=some b→¬ X b
 X3:∀ b,tfp=some b→¬ X b
 X4:∀ t∈ts,¬ X t.2
 X5:∀ b,X b→b < w.heap.size
def MovePost (ns:List Nd) (w:World) (X:Nat→Prop) (bm bo bd:Nat) (cf:Value) (out:List Nat) (ts:List (Nd×Nat)) (p:Nat) (r:Value) (w':World):Prop:=
 ∃ (l' md' path':List Int) (to' pa':Value) (ts':List (Nd×Nat)) (tfp' pfp':Option Nat),r=I ((meet ns out p).idxOf (over ns p))∧KI ns l'∧MI ns l' md' (meet ns out p) ∧
   MW w' X bm bo bd cf to' pa' ns.length l' md' path' ts' tfp' pfp'∧Mod (fun b=>¬ X b) w w' ∧
   ((ts'=ts∧meet ns out p=out)∨∃ e b,ts'=ts++[(ndAt ns e,b)]∧meet ns out p=out++[over ns p]∧e < ns.length∧over ns e=over ns p∧(ind ns e=true→ind ns (over ns p)=true))
theorem move_ok (ns:List Nd) (hw:WF ns) (hn:ns.length≤1048576) (w:World) (X:Nat→Prop) (bm bo bd:Nat) (cf to pa:Value) (l md path:List Int) (ts:List (Nd×Nat)) (tfp pfp:Option Nat) (F:Nat→Prop) (out:List Nat)
   (hfr:FromAt 277 w cf ns F) (hFX:∀ b,F b→X b) (hm:MW w X bm bo bd cf to pa ns.length l md path ts tfp pfp) (hk:KI ns l) (hi:MI ns l md out) (hts:ts.length=out.length) (p:Nat) (hp:p < ns.length) :
   CallsR Tryz.prog 241 [.pointer (some ⟨bm,0,none⟩),I p] w (MovePost ns w X bm bo bd cf out ts p):=by
 have hargs:=wf_args_le hw;refine fit241.calls rfl ?_;unfold ir241;(try simp only [go_sem,simprocAttr]);refine e_call (by rfl) ?_;have hbmo:bm≠bo:=fun h=>by have h1:=hm.cells;subst h;exact kind_ne hm.over h1 (by omega)
 have hbmd:bm≠bd:=fun h=>by have h1:=hm.cells;subst h;exact kind_ne hm.moved h1 (by omega)
 refine (pass_ok ns hw hn w bm bo cf to _ pa l path pfp F hfr (fun b hb hh=>?_) ⟨hm.cells,hm.over,hm.path,hm.po⟩ hk p hp).mono ?_
 · have:=hFX b hb;rcases hh with rfl | rfl | hh
   · exact hm.X1.1 this
   · exact hm.X1.2.1 this
   · exact hm.X2 b hh this
 rintro r w1 ⟨e,l1,pa1,path1,pfp1,rfl,hk1,hle,hmono,⟨p1,p2,p3,p4⟩,hm1,hpf,hpl⟩;have hi1:=mi_over hi hmono
 have hm1X:Mod (fun b=>¬ X b) w w1:=hm1.weak (fun b hb=>by
   rcases hb with rfl | rfl | hb
   · exact hm.X1.1
   · exact hm.X1.2.1
   · exact hm.X2 b hb)
 have hfr1:=hfr.mod hm1X (fun b hb h=>h (hFX b hb))
 have hmd1:=hm1.at hm.moved (fun h=>by
   rcases h with h | h | h
   · exact hbmd h.symm
   · exact hm.od h.symm
   · exact hm.pd h)
 have hto1:=hm.to.mod hm1 (fun b hb hh=>by
   have k0:=hm.to.own;rcases hh with rfl | rfl | hh
   · exact own_kind k0 hb hm.cells (by omega)
   · exact own_kind k0 hb hm.over (by omega)
   · rcases hm.path.2 with ⟨_,_,h⟩ | ⟨b',c',sp',_,h,h',_⟩
     · rw [h] at hh;cases hh
     · rw [h] at hh;cases hh;exact own_kind k0 hb h' (by omega)) (fun t ht hh=>by
   have:=hm.tr t ht;rcases hh with h | h | h
   · have k1:=hm.to.row t ht;rw [h] at k1;exact kind_ne k1 hm.cells (by omega)
   · exact this.1 h
   · exact this.2.2 h)
 have hrep:=hk1.rep p hp (by omega);obtain ⟨e',g1,g2,_⟩:=hrep;obtain rfl:e'=e:=by omega
 have hsz1:=hm1.size;have hpd1:pfp1≠some bd:=fun h=>by
   rcases hpf bd h with h | h
   · exact hm.pd h
   · have:=lt_of_heap hm.moved;omega
 have htr1:∀ t∈ts,t.2≠bo∧t.2≠bd∧pfp1≠some t.2:=fun t ht=>⟨(hm.tr t ht).1,(hm.tr t ht).2.1,fun h=>by
   rcases hpf t.2 h with h | h
   · exact (hm.tr t ht).2.2 h
   · have:=lt_of_heap (hm.to.row t ht);omega⟩
 have hX2:∀ b,pfp1=some b→¬ X b:=fun b hb hx=>by
   rcases hpf b hb with h | h
   · exact hm.X2 b h hx
   · have:=hm.X5 b hx;omega
 have hmd:=ints_at hmd1 (i:=e') (by rw [hi.len];exact g2);have b1:(0:Int)≤(e':Nat)∧((e':Nat):Int) < ns.length:=by omega
 (try simp only [go_sem,simprocAttr,zb4,zb6,cell_of p1,b1,hmd])
 refine ir_then (fun ρ w2=>∃ (md':List Int) (to':Value) (ts':List (Nd×Nat)) (tfp':Option Nat),MI ns l1 md' (meet ns out p)∧md'.getD e' 0=((meet ns out p).idxOf (over ns p):Nat)+1 ∧
    MW w2 X bm bo bd cf to' pa1 ns.length l1 md' path1 ts' tfp' pfp1∧Mod (fun b=>¬ X b) w w2∧((ts'=ts∧meet ns out p=out)∨∃ e b,ts'=ts++[(ndAt ns e,b)]∧meet ns out p=out++[over ns p]∧e < ns.length∧over ns e=over ns p∧(ind ns e=true→ind ns (over ns p)=true)) ∧
    ρ.get 0=some (.pointer (some ⟨bm,0,none⟩))∧ρ.get 1=some (I e')) ?_ ?_
 · refine ir_cond rfl (fun hc=>?_) (fun hc=>?_)
   · have hc':md.getD e' 0=0:=by simpa using hc
     obtain ⟨n1,n2,n3,n4,n5,n6⟩:=mi_new hw hk1 hi1 hp hle hc';obtain ⟨bc,cc,v,rfl,c0,c1,c2,cx,cb,cl⟩:=from_at hfr1 hargs g2;have cl':vLN w1.drew 2 (.pointer (some ⟨bc,e'*3,none⟩))=some (.agg #[I (ndAt ns e').kind,I (ndAt ns e').num]):=cl;(try simp only [go_sem,simprocAttr,zb4,zb6,cell_of p1,b1,c2,cl']);refine e_call (by rfl) ?_;obtain ⟨xa,xc,rfl,_,_⟩:=id cx;refine (copied_ok _ (ndAt ns e').args w1.drew cx).mono ?_;rintro r w3 ⟨b3,rfl,hb3,hge3,hm3⟩;have hm3:Mod (fun _=>False) w1 w3:=hm3.of_drew;have hge3:w1.heap.size≤b3:=hge3;(try simp only [go_sem,simprocAttr]);refine ⟨⟨hm3.old _ (World.block_lt_of_cell? _ _ c0) (fun h=>h),hm3.old _ (lt_of_heap p1) (fun h=>h)⟩,?_⟩;refine e_bs (by rfl) (by (try simp only [go_sem,simprocAttr]);rfl) ?_;intro w4 hb4 hm4 hs4;(try simp only [go_sem,simprocAttr]);refine ⟨hm4.old _ (Nat.lt_of_lt_of_le (lt_of_heap p1) hm3.size) (fun h=>h),?_⟩;have hm34:Mod (fun _=>False) w1 w4:=hm3.trans hm4;have t4:=hto1.mod hm34 (fun _ _ h=>h) (fun _ _ h=>h);have p14:=hm34.at p1 (fun h=>h);have hb34:=hm4.at hb3 (fun h=>h);have hmlen:=met_len hi.met;have hmlen':=met_len n3.met;rw [n2] at hmlen';simp only [List.length_append,List.length_cons,List.length_nil] at hmlen';obtain ⟨ta,tc,htoe,_,_⟩:=t4.own.val;refine e_ap (m:=1) (news:=nc (cpv (ndAt ns e',b3))) rfl t4.own rfl (fun h=>by cases h) (rd_block hb4) (by simp [nc,cpv,Value.oneCell']) rfl (by omega) (by omega) ?_;intro v5 w5 fp5 ho5 hm5 hf5;have htb:tfp≠some bm:=own_ne t4.own p14 (by omega);have p15:=hm5.at p14 htb;have htb3:tfp≠some b3:=own_ne t4.own hb34 (by omega);have hb35:=hm5.at hb34 htb3;obtain ⟨va5,vc5,rfl,_⟩:=ho5.val;(try simp only [go_sem,simprocAttr]);refine e_st1 (off:=1) rfl rfl p15 rfl (by simp) ?_;intro w6 hb6 hm6 hs6;(try simp only [go_sem,simprocAttr]);have hm16:Mod (fun b=>b=bm∨tfp=some b) w1 w6:=((hm34.weak (fun _ h=>h.elim)).step hm5 (fun b hb _=>.inr hb)).step hm6 (fun b hb _=>.inl hb);have hno:∀ b,b=bm∨tfp=some b→∀ cs fz,w1.heap[b]? = some (.cells cs 3 fz)→False:=by
       rintro b (rfl | hb) cs fz hc
       · exact kind_ne p1 hc (by omega)
       · exact own_kind hto1.own hb hc (by omega)
     have hmd6:=hm16.at hmd1 (fun h=>hno _ h _ _ hmd1);(try simp only [go_sem,simprocAttr,zb4,zb6,cell_of hb6,b1]);refine e_st1 (off:=e') rfl rfl hmd6 rfl (by simp;rw [hi.len];exact g2) ?_;intro w7 hb7 hm7 hs7;have hm7:Mod (· = bd) w6 w7:=hm7.of_drew;rw [map_set] at hb7;(try simp only [go_sem,simprocAttr]);have hm7':∀ b,b≠bd→∀ o,w6.heap[b]? = some o→w7.heap[b]? = some o:=fun b hb o ho=>hm7.at ho hb
     have hall:Mod (fun b=>¬ X b) w w7:=(hm1X.step hm16 (fun b hb _ hx=>by
       rcases hb with rfl | hb
       · exact hm.X1.1 hx
       · exact hm.X3 b hb hx)).step hm7 (fun b hb _ hx=>by rw [hb] at hx;exact hm.X1.2.2 hx)
     have hs16:=hm16.size;have hs34:=hm3.size;have hs14:=hm34.size;have hlen:(ts.length:Int)+1=(out.length:Int)+1:=by omega
     refine ⟨md.set e' ((out.length:Int)+1),.slice va5 (ts.length+1) vc5,ts++[(ndAt ns e',b3)],fp5,n3,?_,⟨?_,?_,?_,?_,⟨?_,?_,?_⟩,hm.od,p4,hpd1,?_,hm.X1,hX2,?_,?_,?_⟩,hall,.inr ⟨e',b3,rfl,n2,n4,n5,n6⟩⟩
     · rw [getD_set _ _ _ _ (by rw [hi.len];exact g2),if_pos rfl,n2,List.idxOf_append,if_neg n1];simp
     · refine hm7' bm hbmd _ ?_
       simpa using hb6
     · exact hm7' bo hm.od _ (hm16.at p2 (fun h=>hno _ h _ _ p2))
     · rw [← hlen];simpa using hb7
     · refine (p3.mod hm16 (fun b hb hh=>?_)).mod hm7 (fun b hb hh=>hpd1 (hh ▸ hb));rcases p3.2 with ⟨_,_,h⟩ | ⟨b',c',sp',_,h,h',_⟩
       · rw [h] at hb;cases hb
       · rw [h] at hb;cases hb;exact hno _ hh _ _ h'
     · have h1:=(ho5.mod hm6 (fun b hb hh=>own_kind ho5 hb (hh ▸ p15) (by omega)));have h2:=h1.mod hm7 (fun b hb hh=>own_kind h1 hb (hh ▸ hmd6) (by omega))
       simpa [flat_app,flat_one] using h2
     · intro t ht;rcases List.mem_append.1 ht with ht | ht
       · exact hm7' t.2 (hm.tr t ht).2.1 _ (hm16.at (hto1.row t ht) (fun h=>hno _ h _ _ (hto1.row t ht)))
       · simp only [List.mem_cons,List.not_mem_nil,or_false] at ht;subst ht;refine hm7' b3 ?_ _ (hm6.at hb35 (fun hh=>kind_ne hb35 (hh ▸ p15) (by omega)));have:=lt_of_heap hmd1;omega
     · rw [List.map_append,List.nodup_append];refine ⟨hto1.nodup,by simp,?_⟩;intro a ha b hb hab;obtain ⟨t,ht,rfl⟩:=List.mem_map.1 ha;have:=lt_of_heap (hto1.row t ht);simp at hb;omega
     · intro t ht;rcases List.mem_append.1 ht with ht | ht
       · exact htr1 t ht
       · simp only [List.mem_cons,List.not_mem_nil,or_false] at ht;subst ht;have:=lt_of_heap hmd1;have:=lt_of_heap p2;refine ⟨by show b3≠bo;omega,by show b3≠bd;omega,fun h=>?_⟩;have:b3 < w1.heap.size:=p3.lt h;omega
     · intro b hb hx;have:=hm.X5 b hx;rcases hf5 b hb with h | h
       · exact hm.X3 b h hx
       · omega
     · intro t ht hx;rcases List.mem_append.1 ht with ht | ht
       · exact hm.X4 t ht hx
       · simp only [List.mem_cons,List.not_mem_nil,or_false] at ht;subst ht;have:=hm.X5 _ hx;have:b3 < w.heap.size:=this;omega
     · intro b hx;have:=hm.X5 b hx;have:=hall.size;omega
   · have hc':md.getD e' 0≠0:=by simpa using hc
     obtain ⟨n1,n2,n3⟩:=mi_had hw hk1 hi1 hp hle hc';(try simp only [go_sem,simprocAttr]);refine ⟨md,to,ts,tfp,by rw [n2];exact hi1,by rw [n2];exact n3,⟨p1,p2,hmd1,p3,hto1,hm.od,p4,hpd1,htr1,hm.X1,hX2,hm.X3,hm.X4,fun b hx=>?_⟩,hm1X,.inl ⟨rfl,n2⟩⟩;have:=hm.X5 b hx;omega
 · rintro ρ w2 ⟨md',to',ts',tfp',k1,k2,k3,k4,k5,r0,r1⟩;have hmd2:=ints_at k3.moved (i:=e') (by rw [k1.len];exact g2);have hlen:=met_len k1.met;have hmem:=List.idxOf_lt_length_iff.2 (mem_meet ns out p);have hwr:IntKind.i64.wrap (md'.getD e' 0 - 1)=((meet ns out p).idxOf (over ns p):Nat):=by rw [k2,wrap_in]<;>omega
   (try simp only [go_sem,simprocAttr,zb4,zb6,r0,r1,cell_of k3.cells,b1,hmd2,hwr]);exact ⟨l1,md',path1,to',pa1,ts',tfp',pfp1,rfl,hk1,k1,k3,k4,k5⟩
end
section
open Go Go.W
structure Rel (ns:List Nd) (outF out:List Nat) (ts:List (Nd×Nat)) (i k:Nat):Prop where
 len:ts.length=out.length
 nd:∀ (j x:Nat),out[j]? = some x→∃ nd b,ts[j]? = some (nd,b)∧nd.kind=(ndAt ns x).kind∧nd.num=(ndAt ns x).num∧nd.args.length=(ndAt ns x).args.length ∧
   ∀ (t:Nat) (a a0:Int),nd.args[t]? = some a→(ndAt ns x).args[t]? = some a0→if j < i∨(j=i∧t < k) then a=num ns outF a0 else (0≤a∧a < ns.length∧over ns a.toNat=over ns a0.toNat)
theorem rel_nil (ns:List Nd) (outF:List Nat):Rel ns outF [] [] 0 0:=⟨rfl,fun j x h=>by simp at h⟩
theorem rel_app {ns:List Nd} (hw:WF ns) {outF out:List Nat} {ts:List (Nd×Nat)} {i k:Nat} (h:Rel ns outF out ts i k) (hi:i≤out.length) (hik:i=out.length→k=0) {e x b:Nat}
   (he:e < ns.length) (ho:over ns e=x) (hind:ind ns e=true→ind ns x=true):Rel ns outF (out++[x]) (ts++[(ndAt ns e,b)]) i k:=by
 refine ⟨by simp [h.len],?_⟩;intro j y hy;rcases Nat.lt_or_ge j out.length with hj | hj
 · rw [List.getElem?_append_left hj] at hy;obtain ⟨nd,b',h1,h2⟩:=h.nd j y hy;exact ⟨nd,b',by rw [List.getElem?_append_left (by rw [h.len];exact hj)];exact h1,h2⟩
 · have hjl:j=out.length:=by
     have:=(List.getElem?_eq_some_iff.1 hy).1;simp at this;omega
   subst hjl;have hyx:y=x:=by simpa using hy.symm
   subst hyx;obtain ⟨s1,s2,s3⟩:=same_nd hw he ho hind;have hl:(ndAt ns e).args.length=(ndAt ns y).args.length:=by have:=congrArg List.length s3;simpa using this
   refine ⟨ndAt ns e,b,by rw [← h.len];simp,s1,s2,hl,?_⟩;intro t a a0 ha ha0
   rw [if_neg (by
     rintro (hh | ⟨hh,hk⟩)
     · omega
     · have:=hik hh.symm;omega)]
   have hok:=(wf_at hw he).2;have hmem:a∈(ndAt ns e).args:=List.mem_of_getElem? ha;have:=(List.all_eq_true.1 hok) a hmem;simp at this;refine ⟨this.1,this.2,?_⟩;have h3:=congrArg (fun l=>l[t]?) s3;simp [ha,ha0] at h3;exact h3
theorem rel_next {ns:List Nd} {outF out:List Nat} {ts:List (Nd×Nat)} {i k x:Nat} (h:Rel ns outF out ts i k) (hx:out[i]? = some x) (hk:(ndAt ns x).args.length≤k):Rel ns outF out ts (i+1) 0:=by
 refine ⟨h.len,?_⟩;intro j y hy;obtain ⟨nd,b,h1,h2,h3,h4,h5⟩:=h.nd j y hy;refine ⟨nd,b,h1,h2,h3,h4,?_⟩;intro t a a0 ha ha0;have:=h5 t a a0 ha ha0;by_cases hji:j=i
 · subst hji;rw [hx] at hy;cases hy;have ht:t < (ndAt ns x).args.length:=(List.getElem?_eq_some_iff.1 ha0).1;rw [if_pos (.inr ⟨rfl,by omega⟩)] at this;rw [if_pos (.inl (by omega))];exact this
 · by_cases hlt:j < i
   · rw [if_pos (.inl hlt)] at this;rw [if_pos (.inl (by omega))];exact this
   · rw [if_neg (by omega)] at this;rw [if_neg (by omega)];exact this
theorem rel_set {ns:List Nd} {outF out:List Nat} {ts:List (Nd×Nat)} {i k x b:Nat} {nd:Nd} {a0:Int} (h:Rel ns outF out ts i k) (hx:out[i]? = some x) (ht:ts[i]? = some (nd,b)) (ha0:(ndAt ns x).args[k]? = some a0) :
   Rel ns outF out (ts.set i (⟨nd.kind,nd.num,nd.args.set k (num ns outF a0)⟩,b)) i (k+1):=by
 refine ⟨by simp [h.len],?_⟩;intro j y hy;obtain ⟨nd',b',h1,h2,h3,h4,h5⟩:=h.nd j y hy;by_cases hji:i=j
 · subst hji;rw [hx] at hy;cases hy;rw [ht] at h1;cases h1;have hi:i < ts.length:=(List.getElem?_eq_some_iff.1 ht).1;refine ⟨⟨nd.kind,nd.num,nd.args.set k (num ns outF a0)⟩,b,by rw [List.getElem?_set,if_pos rfl,if_pos hi],h2,h3,by simpa using h4,?_⟩;intro t a a1 ha ha1;simp only [List.getElem?_set] at ha
   split at ha
   · rename_i hkt;subst hkt;rw [if_pos (.inr ⟨rfl,by omega⟩)]
     split at ha
     · rw [ha0] at ha1;cases ha1;exact (Option.some.inj ha).symm
     · cases ha
   · rename_i hkt;have:=h5 t a a1 ha ha1;by_cases htk:t < k
     · rw [if_pos (.inr ⟨rfl,htk⟩)] at this;rw [if_pos (.inr ⟨rfl,by omega⟩)];exact this
     · rw [if_neg (by omega)] at this;rw [if_neg (by omega)];exact this
 · refine ⟨nd',b',by rw [List.getElem?_set,if_neg hji];exact h1,h2,h3,h4,?_⟩;intro t a a1 ha ha1;have:=h5 t a a1 ha ha1;by_cases hlt:j < i
   · rw [if_pos (.inl hlt)] at this;rw [if_pos (.inl hlt)];exact this
   · rw [if_neg (by omega)] at this;rw [if_neg (by omega)];exact this
theorem rel_done {ns:List Nd} {outF:List Nat} {ts:List (Nd×Nat)} {i:Nat} (h:Rel ns outF outF ts i 0) (hi:outF.length≤i):ts.map Prod.fst=outF.map (moveNd ns outF):=by
 apply List.ext_getElem?;intro j;rcases Nat.lt_or_ge j outF.length with hj | hj
 · obtain ⟨nd,b,h1,h2,h3,h4,h5⟩:=h.nd j outF[j] (by simp [hj]);simp only [List.getElem?_map,h1,Option.map_some,List.getElem?_eq_getElem hj]
   congr 1
   have:nd.args=(ndAt ns outF[j]).args.map (num ns outF):=by
     apply List.ext_getElem?;intro t;rcases Nat.lt_or_ge t nd.args.length with ht | ht
     · have e1:nd.args[t]? = some nd.args[t]:=List.getElem?_eq_getElem ht;have e2:(ndAt ns outF[j]).args[t]? = some ((ndAt ns outF[j]).args[t]'(by omega)):=List.getElem?_eq_getElem (by omega);have:=h5 t _ _ e1 e2;rw [if_pos (.inl (by omega))] at this;rw [e1,List.getElem?_map,e2,Option.map_some,this]
     · rw [List.getElem?_eq_none ht,List.getElem?_eq_none (by simp;omega)]
   obtain ⟨k1,n1,a1⟩:=nd;simp only [moveNd];simp only at h2 h3 this;rw [h2,h3,this]
 · rw [List.getElem?_eq_none (by simp [h.len];exact hj),List.getElem?_eq_none (by simpa using hj)]
theorem meets_app (ns:List Nd) (a b:List Int) (out:List Nat):meets ns out (a++b)=meets ns (meets ns out a) b:=by simp [meets]
theorem meets_take (ns:List Nd) (l:List Int) (out:List Nat) {k:Nat} {a:Int} (h:l[k]? = some a):meets ns out (l.take (k+1))=meet ns (meets ns out (l.take k)) a.toNat:=by
 obtain ⟨hk,rfl⟩:=List.getElem?_eq_some_iff.1 h;rw [List.take_succ_eq_append_getElem hk,meets_app];rfl
theorem meets_take_pre (ns:List Nd) (l:List Int) (out:List Nat) (k:Nat):meets ns out (l.take k) <+: meets ns out l:=by
 conv=>rhs;rw [← List.take_append_drop k l,meets_app]
 exact meets_pre ns _ _
theorem meet_over (ns:List Nd) (out:List Nat) {p q:Nat} (h:over ns p=over ns q):meet ns out p=meet ns out q:=by simp [meet,h]
end
section
open Go Go.W
def ColPost (Ta Tc:Nat) (a:Nat) (size times:Int) (F:Nat→Prop) (w:World) (ns:List Nd) (roots:List Int) (r:Value) (w':World):Prop:=
 (okPl ns.length roots=false→r = .tuple #[.slice none 0 0,I 202]∧Mod (fun _=>False) w w') ∧
 (okPl ns.length roots=true→∃ v fp F',r = .tuple #[v,I 0]∧OwnS w' 3 1 v ((colRoots ns roots).map I) (colRoots ns roots).length fp ∧
   ArenaAt Ta Tc w' a size (IntKind.i64.wrap (times+1)) (colNs ns roots) F'∧Grow F F' w w'∧∀ b,fp=some b→w.heap.size≤b∧¬ F' b)
theorem MW.modX {w w':World} {X S:Nat→Prop} {bm bo bd:Nat} {cf to pa:Value} {n:Nat} {l md path:List Int} {ts:List (Nd×Nat)} {tfp pfp:Option Nat} (h:MW w X bm bo bd cf to pa n l md path ts tfp pfp)
   (hm:Mod S w w') (hs:∀ b,S b→X b):MW w' X bm bo bd cf to pa n l md path ts tfp pfp:=
 ⟨hm.at h.cells (fun hh=>h.X1.1 (hs _ hh)),hm.at h.over (fun hh=>h.X1.2.1 (hs _ hh)),hm.at h.moved (fun hh=>h.X1.2.2 (hs _ hh)),h.path.mod hm (fun b hb hh=>h.X2 b hb (hs _ hh)),
   h.to.mod hm (fun b hb hh=>h.X3 b hb (hs _ hh)) (fun t ht hh=>h.X4 t ht (hs _ hh)),h.od,h.po,h.pd,h.tr,h.X1,h.X2,h.X3,h.X4,fun b hb=>Nat.lt_of_lt_of_le (h.X5 b hb) hm.size⟩
theorem fill_next (f:Int→Int) (l:List Int) (z:Value) (k:Nat) (hk:k < l.length) :
   (((l.take k).map f).map I++List.replicate (l.length - k) z).set k (I (f l[k]))=((l.take (k+1)).map f).map I++List.replicate (l.length - (k+1)) z:=by
 have h1:(((l.take k).map f).map I).length=k:=by simp;omega
 rw [List.set_append,if_neg (by omega),h1,Nat.sub_self,show l.length - k=(l.length - (k+1))+1 by omega,List.replicate_succ,List.set_cons_zero,List.take_succ_eq_append_getElem hk];simp only [List.map_append,List.map_cons,List.map_nil,List.append_assoc,List.cons_append,List.nil_append]
theorem to_at {w:World} {to:Value} {ts:List (Nd×Nat)} {tfp:Option Nat} (h:ToAt w to ts tfp) {i b:Nat} {nd:Nd} (hi:ts[i]? = some (nd,b)) :
   ∃ tb tc,to = .slice (some ⟨tb,0,none⟩) ts.length tc∧w.cell? ⟨tb,i*3+2,none⟩=some (.slice (some ⟨b,0,none⟩) nd.args.length nd.args.length)∧w.heap[b]? = some (.cells (nd.args.map I).toArray 3 (0,0)):=by
 obtain ⟨hlt,he⟩:=List.getElem?_eq_some_iff.1 hi;obtain ⟨tb,tc,sp',rfl,rfl,h3,_,_⟩:=h.own.pos (by omega);refine ⟨tb,tc,rfl,?_,?_⟩
 · have:=node_cell h3 (i:=i) (k:=2) (by simpa using hlt) (by omega);rw [this];simp [nc,cpv,he]
 · have:=h.row _ (List.getElem_mem hlt);rw [he] at this;exact this
theorem map_set_same {α β:Type} (f:α→β) (l:List α) (i:Nat) (y x:α) (hx:l[i]? = some x) (h:f y=f x):(l.set i y).map f=l.map f:=by
 apply List.ext_getElem?;intro j;simp only [List.getElem?_map,List.getElem?_set]
 split
 · rename_i hij;subst hij;rw [if_pos (List.getElem?_eq_some_iff.1 hx).1,hx];simp [h]
 · rfl
theorem MW.set {w w':World} {X:Nat→Prop} {bm bo bd:Nat} {cf to pa:Value} {n:Nat} {l md path:List Int} {ts:List (Nd×Nat)} {tfp pfp:Option Nat} (h:MW w X bm bo bd cf to pa n l md path ts tfp pfp)
   {i b:Nat} {nd:Nd} (hi:ts[i]? = some (nd,b)) {xs:List Int} (hl:xs.length=nd.args.length) (hm:Mod (· = b) w w') (hb:w'.heap[b]? = some (.cells (xs.map I).toArray 3 (0,0))) :
   MW w' X bm bo bd cf to pa n l md path (ts.set i (⟨nd.kind,nd.num,xs⟩,b)) tfp pfp:=by
 have hmem:=List.mem_of_getElem? hi;obtain ⟨hlt,he⟩:=List.getElem?_eq_some_iff.1 hi;have hrow:=h.to.row _ hmem;have htr:=h.tr _ hmem;have hsnd:(ts.set i (⟨nd.kind,nd.num,xs⟩,b)).map Prod.snd=ts.map Prod.snd:=map_set_same _ _ _ _ _ hi rfl;have hflat:flat ((ts.set i (⟨nd.kind,nd.num,xs⟩,b)).map cpv)=flat (ts.map cpv):=by
   simp only [flat,List.flatMap_map];have:(ts.set i (⟨nd.kind,nd.num,xs⟩,b)).map (fun t=>nc (cpv t))=ts.map (fun t=>nc (cpv t)):=map_set_same _ _ _ _ _ hi (by simp [nc,cpv,hl]);rw [List.flatMap_def,List.flatMap_def,this]
 have hset:∀ t,t∈ts.set i (⟨nd.kind,nd.num,xs⟩,b)→t=(⟨nd.kind,nd.num,xs⟩,b)∨(t∈ts∧t.2≠b):=by
   intro t ht;obtain ⟨j,hj⟩:=List.getElem?_of_mem ht;rw [List.getElem?_set] at hj
   split at hj
   · first
       | exact .inl (Option.some.inj hj).symm
       | (split at hj
          · exact .inl (Option.some.inj hj).symm
          · cases hj)
   · rename_i hij;refine .inr ⟨List.mem_of_getElem? hj,fun hh=>?_⟩;obtain ⟨hjl,hje⟩:=List.getElem?_eq_some_iff.1 hj;have h1:(ts.map Prod.snd)[i]'(by simpa using hlt)=(ts.map Prod.snd)[j]'(by simpa using hjl):=by simp [he,hje,hh]
     exact hij ((List.getElem_inj h.to.nodup).1 h1)
 refine ⟨hm.at h.cells (fun hh=>by subst hh;exact kind_ne hrow h.cells (by omega)),hm.at h.over (fun hh=>htr.1 hh.symm),hm.at h.moved (fun hh=>htr.2.1 hh.symm),h.path.mod hm (fun b' hb' hh=>htr.2.2 (by rw [hb',hh])),
   ⟨?_,?_,by rw [hsnd];exact h.to.nodup⟩,h.od,h.po,h.pd,?_,h.X1,h.X2,h.X3,?_,fun b hb=>Nat.lt_of_lt_of_le (h.X5 b hb) hm.size⟩
 · rw [hflat]
   simpa using h.to.own.mod hm (fun b' hb' hh=>own_kind h.to.own hb' (hh ▸ hrow) (by omega))
 · intro t ht;rcases hset t ht with rfl | ⟨h1,h2⟩
   · exact hb
   · exact hm.at (h.to.row t h1) h2
 · intro t ht;rcases hset t ht with rfl | ⟨h1,h2⟩
   · exact htr
   · exact h.tr t h1
 · intro t ht;rcases hset t ht with rfl | ⟨h1,h2⟩
   · have:=h.X4 _ hmem;exact this
   · exact h.X4 t h1
def CI (ns:List Nd) (outF:List Nat) (w w':World) (bm bo bd bu:Nat) (cf:Value) (out:List Nat) (i k:Nat) (bi:Option Nat) (us:List Value):Prop:=
 ∃ l md path to pa ts tfp pfp,MW w' (fun b=>b < w.heap.size∨b=bu) bm bo bd cf to pa ns.length l md path ts tfp pfp∧KI ns l∧MI ns l md out∧Rel ns outF out ts i k ∧
   (∀ b,bi=some b→∃ nd,ts[i]? = some (nd,b))∧Mod (fun _=>False) w w'∧w'.heap[bu]? = some (.cells us.toArray 3 (0,0))∧w.heap.size≤bu
theorem ci_move {ns:List Nd} (hw:WF ns) (hn:ns.length≤1048576) {outF:List Nat} {w w':World} {bm bo bd bu:Nat} {cf:Value} {out:List Nat} {i k:Nat} {bi:Option Nat} {us:List Value} {F:Nat→Prop}
   (hfr:FromAt 277 w cf ns F) (h:CI ns outF w w' bm bo bd bu cf out i k bi us) (hi:i≤out.length) (hik:i=out.length→k=0) {p:Nat} (hp:p < ns.length) (hpre:meet ns out p <+: outF) :
   CallsR Tryz.prog 241 [.pointer (some ⟨bm,0,none⟩),I p] w' (fun r w2=>r=I (outF.idxOf (over ns p):Nat)∧CI ns outF w w2 bm bo bd bu cf (meet ns out p) i k bi us):=by
 obtain ⟨l,md,path,to,pa,ts,tfp,pfp,h1,h2,h3,h4,h5,h6,h7,h8⟩:=h;have hF:∀ b,F b→b < w.heap.size:=by obtain ⟨_,_,_,_,_,_,h⟩:=hfr;exact h
 refine (move_ok ns hw hn w' _ bm bo bd cf to pa l md path ts tfp pfp F out (hfr.mod h6 (fun _ _ h=>h)) (fun b hb=>.inl (hF b hb)) h1 h2 h3 h4.len p hp).mono ?_;rintro r w2 ⟨l',md',path',to',pa',ts',tfp',pfp',rfl,k1,k2,k3,k4,k5⟩;refine ⟨by rw [idx_pre hpre (mem_meet ns out p)],l',md',path',to',pa',ts',tfp',pfp',k3,k1,k2,?_,?_,h6.step k4 (fun b hb hlt=>hb (.inl hlt)),k4.at h7 (fun hh=>hh (.inr rfl)),h8⟩
 · rcases k5 with ⟨rfl,e⟩ | ⟨e,b,rfl,e1,e2,e3,e4⟩
   · rw [e];exact h4
   · rw [e1];exact rel_app hw h4 hi hik e2 e3 e4
 · intro b hb;obtain ⟨nd,hnd⟩:=h5 b hb;rcases k5 with ⟨rfl,e⟩ | ⟨e,b,rfl,e1,e2,e3,e4⟩
   · exact ⟨nd,hnd⟩
   · exact ⟨nd,by rw [List.getElem?_append_left (List.getElem?_eq_some_iff.1 hnd).1];exact hnd⟩
theorem col_ok (a:Nat) (size times:Int) (ns:List Nd) (F:Nat→Prop) (w:World) (v:Value) (roots:List Int) (h:ArenaAt 205 277 w a size times ns F) (hn:ns.length≤1048576) (hw:WF ns) (hx:Ints w v roots) :
   CallsR Tryz.prog 232 [.pointer (some ⟨a,0,none⟩),v] w (ColPost 205 277 a size times F w ns roots):=by
 have hh:=h.has;have hx0:=hx;obtain ⟨va,vc,rfl,hxl,_⟩:=hx0;refine fit232.calls rfl ?_;unfold ir232;(try simp only [go_sem,simprocAttr]);refine e_call (by rfl) ?_;refine (places_ok a ns.length _ roots w hh hx).mono ?_;rintro r _ ⟨rfl,rfl⟩;(try simp only [go_sem,simprocAttr]);refine ir_cond rfl (fun hc=>?_) (fun hc=>?_)
 · have hc':okPl ns.length roots=false:=by simpa using hc
   (try simp only [go_sem,simprocAttr]);exact ⟨fun _=>⟨rfl,Mod.refl _ _⟩,fun h=>by rw [hc'] at h;cases h⟩
 have hc':okPl ns.length roots=true:=by simpa using hc
 obtain ⟨cv,fpc,ps,g1,g2,g3,g4,g5,g6,g7⟩:=id h;have hFa:a < w.heap.size:=lt_of_heap g1;have hfr:FromAt 277 w cv ns F:=⟨fpc,ps,g3,g4,g5,g6,g7⟩;obtain ⟨ca,cc,rfl,_,_⟩:=g3.val;(try simp only [go_sem,simprocAttr,cell_of g1])
 refine wpD_cut (fun ρ w'=>∃ bo bd bm,ρ.get 0=some (.pointer (some ⟨a,0,none⟩))∧ρ.get 1=some (.slice va roots.length vc)∧ρ.get 6=some (.pointer (some ⟨bm,0,none⟩)) ∧
   w'.heap[bm]? = some (.cells #[.slice ca ns.length cc,.slice none 0 0,.slice (some ⟨bo,0,none⟩) ns.length ns.length,.slice (some ⟨bd,0,none⟩) ns.length ns.length,.slice none 0 0] 281 (0,0)) ∧
   w'.heap[bo]? = some (.cells (List.replicate ns.length (I 0)).toArray 3 (0,0))∧w'.heap[bd]? = some (.cells (List.replicate ns.length (I 0)).toArray 3 (0,0))∧bo≠bd∧w.heap.size≤bo∧w.heap.size≤bd∧w.heap.size≤bm ∧
   Mod (fun _=>False) w w') ?_ ?_
 · rw [wpD_e2];refine ⟨?_,?_⟩
   · refine e_ms1 (n:=ns.length) rfl (by omega) (by omega) ?_;intro w1 hb1 hm1 hs1;have hm1:Mod (fun _=>False) w w1:=hm1.of_drew;have hs1:w1.heap.size=w.heap.size+1:=hs1;(try simp only [go_sem,simprocAttr]);have ka:=hm1.old a hFa (fun h=>h);refine ⟨by simp only [drew_heap,ka,and_self,implies_true],?_⟩;refine e_ms1 (n:=ns.length) rfl (by omega) (by omega) ?_;intro w2 hb2 hm2 hs2;have ka2:=hm2.old a (by omega) (fun h=>h);(try simp only [go_sem,simprocAttr]);refine ⟨by simp only [drew_heap,ka2,and_self,implies_true],?_⟩;refine e_bx rfl ?_;intro w3 hb3 hm3 hs3;(try simp only [go_sem,simprocAttr]);refine ⟨w.heap.size,w1.heap.size,w2.heap.size,?_⟩;have hm23:=hm2.trans hm3;refine ⟨rfl,hb3,hm23.at hb1 (fun h=>h),hm3.at hb2 (fun h=>h),?_,?_,?_,?_,(hm1.trans hm2).trans hm3⟩
     all_goals omega
   · refine e_ms1 (n:=ns.length) rfl (by omega) (by omega) ?_;intro w1 hb1 hm1 hs1;have hm1:Mod (fun _=>False) w w1:=hm1.of_drew;have hs1:w1.heap.size=w.heap.size+1:=hs1;(try simp only [go_sem,simprocAttr]);have ka:=hm1.old a hFa (fun h=>h);refine ⟨by simp only [drew_heap,ka,and_self,implies_true],?_⟩;refine e_ms1 (n:=ns.length) rfl (by omega) (by omega) ?_;intro w2 hb2 hm2 hs2;have ka2:=hm2.old a (by omega) (fun h=>h);(try simp only [go_sem,simprocAttr]);refine ⟨by simp only [drew_heap,ka2,and_self,implies_true],?_⟩;refine e_bx rfl ?_;intro w3 hb3 hm3 hs3;(try simp only [go_sem,simprocAttr]);refine ⟨w1.heap.size,w.heap.size,w2.heap.size,?_⟩;have hm23:=hm2.trans hm3;refine ⟨rfl,hb3,hm3.at hb2 (fun h=>h),hm23.at hb1 (fun h=>h),?_,?_,?_,?_,(hm1.trans hm2).trans hm3⟩
     all_goals omega
 rintro ρ w3 ⟨bo,bd,bm,r0,r1,r6,m1,m2,m3,mod,mo,md,mm,hm3⟩;(try simp only [go_sem,simprocAttr,r0,r1,r6]);refine e_ms1 (n:=roots.length) rfl (by omega) (by omega) ?_;intro w4 hb4 hm4 hs4;have hm4w:=hm3.trans hm4;have hm4w:=hm3.trans hm4;have hokr:∀ (k:Nat) (hk:k < roots.length),0≤roots[k]∧roots[k] < ns.length:=fun k hk=>by
   have:=(List.all_eq_true.1 hc') roots[k] (List.getElem_mem hk)
   simpa using this
 have hbu:w.heap.size≤w3.heap.size:=hm3.size;have hrep0:List.replicate ns.length (I 0)=(List.replicate ns.length (0:Int)).map I:=by simp
 have hne:∀ b o,w3.heap[b]? = some o→b≠w3.heap.size:=fun b o h=>by have:=lt_of_heap h;omega
 have hci0:CI ns (reached ns roots) w w4 bm bo bd w3.heap.size (.slice ca ns.length cc) [] 0 0 none (List.replicate roots.length (I 0)):=by
   refine ⟨List.replicate ns.length 0,List.replicate ns.length 0,[],.slice none 0 0,.slice none 0 0,[],none,none,?_,ki_start ns,mi_start ns _,rel_nil ns _,(fun b h=>by cases h),hm4w,hb4,hbu⟩;have n1:=hne _ _ m1;have n2:=hne _ _ m2;have n3:=hne _ _ m3;refine ⟨hm4.at m1 (fun h=>h),by rw [← hrep0];exact hm4.at m2 (fun h=>h),by rw [← hrep0];exact hm4.at m3 (fun h=>h),OwnS.nil _ _ _,⟨OwnS.nil _ _ _,(fun t h=>by cases h),List.nodup_nil⟩,mod,(fun h=>by cases h),(fun h=>by cases h),(fun t h=>by cases h),?_,(fun b h=>by cases h),(fun b h=>by cases h),(fun t h=>by cases h),?_⟩
   · omega
   · intro b hb;omega
 (try simp only [go_sem,simprocAttr])
 refine ir_loop (fun m ρ w'=>∃ k:Nat,m=roots.length - k∧k≤roots.length∧CI ns (reached ns roots) w w' bm bo bd w3.heap.size (.slice ca ns.length cc) (meets ns [] (roots.take k)) 0 0 none (((roots.take k).map (num ns (reached ns roots))).map I++List.replicate (roots.length - k) (I 0)) ∧
   ρ=[(0,.pointer (some ⟨a,0,none⟩)),(6,.pointer (some ⟨bm,0,none⟩)),(7,.slice (some ⟨w3.heap.size,0,none⟩) roots.length roots.length),(39,.slice va roots.length vc),(40,I roots.length),(41,I k)]) roots.length
   ⟨0,rfl,by omega,by simpa [meets] using hci0,rfl⟩ ?_
 rintro m ρ w5 ⟨k,rfl,hk,hci,rfl⟩;unfold ir232L1;(try simp only [go_sem,simprocAttr]);refine ir_cond rfl (fun hlt=>?_) (fun hlt=>?_)
 · have hlt':k < roots.length:=by simpa using hlt
   have hx5:Ints w5 (.slice va roots.length vc) roots:=by
     obtain ⟨_,_,_,_,_,_,_,_,_,_,_,_,_,hm,_⟩:=hci;exact hx.mod hm (fun _ _ h=>h)
   obtain ⟨_,_,hve,_,hxx⟩:=id hx5;cases hve;obtain ⟨ad,rfl,had⟩:=hxx k hlt';have b1:(0:Int)≤k∧(k:Int) < roots.length:=by omega
   have hr:=hokr k hlt';have hrn:roots[k]=((roots[k].toNat:Nat):Int):=by omega
   rw [hrn] at had;(try simp only [go_sem,simprocAttr,zb4,zb6,b1,had]);have hpre:meet ns (meets ns [] (roots.take k)) roots[k].toNat <+: reached ns roots:=by
     rw [← meets_take ns roots [] (a:=roots[k]) (by simp [hlt'])];exact (meets_take_pre ns roots [] (k+1)).trans (reach_pre ns _ _ _)
   refine e_call (by rfl) ?_;refine (ci_move hw hn hfr hci (by omega) (fun _=>rfl) (by omega) hpre).mono ?_;rintro r w6 ⟨rfl,l,md,path,to,pa,ts,tfp,pfp,q1,q2,q3,q4,q5,q6,q7,q8⟩;(try simp only [go_sem,simprocAttr,zb4,zb6,b1]);refine e_st1 (off:=k) rfl rfl q7 rfl (by simp;omega) ?_;intro w7 hb7 hm7 hs7;have hwt:IntKind.i64.wrap ((k:Int)+1)=((k+1:Nat):Int):=by rw [wrap_in]<;>omega
   (try simp only [go_sem,simprocAttr,hwt]);refine ⟨_,?_,k+1,rfl,by omega,⟨l,md,path,to,pa,ts,tfp,pfp,q1.modX hm7 (fun b hb=>.inr hb),q2,?_,?_,q5,q6.step hm7 (fun b hb hlt=>by omega),?_,q8⟩,rfl⟩
   · omega
   · rw [meets_take ns roots [] (a:=roots[k]) (by simp [hlt'])];exact q3
   · rw [meets_take ns roots [] (a:=roots[k]) (by simp [hlt'])];exact q4
   · rw [hb7]
     congr 3
     exact fill_next (num ns (reached ns roots)) roots (I 0) k hlt'
 · have hlt':k=roots.length:=by simp at hlt;omega
   subst hlt';(try simp only [go_sem,simprocAttr]);have husl:((roots.take roots.length).map (num ns (reached ns roots))).map I++List.replicate (roots.length - roots.length) (I 0)=(colRoots ns roots).map I:=by simp [colRoots]
   rw [husl,List.take_length] at hci
   refine ir_loop (fun m ρ w'=>∃ (i f:Nat) (out:List Nat),m=ns.length+1 - i∧f+i=ns.length+1∧i≤out.length∧reach ns f i out=reached ns roots ∧
     CI ns (reached ns roots) w w' bm bo bd w3.heap.size (.slice ca ns.length cc) out i 0 none ((colRoots ns roots).map I) ∧
     ρ=[(0,.pointer (some ⟨a,0,none⟩)),(6,.pointer (some ⟨bm,0,none⟩)),(7,.slice (some ⟨w3.heap.size,0,none⟩) roots.length roots.length),(10,I i)]) (ns.length+1)
     ⟨0,ns.length+1,_,rfl,rfl,Nat.zero_le _,rfl,hci,rfl⟩ ?_
   rintro m ρ w6 ⟨i,f,out,rfl,hfi,hio,hrch,hci6,rfl⟩;unfold ir232L3;obtain ⟨l,md',path,to,pa,ts,tfp,pfp,q1,q2,q3,q4,q5,q6,q7,q8⟩:=id hci6;obtain ⟨ta,tc,rfl,_,_⟩:=q1.to.own.val;have hmetl:=met_len q3.met;(try simp only [go_sem,simprocAttr,zb4,zb6,cell_of q1.cells]);refine ir_cond rfl (fun hlt=>?_) (fun hlt=>?_)
   · have hlt':i < ts.length:=by simpa using hlt
     have hilt:i < out.length:=by rw [← q4.len];exact hlt'
     have hxo:out[i]? = some out[i]:=by simp [hilt]
     obtain ⟨nd,b,t1,t2,t3,t4,t5⟩:=q4.nd i out[i] hxo;obtain ⟨tb,tc',hte,tcell,trow⟩:=to_at q1.to t1;cases hte;have b1:(0:Int)≤i∧(i:Int) < ts.length:=by omega
     (try simp only [go_sem,simprocAttr,zb4,zb6,cell_of q1.cells,b1,tcell]);have hAlen:nd.args.length=(ndAt ns out[i]).args.length:=t4;have hA8:nd.args.length≤8:=by
       rw [t4];have hx:=q3.met.2 out[i] (List.getElem_mem hilt);have hm:=(wf_at hw hx.1).1;simp only [Nd.may,mayB,decide_eq_true_eq] at hm;omega
     obtain ⟨f,rfl⟩:∃ f',f=f'+1:=⟨f - 1,by omega⟩;have hstep:=reach_step ns f i out hilt;rw [hstep] at hrch;have hpreF:meets ns out (ndAt ns out[i]).args <+: reached ns roots:=by rw [← hrch];exact reach_pre ns _ _ _
     have hx5:=out[i]
     refine ir_loop (fun m ρ w'=>∃ k:Nat,m=nd.args.length - k∧k≤nd.args.length∧CI ns (reached ns roots) w w' bm bo bd w3.heap.size (.slice ca ns.length cc) (meets ns out ((ndAt ns out[i]).args.take k)) i k (some b) ((colRoots ns roots).map I) ∧
       ρ=[(0,.pointer (some ⟨a,0,none⟩)),(6,.pointer (some ⟨bm,0,none⟩)),(7,.slice (some ⟨w3.heap.size,0,none⟩) roots.length roots.length),(10,I i),(69,.slice (some ⟨b,0,none⟩) nd.args.length nd.args.length),(70,I nd.args.length),(71,I k)]) nd.args.length
       ⟨0,rfl,Nat.zero_le _,⟨l,md',path,_,pa,ts,tfp,pfp,q1,q2,q3,q4,(fun b' hb'=>by cases hb';exact ⟨nd,t1⟩),q6,q7,q8⟩,rfl⟩ ?_
     rintro m ρ w7 ⟨k,rfl,hk,hci7,rfl⟩;have houtk:out <+: meets ns out ((ndAt ns out[i]).args.take k):=meets_pre ns _ _;have hoklen:=houtk.length_le;have hxk:(meets ns out ((ndAt ns out[i]).args.take k))[i]? = some out[i]:=by
       obtain ⟨tl,htl⟩:=houtk;rw [← htl,List.getElem?_append_left hilt];exact hxo
     unfold ir232L2;(try simp only [go_sem,simprocAttr]);refine ir_cond rfl (fun hkl=>?_) (fun hkl=>?_)
     · have hkl':k < nd.args.length:=by simpa using hkl
       obtain ⟨l2,md2,path2,to2,pa2,ts2,tfp2,pfp2,u1,u2,u3,u4,u5,u6,u7,u8⟩:=id hci7;obtain ⟨nd2,v1⟩:=u5 b rfl;obtain ⟨nd2',b2',v1',v2,v3,v4,v5⟩:=u4.nd i out[i] hxk;rw [v1] at v1';cases v1';have hkl2:k < nd2.args.length:=by omega
       have hA0:(ndAt ns out[i]).args[k]? = some ((ndAt ns out[i]).args[k]'(by omega)):=List.getElem?_eq_getElem (by omega);obtain ⟨a1,ha1⟩:∃ a1,nd2.args[k]? = some a1:=⟨_,List.getElem?_eq_getElem hkl2⟩;obtain ⟨a0,ha0⟩:∃ a0,(ndAt ns out[i]).args[k]? = some a0:=⟨_,hA0⟩;have hraw:=v5 k a1 a0 ha1 ha0;rw [if_neg (by omega)] at hraw;obtain ⟨r1',r2',r3'⟩:=hraw;obtain ⟨_,_,_,_,trow2⟩:=to_at u1.to v1;have hcell:w7.cell? ⟨b,k,none⟩=some (I ((a1.toNat:Nat):Int)):=by
         rw [cell_of trow2];have:((a1.toNat:Nat):Int)=a1:=by omega
         rw [this];simp [ha1]
       have b2:(0:Int)≤k∧(k:Int) < nd.args.length:=by omega
       (try simp only [go_sem,simprocAttr,zb4,zb6,b2,hcell]);have hmk:meet ns (meets ns out ((ndAt ns out[i]).args.take k)) a1.toNat=meets ns out ((ndAt ns out[i]).args.take (k+1)):=by
         rw [meets_take ns _ _ ha0];exact meet_over ns _ r3'
       refine e_call (by rfl) ?_;refine (ci_move hw hn hfr hci7 (by omega) (fun hh=>by omega) (by omega) (by rw [hmk];exact (meets_take_pre ns _ _ _).trans hpreF)).mono ?_;rintro r w8 ⟨rfl,hci8⟩;rw [hmk] at hci8;obtain ⟨l3,md3,path3,to3,pa3,ts3,tfp3,pfp3,x1,x2,x3,x4,x5,x6,x7,x8⟩:=hci8;obtain ⟨nd3,y1⟩:=x5 b rfl;obtain ⟨tb3,tc3,rfl,tcell3,trow3⟩:=to_at x1.to y1;have hx3k:(meets ns out ((ndAt ns out[i]).args.take (k+1)))[i]? = some out[i]:=by
         obtain ⟨tl,htl⟩:=meets_pre ns ((ndAt ns out[i]).args.take (k+1)) out;rw [← htl,List.getElem?_append_left hilt];exact hxo
       obtain ⟨nd3',b3',y1',y2,y3,y4,y5⟩:=x4.nd i out[i] hx3k;rw [y1] at y1';cases y1';have hilt3:i < ts3.length:=(List.getElem?_eq_some_iff.1 y1).1;have b3:(0:Int)≤i∧(i:Int) < ts3.length:=by omega
       have b4:(0:Int)≤k∧(k:Int) < nd3.args.length:=by omega
       (try simp only [go_sem,simprocAttr,zb4,zb6,cell_of x1.cells,b3,tcell3,b4]);refine e_st1 (off:=k) rfl rfl trow3 rfl (by simp;omega) ?_;intro w9 hb9 hm9 hs9;rw [map_set] at hb9;have hwt:IntKind.i64.wrap ((k:Int)+1)=((k+1:Nat):Int):=by rw [wrap_in]<;>omega
       (try simp only [go_sem,simprocAttr,hwt]);have hnum:((reached ns roots).idxOf (over ns a1.toNat):Int)=num ns (reached ns roots) a0:=by simp [num,r3']
       rw [hnum] at hb9;have hXb:=x1.X4 _ (List.mem_of_getElem? y1);have hXb':¬ (b < w.heap.size∨b=w3.heap.size):=hXb;refine ⟨_,?_,k+1,rfl,by omega,⟨l3,md3,path3,_,pa3,ts3.set i (⟨nd3.kind,nd3.num,nd3.args.set k (num ns (reached ns roots) a0)⟩,b),tfp3,pfp3,x1.set y1 (by simp) hm9 hb9,x2,x3,rel_set x4 hx3k y1 ha0,?_,x6.step hm9 (fun b' hb' hlt=>by omega),hm9.at x7 (fun hh=>by omega),x8⟩,rfl⟩
       · omega
       · intro b' hb';cases hb';exact ⟨_,by rw [List.getElem?_set,if_pos rfl,if_pos hilt3]⟩
     · have hkl':k=nd.args.length:=by simp at hkl;omega
       have hwi:IntKind.i64.wrap ((i:Int)+1)=((i+1:Nat):Int):=by rw [wrap_in]<;>omega
       (try simp only [go_sem,simprocAttr,hwi]);have htk:(ndAt ns out[i]).args.take k=(ndAt ns out[i]).args:=List.take_of_length_le (by omega);rw [htk] at hci7 hxk hoklen;obtain ⟨l2,md2,path2,to2,pa2,ts2,tfp2,pfp2,u1,u2,u3,u4,u5,u6,u7,u8⟩:=hci7;refine ⟨_,?_,i+1,f,meets ns out (ndAt ns out[i]).args,rfl,by omega,by omega,hrch,⟨l2,md2,path2,to2,pa2,ts2,tfp2,pfp2,u1,u2,u3,rel_next u4 hxk (by omega),(fun b h=>by cases h),u6,u7,u8⟩,rfl⟩;omega
   · have hlt':¬ i < ts.length:=by simpa using hlt
     have hie:out.length≤i:=by rw [← q4.len];omega
     rw [reach_end ns f i out hie] at hrch;subst hrch;have hdone:=rel_done q4 hie;have g16:=q6.at g1 (fun h=>h);(try simp only [go_sem,simprocAttr,zb4,zb6,cell_of q1.cells,cell_of g16]);refine e_st1 (off:=1) rfl rfl g16 rfl (by simp) ?_;intro w7 hb7 hm7 hs7;(try simp only [go_sem,simprocAttr,cell_of hb7]);refine e_st1 (off:=2) rfl rfl hb7 rfl (by simp) ?_;intro w8 hb8 hm8 hs8;(try simp only [go_sem,simprocAttr]);refine ⟨fun h=>(by rw [hc'] at h;cases h),fun _=>⟨_,some w3.heap.size,fun b=>b=a∨tfp=some b∨∃ t∈ts,t.2=b,rfl,?_,?_,?_,?_⟩⟩
     · have hne1:w3.heap.size≠a:=by omega
       have:=OwnS.of_block (sz:=1) (n:=roots.length) (hm8.at (hm7.at q7 hne1) hne1) (by simp [colRoots]);have hl:(colRoots ns roots).length=roots.length:=by simp [colRoots]
       rw [hl];exact this
     · have hts:ts.length=(colNs ns roots).length:=by rw [colNs,← hdone];simp
       have htne:∀ b,tfp=some b→¬ b=a:=fun b hb hh=>q1.X3 b hb (.inl (by omega))
       have hrne:∀ t∈ts,¬ t.2=a:=fun t ht hh=>q1.X4 t ht (.inl (by omega))
       have hs8:w8.heap.size=w6.heap.size:=hs8.trans hs7;have hrow:∀ t∈ts,w8.heap[t.2]? = some (.cells (t.1.args.map I).toArray 3 (0,0)):=fun t ht=>hm8.at (hm7.at (q1.to.row t ht) (hrne t ht)) (hrne t ht)
       refine ⟨.slice ta ts.length tc,tfp,ts.map cpv,by simpa using hb8,.inl rfl,?_,(fun b hb=>.inr (.inl hb)),?_,?_,?_⟩
       · rw [← hts];exact (q1.to.own.mod hm7 htne).mod hm8 htne
       · intro p hp;obtain ⟨t,ht,rfl⟩:=List.mem_map.1 hp;exact ⟨some t.2,OwnS.of_block (hrow t ht) (by simp [cpv]),fun b hb=>.inr (.inr ⟨t,ht,by cases hb;rfl⟩)⟩
       · rw [List.map_map,colNs,← hdone];rfl
       · intro b hb;rcases hb with rfl | hb | ⟨t,ht,rfl⟩
         · have:=q6.size;omega
         · have:=q1.to.own.lt hb;omega
         · exact lt_of_heap (hrow t ht)
     · refine ⟨((q6.weak (fun _ h=>h.elim)).step hm7 (fun b hb _=>hb ▸ g2)).step hm8 (fun b hb _=>hb ▸ g2),?_⟩;rintro b (rfl | hb | ⟨t,ht,rfl⟩)
       · exact .inl g2
       · have:=q1.X3 b hb;exact .inr (by omega)
       · have:=q1.X4 t ht;exact .inr (by omega)
     · intro b hb;cases hb;refine ⟨hbu,?_⟩;rintro (hh | hb | ⟨t,ht,hh⟩)
       · omega
       · exact q1.X3 _ hb (.inr rfl)
       · exact q1.X4 t ht (.inr hh)
end
section
open Go Go.W
structure RoomR where
 out:Option (List Int)
 err:Int
 ns:List Nd
 times:Int
def roomS (size times:Int) (ns:List Nd) (n:Int) (roots:List Int):RoomR:=
 if n < 0 then ⟨none,1,ns,times⟩ else if okPl ns.length roots=false then ⟨none,202,ns,times⟩ else if n≤size - ns.length then ⟨some roots,0,ns,times⟩
 else if n > size - (colNs ns roots).length then ⟨none,201,colNs ns roots,IntKind.i64.wrap (times+1)⟩ else ⟨some (colRoots ns roots),0,colNs ns roots,IntKind.i64.wrap (times+1)⟩
def RoomPost (Ta Tc:Nat) (a:Nat) (size:Int) (F:Nat→Prop) (w:World) (s:RoomR) (r:Value) (w':World):Prop:=
 ∃ F',ArenaAt Ta Tc w' a size s.times s.ns F'∧Grow F F' w w'∧(s.out=none→r = .tuple #[.slice none 0 0,I s.err]) ∧
   (∀ l,s.out=some l→∃ v fp,r = .tuple #[v,I s.err]∧OwnS w' 3 1 v (l.map I) l.length fp∧∀ b,fp=some b→w.heap.size≤b∧¬ F' b)
theorem col_len {ns:List Nd} (hw:WF ns) (roots:List Int) (ho:okPl ns.length roots=true):(colNs ns roots).length≤ns.length:=by
 have key:∀ f i out,Met ns out→Met ns (reach ns f i out):=by
   intro f
   induction f with
   | zero=>intro i out h;exact h
   | succ f ih=>
     intro i out h;unfold reach
     split
     · rename_i x hx;exact ih _ _ (met_meets hw _ h (wf_at hw (h.2 x (List.mem_of_getElem? hx)).1).2)
     · exact h
 have:=met_len (key (ns.length+1) 0 _ (met_meets hw roots (met_nil ns) ho))
 simpa [colNs,reached] using this
theorem room_ok (a:Nat) (size times:Int) (ns:List Nd) (F:Nat→Prop) (w:World) (n:Int) (v:Value) (roots:List Int) (h:ArenaAt 205 277 w a size times ns F) (hn:ns.length≤1048576) (hs0:0≤size) (hs:size≤1048576) (hw:WF ns) (hx:Ints w v roots) :
   CallsR Tryz.prog 235 [.pointer (some ⟨a,0,none⟩),I n,v] w (RoomPost 205 277 a size F w (roomS size times ns n roots)):=by
 have hx0:=hx;obtain ⟨va,vc,rfl,hxl,_⟩:=hx0;have same:∀ w',Mod (fun _=>False) w w'→∃ F',ArenaAt 205 277 w' a size times ns F'∧Grow F F' w w':=fun w' hm=>
   ⟨F,h.mod hm (fun _ _ h=>h),hm.weak (fun _ h=>h.elim),fun b hb=>.inl hb⟩
 refine fit235.calls rfl ?_;unfold ir235;(try simp only [go_sem,simprocAttr]);refine ir_cond rfl (fun hc=>?_) (fun hc=>?_)
 · have hc':n < 0:=by simpa using hc
   (try simp only [go_sem,simprocAttr]);have e:roomS size times ns n roots=⟨none,1,ns,times⟩:=by unfold roomS;rw [if_pos hc']
   rw [e];exact ⟨F,h,⟨Mod.refl _ _,fun b hb=>.inl hb⟩,fun _=>rfl,fun l hl=>(by cases hl)⟩
 have hc1:¬ n < 0:=by simpa using hc
 (try simp only [go_sem,simprocAttr]);refine e_call (by rfl) ?_;refine (places_ok a ns.length _ roots w h.has hx).mono ?_;rintro r _ ⟨rfl,rfl⟩;(try simp only [go_sem,simprocAttr]);refine ir_cond rfl (fun hc=>?_) (fun hc=>?_)
 · have hc':okPl ns.length roots=false:=by simpa using hc
   (try simp only [go_sem,simprocAttr]);have e:roomS size times ns n roots=⟨none,202,ns,times⟩:=by unfold roomS;rw [if_neg hc1,if_pos hc']
   rw [e];exact ⟨F,h,⟨Mod.refl _ _,fun b hb=>.inl hb⟩,fun _=>rfl,fun l hl=>(by cases hl)⟩
 have hc2:okPl ns.length roots=true:=by simpa using hc
 obtain ⟨cv,fpc,ps,g1,g2,g3,g4,g5,g6,g7⟩:=id h;obtain ⟨ca,cc,rfl,_,_⟩:=g3.val;have hw1:IntKind.i64.wrap (size - (ns.length:Int))=size - ns.length:=by rw [wrap_in]<;>omega
 (try simp only [go_sem,simprocAttr,cell_of g1,hw1]);refine ir_cond rfl (fun hc=>?_) (fun hc=>?_)
 · have hc':n≤size - ns.length:=by simpa using hc
   have e:roomS size times ns n roots=⟨some roots,0,ns,times⟩:=by unfold roomS;rw [if_neg hc1,if_neg (by simp [hc2]),if_pos hc']
   rw [e];(try simp only [go_sem,simprocAttr]);refine e_call (by rfl) ?_;refine (copied_ok _ roots w.drew hx).mono ?_;rintro r w2 ⟨b2,rfl,hb2,hge,hm2⟩;have hm2:=hm2.of_drew;have hge:w.heap.size≤b2:=hge;(try simp only [go_sem,simprocAttr]);refine ⟨F,h.mod hm2 (fun _ _ h=>h),⟨hm2.weak (fun _ h=>h.elim),fun b hb=>.inl hb⟩,fun hh=>(by cases hh),fun l hl=>?_⟩;cases hl;exact ⟨_,some b2,rfl,OwnS.of_block hb2 (by simp),fun b hb=>by cases hb;exact ⟨hge,fun hF=>by have:=g7 _ hF;omega⟩⟩
 have hc3:¬ n≤size - ns.length:=by simpa using hc
 (try simp only [go_sem,simprocAttr]);refine e_call (by rfl) ?_;refine (col_ok a size times ns F w.drew _ roots h hn hw hx).mono ?_;rintro r w2 ⟨_,k2⟩;obtain ⟨v2,fp2,F2,rfl,k3,k4,⟨k5,k6⟩,k7⟩:=k2 hc2;have k5:Mod F w w2:=k5.of_drew;have k6:∀ b,F2 b→F b∨w.heap.size≤b:=k6;have k7:∀ b,fp2=some b→w.heap.size≤b∧¬ F2 b:=k7;have hcl:=col_len hw roots hc2;obtain ⟨cv2,fpc2,ps2,j1,j2,j3,j4,j5,j6,j7⟩:=id k4;obtain ⟨ca2,cc2,rfl,_,_⟩:=j3.val;have hw2:IntKind.i64.wrap (size - ((colNs ns roots).length:Int))=size - (colNs ns roots).length:=by rw [wrap_in]<;>omega
 (try simp only [go_sem,simprocAttr,cell_of j1,hw2]);refine ir_cond rfl (fun hc=>?_) (fun hc=>?_)
 · have hc':n > size - (colNs ns roots).length:=by simpa using hc
   have e:roomS size times ns n roots=⟨none,201,colNs ns roots,IntKind.i64.wrap (times+1)⟩:=by unfold roomS;rw [if_neg hc1,if_neg (by simp [hc2]),if_neg hc3,if_pos hc']
   rw [e];(try simp only [go_sem,simprocAttr]);exact ⟨F2,k4,⟨k5.drew,k6⟩,fun _=>rfl,fun l hl=>(by cases hl)⟩
 · have hc':¬ n > size - (colNs ns roots).length:=by simpa using hc
   have e:roomS size times ns n roots=⟨some (colRoots ns roots),0,colNs ns roots,IntKind.i64.wrap (times+1)⟩:=by unfold roomS;rw [if_neg hc1,if_neg (by simp [hc2]),if_neg hc3,if_neg hc']
   rw [e];(try simp only [go_sem,simprocAttr]);refine ⟨F2,k4,⟨k5.drew,k6⟩,fun hh=>(by cases hh),fun l hl=>?_⟩;cases hl;exact ⟨v2,fp2,rfl,k3,k7⟩
end
section
open Go Go.W
theorem gmay_ok (k n:Int) (v:Value) (xs:List Int) (w:World) (hx:Ints w v xs) :
   CallsR Tryz.prog 193 [.agg #[I k,I n,v]] w fun r w'=>r = .bool (mayB k n xs.length)∧Mod (fun _=>False) w w':=by
 obtain ⟨a,c,rfl,hl,_⟩:=hx;refine fit193.calls rfl ?_;unfold ir193;(try simp only [go_sem,simprocAttr]);refine e_bx rfl ?_;intro w1 hb hm _;have hlt:=lt_of_heap hb;(try simp only [go_sem,simprocAttr,cell_of hb])
 repeat' (first | (refine ir_cond rfl (fun h=>?_) (fun h=>?_)<;>(try simp only [go_sem,simprocAttr,cell_of hb,h])) | (refine wpS_gr rfl (fun h=>?_) (fun h=>?_)<;>(try simp only [go_sem,simprocAttr,cell_of hb,h])))
 all_goals (refine ⟨?_,hm⟩;congr 1;rw [Bool.eq_iff_iff];unfold mayB;simp only [zb1,zb2,zb3,zb4,zb5] at *;omega)
theorem sz3:szOf Tryz.prog 3=some 1:=by kernel_rfl
theorem clone_ok (v:Value) (xs:List Int) (w:World) (hx:Ints w v xs) :
   CallsR Tryz.prog 39 [v] w fun r w'=>Mod (fun _=>False) w w'∧NewOwn w w' r xs:=by
 have hx':=hx;obtain ⟨a,c,rfl,hl,hxx⟩:=hx;refine fit39.calls rfl ?_;unfold ir39;cases a with
 | none=>
   have e:xs=[]:=by
     cases xs with
     | nil=>rfl
     | cons y l=>obtain ⟨ad,h,_⟩:=hxx 0 (by simp);cases h
   subst e;(try simp only [go_sem,simprocAttr,Option.isNone_none]);exact ⟨Mod.refl _ _,none,OwnS.nil _ _ _,fun b hb=>by cases hb⟩
 | some ad=>
   (try simp only [go_sem,simprocAttr,Option.isNone_some]);refine e_b0 (t:=26) (el:=3) (n:=1) Tryz.underlying26 sz3 ?_;intro w1 hb1 hm1 hs1;have ho1:OwnS w1 3 1 (.slice (some ⟨w.heap.size,0,none⟩) 0 0) [] 0 (some w.heap.size):=OwnS.of_block (xs:=[]) hb1 (by simp);obtain ⟨_,hr,hn⟩:=(hx'.mod hm1 (fun _ _ h=>h)).rd;(try simp only [go_sem,simprocAttr]);refine e_ap (m:=xs.length) (news:=xs.map I) rfl ho1 rfl (fun h=>by cases h) hr (oneI xs) rfl (by omega) (by omega) ?_;intro v2 w2 fp2 ho2 hm2 hf2;obtain ⟨va,vc,rfl,_,_⟩:=ho2.val;(try simp only [go_sem,simprocAttr]);refine ⟨hm1.step hm2 (fun x hx hlt=>by cases hx;omega),fp2,by simpa using ho2,fun b hb=>?_⟩;rcases hf2 b hb with h | h
   · cases h;omega
   · omega
theorem index_ok (v:Value) (xs:List Int) (w:World) (hx:Ints w v xs) (f:FuncId) (fn:Func) (cap:Array Value) (p:Int→Bool) (hfn:Tryz.prog.funcs[f]? = some fn) (hbody:fn.body.isSome=true) (hname:(fn.name == "runtime.NumGoroutine")=false)
   (hf:∀ x∈xs,CallsR Tryz.prog f ([I x]++cap.toList) w fun r w'=>r = .bool (p x)∧w=w') :
   CallsR Tryz.prog 102 [v,.func (.func f) #[] cap] w fun r w'=>(∃ i:Int,r=I i∧(0≤i↔xs.any p=true))∧w=w':=by
 obtain ⟨a,c,rfl,hl,hxx⟩:=hx;refine fit102.calls rfl ?_;unfold ir102;(try simp only [go_sem,simprocAttr])
 refine ir_loop (fun m ρ w'=>∃ k:Nat,m=xs.length - k∧k≤xs.length∧w=w'∧(xs.take k).any p=false ∧
   ρ=[(0,.slice a xs.length c),(1,.func (.func f) #[] cap),(7,I xs.length),(8,I k)]) xs.length ⟨0,rfl,by omega,rfl,by simp,rfl⟩ ?_
 rintro m ρ _ ⟨k,rfl,hk,rfl,hall,rfl⟩;unfold ir102L1;(try simp only [go_sem,simprocAttr]);refine ir_cond rfl (fun h=>?_) (fun h=>?_)
 · have hlt:k < xs.length:=by simpa using h
   obtain ⟨ad,rfl,hc⟩:=hxx k hlt;have c1:(0:Int)≤k∧(k:Int) < xs.length:=by omega
   (try simp only [go_sem,simprocAttr,zb4,zb6,c1,hc]);refine e_cv rfl (by rfl) hfn hbody hname ?_;refine (hf xs[k] (List.getElem_mem _)).mono ?_;rintro r _ ⟨rfl,rfl⟩;(try simp only [go_sem,simprocAttr]);refine ir_cond rfl (fun h2=>?_) (fun h2=>?_)
   · (try simp only [go_sem,simprocAttr]);refine ⟨_,rfl,fun _=>?_,fun _=>by omega⟩;exact List.any_eq_true.2 ⟨_,List.getElem_mem _,h2⟩
   · have hw:IntKind.i64.wrap ((k:Int)+1)=((k+1:Nat):Int):=by rw [wrap_in]<;>omega
     (try simp only [go_sem,simprocAttr,hw]);refine ⟨_,?_,k+1,rfl,hlt,?_,rfl⟩
     · omega
     · rw [List.take_succ_eq_append_getElem hlt,List.any_append,hall];simp [h2]
 · have hk':k=xs.length:=by simp at h;omega
   subst hk';(try simp only [go_sem,simprocAttr]);rw [List.take_length] at hall;exact ⟨_,rfl,fun h=>by omega,fun h=>by rw [hall] at h;cases h⟩
theorem contains_ok (v:Value) (xs:List Int) (w:World) (hx:Ints w v xs) (f:FuncId) (fn:Func) (cap:Array Value) (p:Int→Bool) (hfn:Tryz.prog.funcs[f]? = some fn) (hbody:fn.body.isSome=true) (hname:(fn.name == "runtime.NumGoroutine")=false)
   (hf:∀ x∈xs,CallsR Tryz.prog f ([I x]++cap.toList) w fun r w'=>r = .bool (p x)∧w=w') :
   CallsR Tryz.prog 70 [v,.func (.func f) #[] cap] w fun r w'=>r = .bool (xs.any p)∧w=w':=by
 refine fit70.calls rfl ?_;unfold ir70;(try simp only [go_sem,simprocAttr]);refine e_call (by rfl) ?_;refine (index_ok v xs w hx f fn cap p hfn hbody hname hf).mono ?_;rintro r _ ⟨⟨i,rfl,hi⟩,rfl⟩;(try simp only [go_sem,simprocAttr])
 congr 1
 rw [Bool.eq_iff_iff,decide_eq_true_eq];exact hi
end
section
open Go Go.W
def ArgsD (w:World) (ps:List (Nd×Value)) (fp:Nat→Option Nat) (F:Nat→Prop):Prop:=
 (∀ i (h:i < ps.length),OwnS w 3 1 ps[i].2 (ps[i].1.args.map I) ps[i].1.args.length (fp i)∧∀ b,fp i=some b→F b)∧∀ i j b,i < ps.length→j < ps.length→i≠j→fp i=some b→fp j≠some b
theorem argsD_args {w:World} {ps:List (Nd×Value)} {fp:Nat→Option Nat} {F:Nat→Prop} (h:ArgsD w ps fp F):Args w ps F:=by
 intro p hp;obtain ⟨i,hi,rfl⟩:=List.getElem_of_mem hp;exact ⟨fp i,h.1 i hi⟩
theorem argsD_mod {w w':World} {ps:List (Nd×Value)} {fp:Nat→Option Nat} {F S:Nat→Prop} (h:ArgsD w ps fp F) (hm:Mod S w w') (hd:∀ i b,i < ps.length→fp i=some b→¬ S b):ArgsD w' ps fp F:=
 ⟨fun i hi=>⟨(h.1 i hi).1.mod hm (fun b hb=>hd i b hi hb),(h.1 i hi).2⟩,h.2⟩
theorem argsD_weak {w:World} {ps:List (Nd×Value)} {fp:Nat→Option Nat} {F F':Nat→Prop} (h:ArgsD w ps fp F) (hf:∀ b,F b→F' b):ArgsD w ps fp F':=
 ⟨fun i hi=>⟨(h.1 i hi).1,fun b hb=>hf b ((h.1 i hi).2 b hb)⟩,h.2⟩
theorem argsD_nil (w:World) (F:Nat→Prop):ArgsD w [] (fun _=>none) F:=⟨fun i hi=>absurd hi (by simp),fun i j b hi=>absurd hi (by simp)⟩
theorem argsD_app {w:World} {ps:List (Nd×Value)} {fp:Nat→Option Nat} {F:Nat→Prop} (h:ArgsD w ps fp F) {nd:Nd} {v:Value} {f:Option Nat} (ho:OwnS w 3 1 v (nd.args.map I) nd.args.length f) (hF:∀ b,f=some b→F b) (hn:∀ i b,i < ps.length→fp i=some b→f≠some b) :
   ArgsD w (ps++[(nd,v)]) (fun i=>if i < ps.length then fp i else f) F:=by
 refine ⟨fun i hi=>?_,fun i j b hi hj hij h1 h2=>?_⟩
 · by_cases hip:i < ps.length
   · rw [List.getElem_append_left hip];simp only [if_pos hip];exact h.1 i hip
   · have e:i=ps.length:=by simp at hi;omega
     subst e;simp only [List.getElem_concat_length,Nat.lt_irrefl,if_false];exact ⟨ho,hF⟩
 · simp only [List.length_append,List.length_cons,List.length_nil] at hi hj;simp only at h1 h2;by_cases hip:i < ps.length
   · rw [if_pos hip] at h1;by_cases hjp:j < ps.length
     · rw [if_pos hjp] at h2;exact h.2 i j b hip hjp hij h1 h2
     · rw [if_neg hjp] at h2;exact hn i b hip h1 h2
   · rw [if_neg hip] at h1;by_cases hjp:j < ps.length
     · rw [if_pos hjp] at h2;exact hn j b hjp h2 h1
     · omega
theorem argsD_set {w:World} {ps:List (Nd×Value)} {fp:Nat→Option Nat} {F:Nat→Prop} (h:ArgsD w ps fp F) {k:Nat} {nd:Nd} {v:Value} {f:Option Nat} (ho:OwnS w 3 1 v (nd.args.map I) nd.args.length f) (hF:∀ b,f=some b→F b) (hn:∀ i b,i < ps.length→i≠k→fp i=some b→f≠some b) :
   ArgsD w (ps.set k (nd,v)) (fun i=>if i=k then f else fp i) F:=by
 refine ⟨fun i hi=>?_,fun i j b hi hj hij h1 h2=>?_⟩
 · have hi':i < ps.length:=by simpa using hi
   rw [List.getElem_set];by_cases hik:k=i
   · rw [if_pos hik];simp only [hik.symm,if_true];exact ⟨ho,hF⟩
   · have hik':¬ i=k:=fun hh=>hik hh.symm
     rw [if_neg hik];simp only [if_neg hik'];exact h.1 i hi'
 · have hi':i < ps.length:=by simpa using hi
   have hj':j < ps.length:=by simpa using hj
   simp only at h1 h2;by_cases hik:i=k
   · rw [if_pos hik] at h1;rw [if_neg (by omega)] at h2;exact hn j b hj' (by omega) h2 h1
   · rw [if_neg hik] at h1;by_cases hjk:j=k
     · rw [if_pos hjk] at h2;exact hn i b hi' hik h1 h2
     · rw [if_neg hjk] at h2;exact h.2 i j b hi' hj' hij h1 h2
def FromD (Tc:Nat) (w:World) (cf:Value) (ns:List Nd) (F:Nat→Prop):Prop:=
 ∃ fpc ps fp,OwnS w Tc 3 cf (flat ps) ns.length fpc∧(∀ b,fpc=some b→F b)∧ArgsD w ps fp F∧ps.map Prod.fst=ns∧∀ b,F b→b < w.heap.size
theorem fromD_from {Tc:Nat} {w:World} {cf:Value} {ns:List Nd} {F:Nat→Prop} (h:FromD Tc w cf ns F):FromAt Tc w cf ns F:=by
 obtain ⟨fpc,ps,fp,h1,h2,h3,h4,h5⟩:=h;exact ⟨fpc,ps,h1,h2,argsD_args h3,h4,h5⟩
theorem fromD_mod {Tc:Nat} {w w':World} {cf:Value} {ns:List Nd} {F S:Nat→Prop} (h:FromD Tc w cf ns F) (hm:Mod S w w') (hd:∀ b,F b→¬ S b):FromD Tc w' cf ns F:=by
 obtain ⟨fpc,ps,fp,h1,h2,h3,h4,h5⟩:=h;exact ⟨fpc,ps,fp,h1.mod hm (fun b hb=>hd b (h2 b hb)),h2,argsD_mod h3 hm (fun i b hi hb=>hd b ((h3.1 i hi).2 b hb)),h4,fun b hb=>Nat.lt_of_lt_of_le (h5 b hb) hm.size⟩
theorem fromD_val {Tc:Nat} {w:World} {cf:Value} {ns:List Nd} {F:Nat→Prop} (h:FromD Tc w cf ns F):∃ a c,cf = .slice a ns.length c:=by
 obtain ⟨fpc,ps,fp,h1,_⟩:=h;obtain ⟨a,c,e,_⟩:=h1.val;exact ⟨a,c,e⟩
def LeadOk (ns:List Nd) (old:Nat) (ld:List (Int×Int)):Prop:=
 (ld.map (fun q=>q.1)).Nodup∧∀ k:Int,k∈ld.map (fun q=>q.1)↔∃ p:Nat,k=p∧p < old∧∃ a∈(ndAt ns p).args,(old:Int)≤a
def GAt (w:World) (a:Nat) (size young:Int) (old:Nat) (times:Int) (ns:List Nd) (F:Nat→Prop):Prop:=
 ∃ cv mb ld,w.heap[a]? = some (.cells #[I size,I young,cv,I old,.map (some mb),I times] 202 (0,0))∧F a∧FromD 104 w cv ns F∧MapAt w mb ld∧F mb∧LeadOk ns old ld
theorem gat_mod {w w':World} {a:Nat} {size young:Int} {old:Nat} {times:Int} {ns:List Nd} {F S:Nat→Prop} (h:GAt w a size young old times ns F) (hm:Mod S w w') (hd:∀ b,F b→¬ S b):GAt w' a size young old times ns F:=by
 obtain ⟨cv,mb,ld,h1,h2,h3,h4,h5,h6⟩:=h;exact ⟨cv,mb,ld,hm.at h1 (hd a h2),h2,fromD_mod h3 hm hd,map_mod h4 hm (hd mb h5),h5,h6⟩
theorem gat_lt {w:World} {a:Nat} {size young:Int} {old:Nat} {times:Int} {ns:List Nd} {F:Nat→Prop} (h:GAt w a size young old times ns F):∀ b,F b→b < w.heap.size:=by
 obtain ⟨cv,mb,ld,h1,h2,⟨_,_,_,_,_,_,_,h3⟩,h4,h5,h6⟩:=h;exact h3
def GHas (w:World) (a n old:Nat):Prop:=∃ c0 c1 ba c c4 c5,w.heap[a]? = some (.cells #[c0,c1,.slice ba n c,I old,c4,c5] 202 (0,0))
theorem gat_has {w:World} {a:Nat} {size young:Int} {old:Nat} {times:Int} {ns:List Nd} {F:Nat→Prop} (h:GAt w a size young old times ns F):GHas w a ns.length old:=by
 obtain ⟨cv,mb,ld,h1,h2,h3,h4⟩:=h;obtain ⟨x,c,rfl⟩:=fromD_val h3;exact ⟨_,_,x,c,_,_,h1⟩
theorem ghas_mod {w w':World} {a n old:Nat} {S:Nat→Prop} (h:GHas w a n old) (hm:Mod S w w') (ha:¬ S a):GHas w' a n old:=by
 obtain ⟨c0,c1,ba,c,c4,c5,h1⟩:=h;exact ⟨c0,c1,ba,c,c4,c5,hm.at h1 ha⟩
theorem fn64:Tryz.f198.body.isSome=true∧(Tryz.f198.name == "runtime.NumGoroutine")=false:=⟨by kernel_rfl,by kernel_rfl⟩
theorem fn49:Tryz.f197.body.isSome=true∧(Tryz.f197.name == "runtime.NumGoroutine")=false:=⟨by kernel_rfl,by kernel_rfl⟩
theorem placesF_ok (w:World) (a n old bx:Nat) (x:Int) (h:GHas w a n old) (hb:w.heap[bx]? = some (.cells #[.pointer (some ⟨a,0,none⟩)] 169 (0,0))) :
   CallsR Tryz.prog 198 [I x,.pointer (some ⟨bx,0,none⟩)] w fun r w'=>r = .bool (decide (x < 0)||decide (x≥n))∧w=w':=by
 obtain ⟨c0,c1,ba,c,c4,c5,h1⟩:=h;refine fit198.calls rfl ?_;unfold ir198;(try simp only [go_sem,simprocAttr]);refine wpS_gr rfl (fun hg=>?_) (fun hg=>?_)
 · (try simp only [go_sem,simprocAttr,hg]);simp
 · (try simp only [go_sem,simprocAttr,hg,cell_of hb,cell_of h1]);simp
theorem setF_ok (w:World) (a n old bx:Nat) (x:Int) (h:GHas w a n old) (hb:w.heap[bx]? = some (.cells #[.pointer (some ⟨a,0,none⟩)] 169 (0,0))) :
   CallsR Tryz.prog 197 [I x,.pointer (some ⟨bx,0,none⟩)] w fun r w'=>r = .bool (decide (x≥old))∧w=w':=by
 obtain ⟨c0,c1,ba,c,c4,c5,h1⟩:=h;refine fit197.calls rfl ?_;unfold ir197;(try simp only [go_sem,simprocAttr,cell_of hb,cell_of h1])
theorem gplaces_ok (w:World) (a n old:Nat) (l:Value) (xs:List Int) (h:GHas w a n old) (hx:Ints w l xs) :
   CallsR Tryz.prog 194 [.pointer (some ⟨a,0,none⟩),l] w fun r w'=>r = .bool (okPl n xs)∧Mod (fun _=>False) w w':=by
 have hx0:=hx;obtain ⟨va,vc,rfl,_,_⟩:=hx0;refine fit194.calls rfl ?_;unfold ir194;(try simp only [go_sem,simprocAttr]);refine e_bx rfl ?_;intro w1 hb1 hm1 hs1;have hb1:w1.heap[w.heap.size]? = some (.cells #[.pointer (some ⟨a,0,none⟩)] 169 (0,0)):=hb1;have h1:=ghas_mod h hm1 (fun h=>h);(try simp only [go_sem,simprocAttr]);refine e_call (by rfl) ?_;refine (contains_ok _ xs w1 (hx.mod hm1 (fun _ _ h=>h)) 198 Tryz.f198 #[.pointer (some ⟨w.heap.size,0,none⟩)] (fun x=>decide (x < 0)||decide (x≥n)) Tryz.func198 fn64.1 fn64.2 (fun x _=>placesF_ok w1 a n old w.heap.size x h1 hb1)).mono ?_;rintro q _ ⟨rfl,rfl⟩;(try simp only [go_sem,simprocAttr]);refine ⟨?_,hm1⟩
 congr 1
 unfold okPl;rw [Bool.eq_iff_iff];simp [List.any_eq_true,List.all_eq_true]
theorem gnew_ok (size young:Int) (w:World) :
   CallsR Tryz.prog 107 [I size,I young] w fun r w'=>(1≤size∧size≤1048576∧1≤young∧young≤size→∃ a F,r = .tuple #[.pointer (some ⟨a,0,none⟩),I 0]∧GAt w' a size young 0 0 [] F∧Mod (fun _=>False) w w'∧(∀ x,F x→w.heap.size≤x)) ∧
     (¬ (1≤size∧size≤1048576∧1≤young∧young≤size)→r = .tuple #[.pointer none,I 210]∧w=w'):=by
 refine fit107.calls rfl ?_;unfold ir107;by_cases g:1≤size∧size≤1048576∧1≤young∧young≤size
 · have e1:decide (size < 1)=false:=by simp;omega
   have e2:decide (size > 1048576)=false:=by simp;omega
   have e3:decide (young < 1)=false:=by simp;omega
   have e4:decide (young > size)=false:=by simp;omega
   (try simp only [go_sem,simprocAttr,e1,e2,e3,e4]);refine e_mm ?_;intro w1 hb1 hm1 hs1;(try simp only [go_sem,simprocAttr]);refine e_bx rfl ?_;intro w2 hb2 hm2 hs2;have hb2:w2.heap[w1.heap.size]? = some (.cells #[I size,I young,.slice none 0 0,I 0,.map (some w.heap.size),I 0] 202 (0,0)):=hb2;(try simp only [go_sem,simprocAttr]);refine ⟨fun _=>⟨w1.heap.size,fun x=>x=w1.heap.size∨x=w.heap.size,rfl,⟨_,_,[],hb2,.inl rfl,⟨none,[],_,OwnS.nil _ _ _,(fun b hb=>by cases hb),argsD_nil _ _,rfl,fun b hb=>by omega⟩,map_mod hb1 hm2 (fun h=>h),.inr rfl,⟨by simp,fun k=>⟨fun h=>by simp at h,fun ⟨p,_,hp,_⟩=>absurd hp (by omega)⟩⟩⟩,hm1.trans hm2,fun x hx=>by omega⟩,fun hh=>absurd g hh⟩
 · refine (fun h=>h) ?_;by_cases a1:size < 1
   · have e1:decide (size < 1)=true:=by simp;omega
     (try simp only [go_sem,simprocAttr,e1]);exact ⟨fun hh=>absurd hh g,fun _=>trivial⟩
   have e1:decide (size < 1)=false:=by simp;omega
   by_cases a2:size > 1048576
   · have e2:decide (size > 1048576)=true:=by simp;omega
     (try simp only [go_sem,simprocAttr,e1,e2]);exact ⟨fun hh=>absurd hh g,fun _=>trivial⟩
   have e2:decide (size > 1048576)=false:=by simp;omega
   by_cases a3:young < 1
   · have e3:decide (young < 1)=true:=by simp;omega
     (try simp only [go_sem,simprocAttr,e1,e2,e3]);exact ⟨fun hh=>absurd hh g,fun _=>trivial⟩
   have e3:decide (young < 1)=false:=by simp;omega
   have e4:decide (young > size)=true:=by simp;omega
   (try simp only [go_sem,simprocAttr,e1,e2,e3,e4]);exact ⟨fun hh=>absurd hh g,fun _=>trivial⟩
theorem gused_ok (w:World) (a:Nat) (size young:Int) (old:Nat) (times:Int) (ns:List Nd) (F:Nat→Prop) (h:GAt w a size young old times ns F):CallsR Tryz.prog 192 [.pointer (some ⟨a,0,none⟩)] w fun r w'=>r=I ns.length∧w=w':=by
 obtain ⟨c0,c1,ba,c,c4,c5,h1⟩:=gat_has h;refine fit192.calls rfl ?_;unfold ir192;(try simp only [go_sem,simprocAttr,cell_of h1])
end
section
open Go Go.W
theorem own_cells {w:World} {T sz n b:Nat} {v:Value} {xs:List Value} {fp:Option Nat} (h:OwnS w T sz v xs n fp) (hb:fp=some b):∃ cs,w.heap[b]? = some (.cells cs T (0,0)):=by
 rcases h.2 with ⟨_,_,h⟩ | ⟨b',c,sp',_,h,hh,_⟩
 · rw [h] at hb;cases hb
 · rw [h] at hb;cases hb;exact ⟨_,hh⟩
theorem own_apart {w:World} {T sz n T' sz' n' b:Nat} {v v':Value} {xs xs':List Value} {fp fp':Option Nat} (h:OwnS w T sz v xs n fp) (h':OwnS w T' sz' v' xs' n' fp') (hne:T≠T') (hb:fp=some b):fp'≠some b:=by
 obtain ⟨cs,hc⟩:=own_cells h hb;exact own_ne h' hc (fun e=>hne e.symm)
def gaddS (size:Int) (ns:List Nd) (nd:Nd):Int×Int×List Nd:=
 if nd.may=false then (0,1,ns) else if okPl ns.length nd.args=false then (0,212,ns) else if (ns.length:Int)≥size then (0,211,ns) else (ns.length,0,ns++[nd])
theorem leadOk_app {ns:List Nd} {old:Nat} {ld:List (Int×Int)} (h:LeadOk ns old ld) (ho:old≤ns.length) (nd:Nd):LeadOk (ns++[nd]) old ld:=by
 refine ⟨h.1,fun k=>(h.2 k).trans ⟨fun ⟨p,h1,h2,h3⟩=>⟨p,h1,h2,?_⟩,fun ⟨p,h1,h2,h3⟩=>⟨p,h1,h2,?_⟩⟩⟩
 · simpa [ndAt,List.getElem?_append_left (show p < ns.length by omega)] using h3
 · simpa [ndAt,List.getElem?_append_left (show p < ns.length by omega)] using h3
theorem gadd_ok (w:World) (a:Nat) (size young:Int) (old:Nat) (times:Int) (ns:List Nd) (nd:Nd) (v:Value) (F:Nat→Prop) (h:GAt w a size young old times ns F) (ho:old≤ns.length) (hn:ns.length≤1048576) (hx0:Ints w v nd.args) :
   CallsR Tryz.prog 186 [.pointer (some ⟨a,0,none⟩),.agg #[I nd.kind,I nd.num,v]] w fun r w'=>r = .tuple #[I (gaddS size ns nd).1,I (gaddS size ns nd).2.1]∧∃ F',GAt w' a size young old times (gaddS size ns nd).2.2 F'∧Grow F F' w w':=by
 have hx:=hx0;obtain ⟨va,vc,rfl,hl,_⟩:=hx0;refine fit186.calls rfl ?_;unfold ir186;(try simp only [go_sem,simprocAttr]);refine e_bx rfl ?_;intro w1 hb1 hm1 hs1;have hb1:w1.heap[w.heap.size]? = some (.cells #[I nd.kind,I nd.num,.slice va nd.args.length vc] 104 (0,0)):=hb1;have h1:=gat_mod h hm1 (fun _ _ h=>h);have hx1:=hx.mod hm1 (fun _ _ h=>h);have hd:vLN w1 3 (.pointer (some ⟨w.heap.size,0,none⟩))=some (.agg #[I nd.kind,I nd.num,.slice va nd.args.length vc]):=ln_of hb1 (off:=0) (n:=3) (by simp);have same:∀ w2,Mod (fun _=>False) w1 w2→∃ F',GAt w2 a size young old times ns F'∧Grow F F' w w2:=fun w2 hm2=>
   ⟨F,gat_mod h1 hm2 (fun _ _ h=>h),(hm1.trans hm2).weak (fun _ h=>h.elim),fun b hb=>.inl hb⟩
 (try simp only [go_sem,simprocAttr,hd]);refine e_call (by rfl) ?_;refine (gmay_ok nd.kind nd.num _ nd.args w1 hx1).mono ?_;rintro r w2 ⟨rfl,hm2⟩;have hb2:=hm2.at hb1 (fun h=>h);(try simp only [go_sem,simprocAttr]);refine ir_cond rfl (fun hc=>?_) (fun hc=>?_)
 · (try simp only [go_sem,simprocAttr]);have hc':nd.may=false:=by simpa [Nd.may] using hc
   exact ⟨by simp [gaddS,hc'],by simpa [gaddS,hc'] using same w2 hm2⟩
 have hc1:nd.may=true:=by simpa [Nd.may] using hc
 have hx2:=hx1.mod hm2 (fun _ _ h=>h);have h2:=gat_mod h1 hm2 (fun _ _ h=>h);(try simp only [go_sem,simprocAttr,cell_of hb2]);refine e_call (by rfl) ?_;refine (gplaces_ok w2 a ns.length old _ nd.args (gat_has h2) hx2).mono ?_;rintro r w3 ⟨rfl,hm3⟩;have hm23:=hm2.trans hm3;(try simp only [go_sem,simprocAttr]);refine ir_cond rfl (fun hc=>?_) (fun hc=>?_)
 · (try simp only [go_sem,simprocAttr]);have hc':okPl ns.length nd.args=false:=by simpa using hc
   exact ⟨by simp [gaddS,hc',hc1],by simpa [gaddS,hc',hc1] using same w3 hm23⟩
 have hc2:okPl ns.length nd.args=true:=by simpa using hc
 have h3:=gat_mod h2 hm3 (fun _ _ h=>h);have h3':=h3;obtain ⟨cv,mb,ld,g1,g2,g3,g4,g5,g6⟩:=h3;obtain ⟨ca,cc,rfl⟩:=fromD_val g3;(try simp only [go_sem,simprocAttr,cell_of g1]);have hw3:Mod (fun _=>False) w3 w3.drew:=⟨Nat.le_refl _,fun _ _ _=>rfl,rfl,rfl,rfl⟩;refine ir_cond rfl (fun hc=>?_) (fun hc=>?_)
 · (try simp only [go_sem,simprocAttr]);have hc':(ns.length:Int)≥size:=by simpa using hc
   exact ⟨by simp [gaddS,hc',hc1,hc2],by simpa [gaddS,hc',hc1,hc2] using same w3.drew (hm23.trans hw3)⟩
 have hc3:¬ (ns.length:Int)≥size:=by simpa using hc
 have hb3:=(hm3.trans hw3).at hb2 (fun h=>h);have hx3:=hx2.mod (hm3.trans hw3) (fun _ _ h=>h);(try simp only [go_sem,simprocAttr,cell_of hb3,cell_of (hm3.at hb2 (fun h=>h))]);refine e_call (by rfl) ?_;refine (clone_ok _ nd.args w3.drew hx3).mono ?_;rintro q w4 ⟨hm4,f4,o4,n4⟩;have hm4':=hw3.trans hm4;obtain ⟨va4,vc4,rfl,_,_⟩:=o4.val;have hb4:=hm4.at hb3 (fun h=>h);(try simp only [go_sem,simprocAttr]);refine e_st1 (off:=2) rfl rfl hb4 rfl (by simp) ?_;intro w5 hb5 hm5 hs5;have hb5:w5.heap[w.heap.size]? = some (.cells #[I nd.kind,I nd.num,.slice va4 nd.args.length vc4] 104 (0,0)):=hb5;have lw:=lt_of_heap hb1;have s2:=hm2.size;have s3:=hm3.size;have s4:=hm4.size;have hFl:=gat_lt h;have hF0:∀ b,F b→¬ b=w.heap.size:=fun b hb hh=>by have:=hFl b hb;omega
 have hm35:Mod (fun x=>x=w.heap.size) w3 w5:=(hm4'.weak (fun _ h=>h.elim)).step hm5 (fun x hx _=>hx);have ga:=hm35.at g1 (hF0 a g2);have gc:=fromD_mod g3 hm35 hF0;have gm:=map_mod g4 hm35 (hF0 mb g5);have o5:=o4.mod hm5 (fun b hb hh=>by have:=n4 b hb;have:w3.drew.heap.size=w3.heap.size:=rfl;omega);have hd5:vLN w5.drew 3 (.pointer (some ⟨w.heap.size,0,none⟩))=some (.agg #[I nd.kind,I nd.num,.slice va4 nd.args.length vc4]):=ln_of (w:=w5.drew) hb5 (off:=0) (n:=3) (by simp);(try simp only [go_sem,simprocAttr,cell_of ga,hd5]);have hwd:Mod (fun _=>False) w5 w5.drew:=⟨Nat.le_refl _,fun _ _ _=>rfl,rfl,rfl,rfl⟩;refine e_bs (by rfl) (by (try simp only [go_sem,simprocAttr]);rfl) ?_;intro w6 hb6 hm6 hs6;have hm56:=hwd.trans hm6;have hm36:Mod (fun x=>x=w.heap.size) w3 w6:=hm35.step hm56 (fun _ h _=>h.elim);have ga6:=hm56.at ga (fun h=>h);(try simp only [go_sem,simprocAttr]);refine ⟨hm6.old _ (lt_of_heap ga) (fun h=>h),?_⟩;have o6:=o5.mod hm56 (fun _ _ h=>h);obtain ⟨fpc,ps,fp,c1,c2,c3,c4,c5⟩:=gc;have c16:=c1.mod hm56 (fun _ _ h=>h);have c36:=argsD_mod c3 hm56 (fun _ _ _ _ h=>h);have hps:ps.length=ns.length:=by rw [← c4];simp
 refine e_ap (m:=1) (news:=nc (nd,.slice va4 nd.args.length vc4)) rfl c16 rfl (fun h=>by cases h) (rd_block hb6) (by simp [nc,Value.oneCell']) rfl (by omega) (by omega) ?_;intro v7 w7 fp7 ho7 hm7 hf7;have hne:fpc≠some a:=own_ne c16 ga6 (by decide);have ga7:=hm7.at ga6 hne;obtain ⟨va7,vc7,rfl,_⟩:=ho7.val;have c37:=argsD_mod c36 hm7 (fun i b hi hb hh=>own_apart (c36.1 i hi).1 c16 (by decide) hb hh);have o7:=o6.mod hm7 (fun b hb hh=>own_apart o6 c16 (by decide) hb hh);(try simp only [go_sem,simprocAttr]);refine e_st1 (off:=2) rfl rfl ga7 rfl (by simp) ?_;intro w8 hb8 hm8 hs8;have hb8:w8.heap[a]? = some (.cells #[I size,I young,.slice va7 (ns.length+1) vc7,I old,.map (some mb),I times] 202 (0,0)):=hb8;have hw:IntKind.i64.wrap (((ns.length+1:Nat):Int) - 1)=ns.length:=by rw [wrap_in]<;>omega
 (try simp only [go_sem,simprocAttr,cell_of hb8,hw]);have hn7:fp7≠some a:=own_ne ho7 ga7 (by decide);have c38:=argsD_mod c37 hm8 (fun i b hi hb hh=>own_ne (c37.1 i hi).1 ga7 (by decide) (by rw [hb,hh]));have o8:=o7.mod hm8 (fun b hb hh=>own_ne o7 ga7 (by decide) (by rw [hb,hh]));have s5:w5.heap.size=w4.heap.size:=hs5;have s6:=hm56.size;have s7:=hm7.size;have s8:=hm8.size;have gm6:=map_mod gm hm56 (fun h=>h)
 have gm7:=map_mod gm6 hm7 (fun hh=>by
   obtain ⟨es,c,q2,_⟩:=gm6;obtain ⟨cs,q3⟩:=own_cells c16 hh
   rw [q2] at q3;cases q3)
 have gm8:=map_mod gm7 hm8 (fun hh=>by
   obtain ⟨es,c,q2,_⟩:=gm7
   rw [hh] at q2;rw [ga7] at q2;cases q2)
 have hall:Mod F w w8:=((((((hm1.weak (fun _ h=>h.elim)).step hm2 (fun _ h _=>h.elim)).step hm3 (fun _ h _=>h.elim)).step hm35 (fun x hx hlt=>by omega)).step hm56 (fun _ h _=>h.elim)).step hm7 (fun i h _=>c2 i h)).step hm8 (fun i h _=>h ▸ g2);have hadd:gaddS size ns nd=((ns.length:Int),0,ns++[nd]):=by
   unfold gaddS;rw [if_neg (by simp [hc1]),if_neg (by simp [hc2]),if_neg hc3]
 have w30:w3.drew.heap.size=w3.heap.size:=rfl;refine ⟨by rw [hadd],fun b=>F b∨f4=some b∨fp7=some b,?_,hall,?_⟩
 · rw [hadd];refine ⟨_,mb,ld,hb8,.inl g2,⟨fp7,ps++[(nd,.slice va4 nd.args.length vc4)],_,?_,fun b hb=>.inr (.inr hb),argsD_app (argsD_weak c38 (fun b hb=>.inl hb)) o8 (fun b hb=>.inr (.inl hb)) ?_,by simp [c4],?_⟩,gm8,.inl g5,leadOk_app g6 ho nd⟩
   · rw [flat_app,flat_one]
     simpa using ho7.mod hm8 (fun b hb hh=>hn7 (by rw [hb,hh]))
   · intro i b hi hb hh;have:=hFl b ((c3.1 i hi).2 b hb);have:=n4 b hh;omega
   · intro b hb;rcases hb with hb | hb | hb
     · have:=hFl b hb;omega
     · have:=o8.lt hb;omega
     · have:=ho7.lt hb;omega
 · intro b hb;rcases hb with hb | hb | hb
   · exact .inl hb
   · have:=n4 b hb;exact .inr (by omega)
   · rcases hf7 b hb with h | h
     · exact .inl (c2 b h)
     · exact .inr (by omega)
end
section
open Go Go.W
def ggetS (ns:List Nd) (at':Int):Nd×Int:=if 0≤at'∧at' < ns.length then (ndAt ns at'.toNat,0) else ({ kind:=0,num:=0,args:=[]},212)
def GGetPost (w:World) (s:Nd×Int) (r:Value) (w':World):Prop:=
 Mod (fun _=>False) w w'∧∃ v fp,r = .tuple #[.agg #[I s.1.kind,I s.1.num,v],I s.2]∧OwnS w' 3 1 v (s.1.args.map I) s.1.args.length fp∧∀ b,fp=some b→w.heap.size≤b
theorem ln3 {w:World} {bc i:Nat} {k n:Int} {v:Value} (h0:w.cell? ⟨bc,i,none⟩=some (I k)) (h1:w.cell? ⟨bc,i+1,none⟩=some (I n)) (h2:w.cell? ⟨bc,i+2,none⟩=some v):vLN w 3 (.pointer (some ⟨bc,i,none⟩))=some (.agg #[I k,I n,v]):=by
 simp [vLN,cellsFrom,add_at,h0,h1,h2]
theorem gget_ok (w:World) (a:Nat) (size young:Int) (old:Nat) (times:Int) (ns:List Nd) (at':Int) (F:Nat→Prop) (h:GAt w a size young old times ns F) (hargs:∀ nd∈ns,nd.args.length≤8) :
   CallsR Tryz.prog 189 [.pointer (some ⟨a,0,none⟩),I at'] w (GGetPost w (ggetS ns at')):=by
 refine fit189.calls rfl ?_;unfold ir189;(try simp only [go_sem,simprocAttr]);refine e_al ?_;intro w1 hb1 hm1 hs1;have hb1:w1.heap[w.heap.size]? = some (.cells #[I 0,I 0,.slice none 0 0] 104 (0,0)):=hb1;(try simp only [go_sem,simprocAttr]);refine e_bs (by rfl) (by (try simp only [go_sem,simprocAttr]);rfl) ?_;intro w2 hb2 hm2 hs2;have hm12:=hm1.trans hm2;have h2:=gat_mod h hm12 (fun _ _ h=>h);have hx:Ints w2 (.slice (some ⟨w1.heap.size,0,none⟩) 1 1) [at']:=ints_block (xs:=[at']) hb2 (by simp);(try simp only [go_sem,simprocAttr]);refine e_call (by rfl) ?_;refine (gplaces_ok w2 a ns.length old _ [at'] (gat_has h2) hx).mono ?_;rintro r w3 ⟨rfl,hm3⟩;rw [okPl_one];have hm13:=hm12.trans hm3;have hb3:=(hm2.trans hm3).at hb1 (fun h=>h);have h3:=gat_mod h2 hm3 (fun _ _ h=>h);(try simp only [go_sem,simprocAttr]);refine ir_cond rfl (fun hc=>?_) (fun hc=>?_)
 · have hc':¬ (0≤at'∧at' < ns.length):=by simp at hc;omega
   (try simp only [go_sem,simprocAttr]);refine e_sta rfl rfl hb3 rfl rfl (by simp [Value.oneCell']) ?_;intro w4 hb4 hm4 hs4;(try simp only [go_sem,simprocAttr,ln_of hb4 (off:=0) (n:=3) (by simp)]);have e:ggetS ns at'=({ kind:=0,num:=0,args:=[]},212):=if_neg hc';rw [e];exact ⟨hm13.step hm4 (fun i hi hlt=>by omega),_,none,rfl,OwnS.nil _ _ _,fun b hb=>by cases hb⟩
 · have hc':0≤at'∧at' < ns.length:=by simpa using hc
   obtain ⟨i,rfl⟩:∃ i:Nat,at'=i:=⟨at'.toNat,by omega⟩;have hi:i < ns.length:=by omega
   have e:ggetS ns i=(ndAt ns i,0):=if_pos hc';rw [e];obtain ⟨cv,mb,ld,g1,g2,g3,g4,g5,g6⟩:=h3;obtain ⟨bc,cc,v,rfl,k0,k1,k2,kx,kb,_⟩:=from_at (fromD_from g3) hargs hi;have kl:=ln3 k0 k1 k2;obtain ⟨xa,xc,rfl,hxl,_⟩:=id kx;(try simp only [go_sem,simprocAttr,zb4,zb6,cell_of g1,hc',kl]);refine e_al ?_;intro w4 hb4 hm4 hs4;have hb4:w4.heap[w3.heap.size]? = some (.cells #[I 0,I 0,.slice none 0 0] 104 (0,0)):=hb4;(try simp only [go_sem,simprocAttr]);refine e_sta rfl rfl hb4 rfl rfl (by simp [Value.oneCell']) ?_;intro w5 hb5 hm5 hs5;have hm35:Mod (fun _=>False) w3 w5:=hm4.step hm5 (fun i hi hlt=>by omega);have hx5:=kx.mod hm35 (fun _ _ h=>h);(try simp only [go_sem,simprocAttr,cell_of hb5]);refine e_call (by rfl) ?_;refine (clone_ok _ _ w5 hx5).mono ?_;rintro q w6 ⟨hm6,f6,o6,n6⟩;obtain ⟨va6,vc6,rfl,_,_⟩:=o6.val;have hb6:=hm6.at hb5 (fun h=>h);(try simp only [go_sem,simprocAttr]);refine e_st1 (off:=2) rfl rfl hb6 rfl (by simp) ?_;intro w7 hb7 hm7 hs7;have hb7:w7.heap[w3.heap.size]? = some (.cells #[I (ndAt ns i).kind,I (ndAt ns i).num,.slice va6 (ndAt ns i).args.length vc6] 104 (0,0)):=hb7;have s3:=hm13.size;have s5:=hm35.size;have s6:=hm6.size;have hm57:Mod (fun _=>False) w3 w7:=(hm35.trans hm6).step hm7 (fun x hx hlt=>by omega);have hb8:=hm57.at hb3 (fun h=>h);have l1:=lt_of_heap hb3;(try simp only [go_sem,simprocAttr,ln_of hb7 (off:=0) (n:=3) (by simp)]);refine e_sta rfl rfl hb8 rfl rfl (by simp [Value.oneCell']) ?_;intro w8 hb9 hm8 hs8;(try simp only [go_sem,simprocAttr,ln_of hb9 (off:=0) (n:=3) (by simp)]);have l4:=lt_of_heap hb4;exact ⟨(hm13.trans hm57).step hm8 (fun x hx hlt=>by omega),_,f6,rfl,(o6.mod hm7 (fun b hb hh=>by have:=n6 b hb;omega)).mod hm8 (fun b hb hh=>by have:=n6 b hb;omega),fun b hb=>by have:=n6 b hb;omega⟩
def gsetS (ns:List Nd) (at':Int) (nd:Nd):Int×List Nd:=
 if ¬ (0≤at'∧at' < ns.length) then (212,ns) else if nd.may=false then (1,ns) else if okPl ns.length nd.args=false then (212,ns) else (0,ns.set at'.toNat nd)
theorem ldel_keys {l:List (Int×Int)} (hn:(l.map (fun q=>q.1)).Nodup) (k:Int):((ldel l k).map (fun q=>q.1)).Nodup∧∀ x,x∈(ldel l k).map (fun q=>q.1)↔x∈l.map (fun q=>q.1)∧x≠k:=by
 unfold ldel;cases hI:l.findIdx? (fun p=>p.1 == k) with
 | none=>
   refine ⟨hn,fun x=>⟨fun hx=>⟨hx,fun he=>?_⟩,fun hx=>hx.1⟩⟩;rw [List.findIdx?_eq_none_iff] at hI;obtain ⟨q,hq,rfl⟩:=List.mem_map.1 hx;have:=hI q hq;simp [he] at this
 | some i=>
   have h1:=List.findIdx?_eq_some_iff_getElem.1 hI;have hi:=h1.1;have hk:l[i].1=k:=by simpa using h1.2.1
   have e:(l.eraseIdx i).map (fun q=>q.1)=(l.map (fun q=>q.1)).eraseIdx i:=Go.ChangeMaps.map_eraseIdx _ _ _;rw [e];refine ⟨hn.sublist (List.eraseIdx_sublist _ _),fun x=>?_⟩;generalize hL:l.map (fun q=>q.1)=L at hn;have hiL:i < L.length:=by rw [← hL];simpa using hi
   have hkL:L[i]=k:=by simp [← hL,hk]
   clear e hI h1 hk hL
   induction L generalizing i with
   | nil=>simp at hiL
   | cons y L ih=>
     rw [List.nodup_cons] at hn;cases i with
     | zero=>
       simp only [List.getElem_cons_zero] at hkL;subst hkL;simp only [List.eraseIdx_cons_zero,List.mem_cons];exact ⟨fun hx=>⟨.inr hx,fun he=>hn.1 (he ▸ hx)⟩,fun ⟨hx,hne⟩=>hx.resolve_left hne⟩
     | succ i=>
       simp only [List.getElem_cons_succ] at hkL;have hi2:i < L.length:=by simpa using hiL
       have:=ih i (by omega) hn.2 hi2 hkL;simp only [List.eraseIdx_cons_succ,List.mem_cons,this];refine ⟨fun hx=>?_,fun ⟨hx,hne⟩=>hx.imp (fun h=>h) (fun h=>⟨h,hne⟩)⟩;rcases hx with rfl | ⟨hx,hne⟩
       · exact ⟨.inl rfl,fun he=>hn.1 (by rw [he,← hkL];exact List.getElem_mem _)⟩
       · exact ⟨.inr hx,hne⟩
theorem lput_keys {l:List (Int×Int)} (hn:(l.map (fun q=>q.1)).Nodup) (k v:Int):((lput l k v).map (fun q=>q.1)).Nodup∧∀ x,x∈(lput l k v).map (fun q=>q.1)↔x∈l.map (fun q=>q.1)∨x=k:=by
 unfold lput;cases hI:l.findIdx? (fun p=>p.1 == k) with
 | none=>
   rw [List.findIdx?_eq_none_iff] at hI;have hno:k∉l.map (fun q=>q.1):=by
     intro hk;obtain ⟨q,hq,he⟩:=List.mem_map.1 hk;have:=hI q hq;simp [he] at this
   refine ⟨?_,fun x=>by simp⟩;simp only [List.map_append,List.map_cons,List.map_nil];rw [List.nodup_append];exact ⟨hn,by simp,fun a ha b hb hab=>by simp at hb;exact hno (hb ▸ hab ▸ ha)⟩
 | some i=>
   have h1:=List.findIdx?_eq_some_iff_getElem.1 hI;have hk:l[i]'h1.1=(k,(l[i]'h1.1).2):=by
     have:(l[i]'h1.1).1=k:=by simpa using h1.2.1
     rw [← this]
   have e:(l.set i (k,v)).map (fun q=>q.1)=l.map (fun q=>q.1):=by
     rw [List.map_set];have h2:(l.map (fun q=>q.1))[i]'(by simpa using h1.1)=k:=by simp;simpa using h1.2.1
     have h3:=List.set_getElem_self (show i < (l.map (fun q=>q.1)).length by simpa using h1.1);rw [h2] at h3;exact h3
   rw [e];refine ⟨hn,fun x=>⟨.inl,fun hx=>hx.elim (fun h=>h) (fun h=>?_)⟩⟩;rw [h];exact List.mem_map.2 ⟨_,List.getElem_mem h1.1,by simpa using h1.2.1⟩
theorem ndAt_set {ns:List Nd} {i:Nat} {nd:Nd} (hi:i < ns.length) (p:Nat):ndAt (ns.set i nd) p=if p=i then nd else ndAt ns p:=by
 unfold ndAt;rw [List.getD_eq_getElem?_getD,List.getElem?_set];by_cases h:i=p
 · subst h;simp [hi]
 · rw [if_neg h,if_neg (fun hh=>h hh.symm),List.getD_eq_getElem?_getD]
theorem gset_ok (w:World) (a:Nat) (size young:Int) (old:Nat) (times:Int) (ns:List Nd) (at':Int) (nd:Nd) (v:Value) (F:Nat→Prop) (h:GAt w a size young old times ns F) (ho:old≤ns.length) (hn:ns.length≤1048576) (hargs:∀ nd∈ns,nd.args.length≤8) (hx0:Ints w v nd.args) :
   CallsR Tryz.prog 191 [.pointer (some ⟨a,0,none⟩),I at',.agg #[I nd.kind,I nd.num,v]] w fun r w'=>r=I (gsetS ns at' nd).1∧∃ F',GAt w' a size young old times (gsetS ns at' nd).2 F'∧Grow F F' w w':=by
 have hx:=hx0;obtain ⟨va,vc,rfl,hl,_⟩:=hx0;refine fit191.calls rfl ?_;unfold ir191;(try simp only [go_sem,simprocAttr]);refine e_bx rfl ?_;intro w1 hb1 hm1 hs1;have hb1:w1.heap[w.heap.size]? = some (.cells #[.pointer (some ⟨a,0,none⟩)] 169 (0,0)):=hb1;(try simp only [go_sem,simprocAttr]);refine e_bx rfl ?_;intro w2 hb2 hm2 hs2;have hb2:w2.heap[w1.heap.size]? = some (.cells #[I nd.kind,I nd.num,.slice va nd.args.length vc] 104 (0,0)):=hb2;have hb12:=hm2.at hb1 (fun h=>h);(try simp only [go_sem,simprocAttr,cell_of hb12]);refine e_bs (by rfl) (by (try simp only [go_sem,simprocAttr]);rfl) ?_;intro w3 hb3 hm3 hs3;have hm13:=(hm1.trans hm2).trans hm3;have h3:=gat_mod h hm13 (fun _ _ h=>h);have hx3:Ints w3 (.slice (some ⟨w2.heap.size,0,none⟩) 1 1) [at']:=ints_block (xs:=[at']) hb3 (by simp);have hx3n:=hx.mod hm13 (fun _ _ h=>h);(try simp only [go_sem,simprocAttr]);refine e_call (by rfl) ?_;refine (gplaces_ok w3 a ns.length old _ [at'] (gat_has h3) hx3).mono ?_;rintro r w4 ⟨rfl,hm4⟩;rw [okPl_one];have hm14:=hm13.trans hm4;have same:∀ w5,Mod (fun _=>False) w4 w5→∃ F',GAt w5 a size young old times ns F'∧Grow F F' w w5:=fun w5 hm5=>
   ⟨F,gat_mod h (hm14.trans hm5) (fun _ _ h=>h),(hm14.trans hm5).weak (fun _ h=>h.elim),fun b hb=>.inl hb⟩
 (try simp only [go_sem,simprocAttr]);refine ir_cond rfl (fun hc=>?_) (fun hc=>?_)
 · have hc':¬ (0≤at'∧at' < ns.length):=by simp at hc;omega
   (try simp only [go_sem,simprocAttr]);have e:gsetS ns at' nd=(212,ns):=by unfold gsetS;rw [if_pos hc']
   rw [e];exact ⟨rfl,same w4 (Mod.refl _ _)⟩
 have hc':0≤at'∧at' < ns.length:=by simpa using hc
 obtain ⟨i,rfl⟩:∃ i:Nat,at'=i:=⟨at'.toNat,by omega⟩;have hi:i < ns.length:=by omega
 have hb14:=(hm3.trans hm4).at hb12 (fun h=>h);have hb24:=(hm3.trans hm4).at hb2 (fun h=>h);have hd4:vLN w4 3 (.pointer (some ⟨w1.heap.size,0,none⟩))=some (.agg #[I nd.kind,I nd.num,.slice va nd.args.length vc]):=ln_of hb24 (off:=0) (n:=3) (by simp);(try simp only [go_sem,simprocAttr,hd4]);refine e_call (by rfl) ?_;refine (gmay_ok nd.kind nd.num _ nd.args w4 (hx.mod hm14 (fun _ _ h=>h))).mono ?_;rintro r w5 ⟨rfl,hm5⟩;have hm15:=hm14.trans hm5;have hb15:=hm5.at hb14 (fun h=>h);have hb25:=hm5.at hb24 (fun h=>h);(try simp only [go_sem,simprocAttr]);refine ir_cond rfl (fun hm=>?_) (fun hm=>?_)
 · (try simp only [go_sem,simprocAttr]);have hm':nd.may=false:=by simpa [Nd.may] using hm
   have e:gsetS ns i nd=(1,ns):=by unfold gsetS;rw [if_neg (by simpa using hc'),if_pos hm']
   rw [e];exact ⟨rfl,same w5 hm5⟩
 have hm1':nd.may=true:=by simpa [Nd.may] using hm
 have h5:=gat_mod h hm15 (fun _ _ h=>h);(try simp only [go_sem,simprocAttr,cell_of hb15,cell_of hb25]);refine e_call (by rfl) ?_;refine (gplaces_ok w5 a ns.length old _ nd.args (gat_has h5) (hx.mod hm15 (fun _ _ h=>h))).mono ?_;rintro r w6 ⟨rfl,hm6⟩;have hm16:=hm15.trans hm6;have hb16:=hm6.at hb15 (fun h=>h);have hb26:=hm6.at hb25 (fun h=>h);(try simp only [go_sem,simprocAttr]);refine ir_cond rfl (fun ho2=>?_) (fun ho2=>?_)
 · (try simp only [go_sem,simprocAttr]);have ho':okPl ns.length nd.args=false:=by simpa using ho2
   have e:gsetS ns i nd=(212,ns):=by unfold gsetS;rw [if_neg (by simpa using hc'),if_neg (by simp [hm1']),if_pos ho']
   rw [e];exact ⟨rfl,same w6 (hm5.trans hm6)⟩
 have ho1:okPl ns.length nd.args=true:=by simpa using ho2
 have e:gsetS ns i nd=(0,ns.set i nd):=by unfold gsetS;rw [if_neg (by simpa using hc'),if_neg (by simp [hm1']),if_neg (by simp [ho1])];simp
 rw [e];(try simp only [go_sem,simprocAttr,cell_of hb26]);refine e_call (by rfl) ?_;refine (clone_ok _ nd.args w6 (hx.mod hm16 (fun _ _ h=>h))).mono ?_;rintro q w7 ⟨hm7,f7,o7,n7⟩;obtain ⟨va7,vc7,rfl,_,_⟩:=o7.val;have hb27:=hm7.at hb26 (fun h=>h);have hb17:=hm7.at hb16 (fun h=>h);have hm17:=hm16.trans hm7;(try simp only [go_sem,simprocAttr]);refine e_st1 (off:=2) rfl rfl hb27 rfl (by simp) ?_;intro w8 hb8 hm8 hs8;have hb8:w8.heap[w1.heap.size]? = some (.cells #[I nd.kind,I nd.num,.slice va7 nd.args.length vc7] 104 (0,0)):=hb8;have hb18:=hm8.at hb17 (by have:=lt_of_heap hb1;omega);have s1:=hm1.size;have s2:=hm2.size;have s17:=hm17.size;have hFl:=gat_lt h;have hm18:Mod (fun _=>False) w w8:=hm17.step hm8 (fun x hx hlt=>by omega);have h8:=gat_mod h hm18 (fun _ _ h=>h);have s6:=hm16.size;have s3:=hm13.size;have s4:=hm4.size;have s5:=hm5.size;have s66:=hm6.size;have l2:=lt_of_heap hb2;have o8:=o7.mod hm8 (fun b hb hh=>by have:=n7 b hb;omega);have h8has:=gat_has h8;obtain ⟨cv,mb,ld,g1,g2,g3,g4,g5,g6⟩:=h8;obtain ⟨fpc,ps,fp,c1,c2,c3,c4,c5⟩:=g3;have hps:ps.length=ns.length:=by rw [← c4];simp
 obtain ⟨bc,cc,spc,rfl,rfl,gc,hcc,hcap⟩:=c1.pos (by omega);have hi':i < ps.length:=by omega
 have hflat:=flat_len ps;have hdd:vLN w8.drew 3 (.pointer (some ⟨w1.heap.size,0,none⟩))=some (.agg #[I nd.kind,I nd.num,.slice va7 nd.args.length vc7]):=ln_of (w:=w8.drew) hb8 (off:=0) (n:=3) (by simp);have hwd:Mod (fun _=>False) w8 w8.drew:=⟨Nat.le_refl _,fun _ _ _=>rfl,rfl,rfl,rfl⟩;have gcd:=hwd.at gc (fun h=>h);(try simp only [go_sem,simprocAttr,zb4,zb6,cell_of hb18,cell_of g1,hdd,hc']);refine e_stg rfl rfl gcd rfl (by simp;omega) (by simp [Value.oneCell']) ?_;intro w9 hb9 hm9 hs9;have hne:a≠bc:=fun hh=>kind_ne g1 (hh ▸ gc) (by decide)
 have hsp:=flat_set ps i (nd,.slice va7 nd.args.length vc7) hi' spc;have hm89:Mod (fun x=>x=bc) w8 w9:=(hwd.weak (fun _ h=>h.elim)).step hm9 (fun x hx _=>hx);have hFbc:F bc:=c2 bc rfl;have hb19:=hm89.at hb18 (fun hh=>by have:=hFl bc hFbc;omega);have hb29:=hm89.at hb8 (fun hh=>by have:=hFl bc hFbc;omega);have ga9:=hm89.at g1 hne;have o9:=o8.mod hm89 (fun b hb hh=>own_ne o8 gc (by decide) (by rw [hb,hh]))
 have gm9:=map_mod g4 hm89 (fun hh=>by
   obtain ⟨es,c,q2,_⟩:=g4
   rw [hh,gc] at q2;cases q2)
 have d9:FromD 104 w9 (.slice (some ⟨bc,0,none⟩) ns.length cc) (ns.set i nd) (fun b=>F b∨f7=some b):=by
   refine ⟨some bc,ps.set i (nd,.slice va7 nd.args.length vc7),_,?_,(fun b hb=>.inl (c2 b hb)),argsD_set (argsD_weak (argsD_mod c3 hm89 (fun j b hj hb hh=>own_ne (c3.1 j hj).1 gc (by decide) (by rw [hb,hh]))) (fun b hb=>.inl hb)) o9 (fun b hb=>.inr hb) (fun j b hj hjk hb hh=>?_),by rw [List.map_set,c4],fun b hb=>?_⟩
   · refine ⟨by rw [flat_len];simp;omega,.inr ⟨bc,cc,spc,by simp,rfl,?_,?_,by simpa using hcc⟩⟩
     · rw [← hsp];exact hb9
     · rw [List.length_append,flat_len,List.length_set,← flat_len,← List.length_append];exact hcap
   · have:=hFl b ((c3.1 j hj).2 b hb);have:=n7 b hh;omega
   · have:=hm18.size;have:=hm89.size;rcases hb with hb | hb
     · have:=hFl b hb;omega
     · exact o9.lt hb
 have hnF:∀ b,(F b∨f7=some b)→F b∨w.heap.size≤b:=fun b hb=>hb.imp (fun h=>h) (fun h=>by have:=n7 b h;omega)
 have hm0:Mod F w w9:=(hm18.weak (fun _ h=>h.elim)).step hm89 (fun x hx _=>hx ▸ hFbc);(try simp only [go_sem,simprocAttr,cell_of hb19,cell_of ga9]);refine ir_cond rfl (fun hlt=>?_) (fun hlt=>?_)
 · have hlt':i < old:=by simpa using hlt
   (try simp only [go_sem,simprocAttr,cell_of hb19,cell_of ga9]);refine e_dl (t:=200) (kt:=3) (et:=3) rfl rfl rfl Tryz.underlying200 Tryz.underlying3 gm9 ?_;intro w10 gm10 hm10 hs10;have hma:a≠mb:=fun hh=>by
     obtain ⟨es,c,q2,_⟩:=gm9;rw [← hh,ga9] at q2;cases q2
   have ga10:=hm10.at ga9 hma;have hb110:=hm10.at hb19 (fun hh=>by have:=hFl mb g5;omega);have hb210:=hm10.at hb29 (fun hh=>by have:=hFl mb g5;omega);have kmap:∀ b cs T,w9.heap[b]? = some (.cells cs T (0,0))→b≠mb:=fun b cs T hb hh=>by
     obtain ⟨es,c,q2,_⟩:=gm9;rw [← hh,hb] at q2;cases q2
   have d10:FromD 104 w10 (.slice (some ⟨bc,0,none⟩) ns.length cc) (ns.set i nd) (fun b=>F b∨f7=some b):=by
     obtain ⟨fpc,ps,fp,q1,q2,q3,q4,q5⟩:=d9;refine ⟨fpc,ps,fp,q1.mod hm10 (fun b hb=>?_),q2,argsD_mod q3 hm10 (fun j b hj hb=>?_),q4,fun b hb=>by rw [hs10];exact q5 b hb⟩
     · obtain ⟨cs,q6⟩:=own_cells q1 hb;exact kmap b cs _ q6
     · obtain ⟨cs,q6⟩:=own_cells (q3.1 j hj).1 hb;exact kmap b cs _ q6
   have o10:=o9.mod hm10 (fun b hb=>by obtain ⟨cs,q6⟩:=own_cells o9 hb;exact kmap b cs _ q6);have hle8:nd.args.length≤17592186044416:=hl;have hx10:=(o10.ints hle8).1;obtain ⟨k1,k2⟩:=ldel_keys g6.1 (i:Int);have hm010:Mod F w w10:=hm0.step hm10 (fun x hx _=>hx ▸ g5);(try simp only [go_sem,simprocAttr,cell_of hb210]);refine e_call (by rfl) ?_;have has10:GHas w10 a ns.length old:=⟨_,_,_,_,_,_,ga10⟩;refine (contains_ok _ nd.args w10 hx10 197 Tryz.f197 #[.pointer (some ⟨w.heap.size,0,none⟩)] (fun x=>decide (x≥old)) Tryz.func197 fn49.1 fn49.2 (fun x _=>setF_ok w10 a ns.length old w.heap.size x has10 hb110)).mono ?_;rintro q _ ⟨rfl,rfl⟩;(try simp only [go_sem,simprocAttr]);have hany:(nd.args.any (fun x=>decide (x≥(old:Int)))=true)↔∃ x∈nd.args,(old:Int)≤x:=by simp [List.any_eq_true]
   refine ir_cond rfl (fun hq=>?_) (fun hq=>?_)
   · (try simp only [go_sem,simprocAttr,cell_of hb110,cell_of ga10]);refine e_mu (t:=200) (kt:=3) (et:=3) rfl rfl rfl Tryz.underlying200 Tryz.underlying3 gm10 ?_;intro w11 gm11 hm11 hs11;(try simp only [go_sem,simprocAttr]);have kmap2:∀ b cs T,w10.heap[b]? = some (.cells cs T (0,0))→b≠mb:=fun b cs T hb hh=>by
       obtain ⟨es,c,q2,_⟩:=gm10;rw [← hh,hb] at q2;cases q2
     obtain ⟨k3,k4⟩:=lput_keys k1 (i:Int) 1;refine ⟨fun b=>F b∨f7=some b,⟨_,mb,_,hm11.at ga10 hma,.inl g2,?_,gm11,.inl g5,k3,fun k=>?_⟩,hm010.step hm11 (fun x hx _=>hx ▸ g5),hnF⟩
     · obtain ⟨fpc,ps,fp,q1,q2,q3,q4,q5⟩:=d10;refine ⟨fpc,ps,fp,q1.mod hm11 (fun b hb=>?_),q2,argsD_mod q3 hm11 (fun j b hj hb=>?_),q4,fun b hb=>by rw [hs11];exact q5 b hb⟩
       · obtain ⟨cs,q6⟩:=own_cells q1 hb;exact kmap2 b cs _ q6
       · obtain ⟨cs,q6⟩:=own_cells (q3.1 j hj).1 hb;exact kmap2 b cs _ q6
     · rw [k4,k2,g6.2];constructor
       · rintro (⟨⟨p,rfl,hp,hp2⟩,hne2⟩ | rfl)
         · exact ⟨p,rfl,hp,by rw [ndAt_set hi,if_neg (fun hh=>hne2 (by rw [hh]))];exact hp2⟩
         · exact ⟨i,rfl,hlt',by rw [ndAt_set hi,if_pos rfl];exact hany.1 hq⟩
       · rintro ⟨p,rfl,hp,hp2⟩;by_cases hpi:p=i
         · exact .inr (by rw [hpi])
         · rw [ndAt_set hi,if_neg hpi] at hp2;exact .inl ⟨⟨p,rfl,hp,hp2⟩,by omega⟩
   · (try simp only [go_sem,simprocAttr]);refine ⟨fun b=>F b∨f7=some b,⟨_,mb,_,ga10,.inl g2,d10,gm10,.inl g5,k1,fun k=>?_⟩,hm010,hnF⟩;rw [k2,g6.2];constructor
     · rintro ⟨⟨p,rfl,hp,hp2⟩,hne2⟩;exact ⟨p,rfl,hp,by rw [ndAt_set hi,if_neg (fun hh=>hne2 (by rw [hh]))];exact hp2⟩
     · rintro ⟨p,rfl,hp,hp2⟩;by_cases hpi:p=i
       · rw [hpi,ndAt_set hi,if_pos rfl] at hp2;rw [hany.2 hp2] at hq;cases hq
       · rw [ndAt_set hi,if_neg hpi] at hp2;exact ⟨⟨p,rfl,hp,hp2⟩,by omega⟩
 · have hlt':¬ i < old:=by simpa using hlt
   (try simp only [go_sem,simprocAttr]);refine ⟨fun b=>F b∨f7=some b,⟨_,mb,ld,ga9,.inl g2,d9,gm9,.inl g5,g6.1,fun k=>?_⟩,hm0,hnF⟩;rw [g6.2];constructor
   · rintro ⟨p,rfl,hp,hp2⟩;exact ⟨p,rfl,hp,by rw [ndAt_set hi,if_neg (by omega)];exact hp2⟩
   · rintro ⟨p,rfl,hp,hp2⟩;rw [ndAt_set hi,if_neg (by omega)] at hp2;exact ⟨p,rfl,hp,hp2⟩
end
section
open Go Go.W
def IsMin (m:Int) (xs:List Int):Prop:=m∈xs∧∀ y∈xs,m≤y
theorem min_ok (v:Value) (xs:List Int) (w:World) (hx:Ints w v xs) (hne:xs≠[]):CallsR Tryz.prog 213 [v] w fun r w'=>(∃ m,r=I m∧IsMin m xs)∧w=w':=by
 have hx0:=hx;obtain ⟨a,c,rfl,hl,hxx⟩:=hx;have hpos:0 < xs.length:=by cases xs with | nil=>exact absurd rfl hne | cons y l=>simp
 refine fit213.calls rfl ?_;unfold ir213;obtain ⟨ad,rfl,h0⟩:=hxx 0 hpos;rw [add_zero'] at h0;have e1:decide ((xs.length:Int) < 1)=false:=by simp;omega
 have c1:(0:Int)≤0∧(0:Int) < xs.length:=by omega
 (try simp only [go_sem,simprocAttr,zb4,zb6,e1,c1,h0]);refine ir_loop (fun m ρ w'=>∃ (k:Nat) (q:Int),m=xs.length - k∧1≤k∧k≤xs.length∧w=w'∧IsMin q (xs.take k)∧ρ=[(0,.slice (some ad) xs.length c),(3,I q),(4,I k)]) (xs.length - 1)
   ⟨1,xs[0],rfl,Nat.le_refl _,hpos,rfl,?_,rfl⟩ ?_
 · have e:xs.take 1=[xs[0]]:=by rw [List.take_succ_eq_append_getElem hpos];simp
   rw [e];exact ⟨by simp,fun y hy=>by simp at hy;omega⟩
 rintro m ρ _ ⟨k,q,rfl,hk1,hk,rfl,hq,rfl⟩;unfold ir213L1;(try simp only [go_sem,simprocAttr]);refine ir_cond rfl (fun h=>?_) (fun h=>?_)
 · have hlt:k < xs.length:=by simpa using h
   obtain ⟨ad',he,hc⟩:=hxx k hlt;cases he;have c2:(0:Int)≤k∧(k:Int) < xs.length:=by omega
   have hw:IntKind.i64.wrap ((k:Int)+1)=((k+1:Nat):Int):=by rw [wrap_in]<;>omega
   (try simp only [go_sem,simprocAttr,zb4,zb6,c2,hc,hw]);refine ⟨_,?_,k+1,_,rfl,by omega,hlt,?_,rfl⟩
   · omega
   · rw [List.take_succ_eq_append_getElem hlt];obtain ⟨q1,q2⟩:=hq;by_cases hlq:xs[k] < q
     · rw [if_pos hlq];refine ⟨List.mem_append_right _ (by simp),fun y hy=>?_⟩;rcases List.mem_append.1 hy with hy | hy
       · have:=q2 y hy;omega
       · simp at hy;omega
     · rw [if_neg hlq];refine ⟨List.mem_append_left _ q1,fun y hy=>?_⟩;rcases List.mem_append.1 hy with hy | hy
       · exact q2 y hy
       · simp at hy;omega
 · have hk':k=xs.length:=by simp at h;omega
   subst hk';rw [List.take_length] at hq;(try simp only [go_sem,simprocAttr]);exact ⟨_,rfl,hq⟩
theorem one_ok (pv v:Value) (xs:List Int) (w:World) (hx:Ints w v xs) (hne:xs≠[]):CallsR Tryz.prog 209 [pv,v] w fun r w'=>(∃ m,r=I m∧IsMin m xs)∧w=w':=by
 refine fit209.calls rfl ?_;unfold ir209;(try simp only [go_sem,simprocAttr]);refine e_call (by rfl) ?_;refine (min_ok v xs w hx hne).mono ?_;rintro q _ ⟨⟨m,rfl,hm⟩,rfl⟩;(try simp only [go_sem,simprocAttr]);exact ⟨_,rfl,hm⟩
structure OfOk (ns:List Nd) (l:List Int) (R:List (Int×Int)):Prop where
 len:l.length=ns.length
 val:∀ i,i < ns.length→l.getD i 0 = -1∨l.getD i 0=over ns i
 nd:(R.map (fun q=>q.1)).Nodup
 ring:∀ k:Int,k∈R.map (fun q=>q.1)↔∃ i,i < ns.length∧k=over ns i∧l.getD i 0 ≠ -1∧ind ns (over ns i)=true
theorem ofOk_set {ns:List Nd} (hw:WF ns) {l:List Int} {R:List (Int×Int)} (h:OfOk ns l R) {q p:Nat} (hq:q < ns.length) (hp:p < ns.length) (he:over ns q=over ns p) (hk:l.getD p 0 ≠ -1∨ind ns (over ns p)=false):OfOk ns (l.set q (over ns p:Nat)) R:=by
 have hql:q < l.length:=by rw [h.len];exact hq
 refine ⟨by simpa using h.len,fun i hi=>?_,h.nd,fun k=>?_⟩
 · rw [getD_set l q i _ hql]
   split
   · rename_i e;subst e;exact .inr (by rw [he])
   · exact h.val i hi
 · rw [h.ring];constructor
   · rintro ⟨i,h1,h2,h3,h4⟩;refine ⟨i,h1,h2,?_,h4⟩;rw [getD_set l q i _ hql]
     split
     · omega
     · exact h3
   · rintro ⟨i,h1,h2,h3,h4⟩;rw [getD_set l q i _ hql] at h3
     split at h3
     · rename_i e;subst e;rcases hk with hk | hk
       · exact ⟨p,hp,by rw [h2,he],hk,by rw [← he];exact h4⟩
       · rw [he,hk] at h4;cases h4
     · exact ⟨i,h1,h2,h3,h4⟩
theorem ofOk_ring {ns:List Nd} (hw:WF ns) {l:List Int} {R:List (Int×Int)} (h:OfOk ns l R) {p:Nat} (hp:p < ns.length) (he:over ns p=p) (hi:ind ns p=true):OfOk ns (l.set p (p:Nat)) (lput R p 1):=by
 have hql:p < l.length:=by rw [h.len];exact hp
 obtain ⟨k1,k2⟩:=lput_keys h.nd (p:Int) 1;refine ⟨by simpa using h.len,fun i hi=>?_,k1,fun k=>?_⟩
 · rw [getD_set l p i _ hql]
   split
   · rename_i e;subst e;exact .inr (by rw [he])
   · exact h.val i hi
 · rw [k2,h.ring];constructor
   · rintro (⟨i,h1,h2,h3,h4⟩ | rfl)
     · refine ⟨i,h1,h2,?_,h4⟩;rw [getD_set l p i _ hql]
       split
       · omega
       · exact h3
     · refine ⟨p,hp,by rw [he],?_,by rw [he];exact hi⟩;rw [getD_set l p p _ hql,if_pos rfl];omega
   · rintro ⟨i,h1,h2,h3,h4⟩;rw [getD_set l p i _ hql] at h3
     split at h3
     · rename_i e;subst e;exact .inr (by rw [h2,he])
     · exact .inl ⟨i,h1,h2,h3,h4⟩
theorem fit_mul {f:Nat→Nat} {c d:Nat} (h:fit f d c=c):∀ t,fit f (d*t) c=c:=by
 intro t
 induction t with
 | zero=>rfl
 | succ t ih=>rw [Nat.mul_succ,fit_add,h,ih]
theorem ring_min {f:Nat→Nat} {n x j k:Nat} (hf:∀ x,x < n→f x < n) (hx:x < n) (hjk:j < k) (hc:fit f k x=fit f j x) {m:Int} (hm:IsMin m (((List.range k).map (fun i=>(fit f i x:Int))).drop j)):m=(ov f n x:Nat):=by
 have hmem:∀ y:Int,y∈((List.range k).map (fun i=>(fit f i x:Int))).drop j↔∃ i,j≤i∧i < k∧y=(fit f i x:Nat):=by
   intro y;rw [List.mem_iff_getElem?];constructor
   · rintro ⟨i,hi⟩;rw [List.getElem?_drop,List.getElem?_map] at hi;cases hr:(List.range k)[j+i]? with
     | none=>rw [hr] at hi;cases hi
     | some t=>
       rw [hr] at hi;have ht:j+i < k∧t=j+i:=by
         have:=List.getElem?_eq_some_iff.1 hr;obtain ⟨h1,h2⟩:=this;simp at h1 h2;exact ⟨h1,h2.symm⟩
       simp only [Option.map_some,Option.some.injEq] at hi;exact ⟨j+i,by omega,ht.1,by rw [← hi,ht.2]⟩
   · rintro ⟨i,h1,h2,rfl⟩;refine ⟨i - j,?_⟩;rw [List.getElem?_drop,List.getElem?_map,show j+(i - j)=i by omega,List.getElem?_range h2];rfl
 obtain ⟨hm1,hm2⟩:=hm;obtain ⟨i,hi1,hi2,rfl⟩:=(hmem m).1 hm1;have hd:fit f (k - j) (fit f j x)=fit f j x:=by rw [← fit_add,show k - j+j=k by omega,hc]
 have h1:ov f n x≤fit f i x:=by
   have hkj:1≤k - j:=by omega
   have hmul:=Nat.mul_le_mul_right n hkj;have:=ov_le' hf hx (i+(k - j)*n) (by omega);have e:fit f (i+(k - j)*n) x=fit f i x:=by
     rw [show i+(k - j)*n=(i - j)+((k - j)*n+j) by omega,fit_add,fit_add f ((k - j)*n) j,fit_mul hd,← fit_add]
     congr 1;omega
   rwa [e] at this
 have h2:(fit f i x:Int)≤(ov f n x:Nat):=by
   obtain ⟨M,_,hM⟩:=ov_mem f n (fit f j x);rw [ov_fit hf hx j] at hM;refine hm2 _ ((hmem _).2 ⟨j+(M+n) % (k - j),by omega,by have:=Nat.mod_lt (M+n) (show 0 < k - j by omega);omega,?_⟩);rw [hM];have e:fit f (M+n) (fit f j x)=fit f ((M+n) % (k - j)) (fit f j x):=by
     conv=>lhs;rw [← Nat.mod_add_div (M+n) (k - j)]
     rw [fit_add,fit_mul hd]
   rw [e,← fit_add]
   congr 2;omega
 omega
def wayMap (g:Nat→Nat) (k:Nat):List (Int×Int):=(List.range k).map fun j=>((g j:Int),(j:Int))
theorem wayMap_succ (g:Nat→Nat) (k:Nat):wayMap g (k+1)=wayMap g k++[((g k:Int),(k:Int))]:=by simp [wayMap,List.range_succ]
theorem wayMap_none {g:Nat→Nat} {k:Nat} {c:Nat} (h:∀ j,j < k→g j≠c):lget (wayMap g k) c=none∧∀ v,lput (wayMap g k) c v=wayMap g k++[((c:Int),v)]:=by
 have hf:(wayMap g k).findIdx? (fun p=>p.1 == (c:Int))=none:=by
   rw [List.findIdx?_eq_none_iff];intro q hq;obtain ⟨j,hj,rfl⟩:=List.mem_map.1 hq;have:=h j (List.mem_range.1 hj);simp;omega
 refine ⟨by rw [lget_idx,hf];rfl,fun v=>by unfold lput;rw [hf]⟩
theorem wayMap_some {g:Nat→Nat}:∀ (k:Nat),(∀ i j,i < k→j < k→g i=g j→i=j)→∀ j,j < k→lget (wayMap g k) (g j)=some (j:Int):=by
 intro k
 induction k with
 | zero=>intro _ j hj;omega
 | succ k ih=>
   intro hd j hj;rw [wayMap_succ];unfold lget;rw [List.find?_append];by_cases hjk:j < k
   · have:=ih (fun i j hi hj=>hd i j (by omega) (by omega)) j hjk;unfold lget at this;cases hq:(wayMap g k).find? (fun p=>p.1 == (g j:Int)) with
     | none=>rw [hq] at this;cases this
     | some q=>rw [hq] at this;simpa using this
   · have e:j=k:=by omega
     subst e;have hn:(wayMap g j).find? (fun p=>p.1 == (g j:Int))=none:=by
       rw [List.find?_eq_none];intro q hq;obtain ⟨i,hi,rfl⟩:=List.mem_map.1 hq;have hi':=List.mem_range.1 hi;have:g i≠g j:=fun hh=>by have:=hd i j (by omega) (by omega) hh;omega
       simp;omega
     rw [hn];simp
end
section
open Go Go.W
theorem ir_bthen {P:Program} {N id:Nat} {a:IR} {next:Env→World→Prop} {Q:Post} {ρ:Env} {w:World} (Mid:Env→World→Prop) (h:irwp P N a (blkQ id (thenQ Mid Q)) ρ w) (hk:∀ ρ w,Mid ρ w→next ρ w):irwp P N a (blkQ id (thenQ next Q)) ρ w:=
 irwp_mono a _ _ (blkQ_le (thenQ_le hk (fun _ _ _ h=>h))) ρ w h
def wayL (g:Nat→Nat) (k:Nat):List Int:=(List.range k).map fun i=>(g i:Int)
theorem wayL_succ (g:Nat→Nat) (k:Nat):wayL g (k+1)=wayL g k++[(g k:Int)]:=by simp [wayL,List.range_succ]
theorem wayL_len (g:Nat→Nat) (k:Nat):(wayL g k).length=k:=by simp [wayL]
theorem leads' {w:World} {va:Option Addr} {n vc:Nat} {xs:List Int} {q:Int} (h:Ints w (.slice va n vc) xs) (hx:xs=[q]):∃ ad,va=some ad∧w.cell? ad=some (I q):=by
 subst hx;obtain ⟨xb,xd,ev,_,hxx⟩:=h;obtain ⟨ad,h1,had⟩:=hxx 0 (by simp);cases ev;rw [add_zero'] at had;exact ⟨ad,h1,had⟩
theorem own_at' {w:World} {T n:Nat} {v:Value} {xs:List Value} {fp:Option Nat} (h:OwnS w T 1 v xs n fp) {i:Nat} (hi:i < n) {u:Value} (hu:xs[i]? = some u):∃ b c,v = .slice (some ⟨b,0,none⟩) n c∧w.cell? ⟨b,i,none⟩=some u:=by
 have hl:=h.1;obtain ⟨b,c,sp',hv,_,hb,_,_⟩:=h.pos (by omega);refine ⟨b,c,hv,?_⟩;rw [cell_of hb,List.getElem?_toArray,List.getElem?_append_left (by omega)];exact hu
theorem own_drop {w:World} {xs:List Int} {fp:Option Nat} {a:Option Addr} {c j:Nat} (h:OwnS w 3 1 (.slice a xs.length c) (xs.map I) xs.length fp) (hj:j < xs.length) (hl:xs.length≤17592186044416) :
   Ints w (.slice (if c=j then a else a.map (fun x=>x.add j)) (xs.length - j) (c - j)) (xs.drop j):=by
 obtain ⟨b,c',sp',he,_,hb,hc,hcap⟩:=h.pos (by omega);cases he;have hcj:¬ c=j:=by omega
 rw [if_neg hcj];refine ⟨_,c - j,by rw [List.length_drop];rfl,by rw [List.length_drop];omega,fun i hi=>⟨_,rfl,?_⟩⟩;rw [List.length_drop] at hi;show w.cell? ((Addr.add ⟨b,0,none⟩ j).add i)=_;rw [add_at,add_at,cell_of hb];rw [List.getElem?_toArray,List.getElem?_append_left (by simp;omega)];simp [Nat.mul_one,show j+i < xs.length by omega]
def GPassPost (ns:List Nd) (w:World) (bo br:Nat) (l:List Int) (p:Nat) (w':World):Prop:=
 ∃ l' R',OfOk ns l' R'∧l'.getD p 0=over ns p∧(∀ i,i < ns.length→l.getD i 0 ≠ -1→l'.getD i 0 ≠ -1)∧w'.heap[bo]? = some (.cells (l'.map I).toArray 3 (0,0))∧MapAt w' br R'∧Mod (fun x=>x=bo∨x=br) w w'
theorem gpass_ok (ns:List Nd) (hw:WF ns) (hn:ns.length≤1048576) (w:World) (a bo br:Nat) (c0 c1 cv c3 c4 c5:Value) (l:List Int) (R:List (Int×Int)) (F:Nat→Prop)
   (ha:w.heap[a]? = some (.cells #[c0,c1,cv,c3,c4,c5] 202 (0,0))) (hfr:FromAt 104 w cv ns F) (hb:w.heap[bo]? = some (.cells (l.map I).toArray 3 (0,0))) (hr:MapAt w br R) (hok:OfOk ns l R) (hFb:∀ x,F x→x≠bo∧x≠br) (p:Nat) (hp:p < ns.length) :
   CallsR Tryz.prog 205 [.pointer (some ⟨a,0,none⟩),I p,.agg #[.slice (some ⟨bo,0,none⟩) ns.length ns.length,.map (some br)]] w fun r w'=>GPassPost ns w bo br l p w':=by
 have hargs:=wf_args_le hw;have hf:=wf_nxt_lt hw;have hlt:∀ j,fit (nxt ns) j p < ns.length:=fun j=>fit_lt hf j hp
 have lb:=lt_of_heap hb;obtain ⟨res,crs,hrs,_⟩:=id hr;have lr:=lt_of_heap hrs;refine fit205.calls rfl ?_;unfold ir205;(try simp only [go_sem,simprocAttr]);refine e_bx rfl ?_;intro w1 hb1 hm1 hs1;have hb1:w1.heap[w.heap.size]? = some (.cells #[.slice (some ⟨bo,0,none⟩) ns.length ns.length,.map (some br)] 246 (0,0)):=hb1;(try simp only [go_sem,simprocAttr]);refine e_mm ?_;intro w2 hb2 hm2 hs2;have hb12:=hm2.at hb1 (fun h=>h);(try simp only [go_sem,simprocAttr])
 refine ir_bthen (fun ρ w'=>∃ (k pf:Nat) (l1:List Int) (R1:List (Int×Int)) (v:Value) (fp:Option Nat),k≤ns.length∧pf < ns.length∧OfOk ns l1 R1∧l1.getD pf 0=over ns p∧over ns pf=over ns p∧(k=0→pf=p)∧(∀ i,i < ns.length→l.getD i 0 ≠ -1→l1.getD i 0 ≠ -1) ∧
     w'.heap[bo]? = some (.cells (l1.map I).toArray 3 (0,0))∧MapAt w' br R1∧Mod (fun x=>x=bo∨x=br) w w'∧w'.heap[w.heap.size]? = some (.cells #[.slice (some ⟨bo,0,none⟩) ns.length ns.length,.map (some br)] 246 (0,0)) ∧
     OwnS w' 3 1 v ((wayL (fun i=>fit (nxt ns) i p) k).map I) k fp∧(∀ b,fp=some b→w.heap.size < b) ∧
     ρ.get 1=some (I pf)∧ρ.get 5=some (.pointer (some ⟨w.heap.size,0,none⟩))∧ρ.get 7=some v) ?_ ?_
 · refine ir_loop (fun m ρ w' => ∃ (k : Nat) (v : Value) (fp : Option Nat), m = ns.length - k ∧ k ≤ ns.length ∧ (∀ j, j < k → ind ns (fit (nxt ns) j p) = true ∧ l.getD (fit (nxt ns) j p) 0 = -1) ∧ (∀ i j, i < k → j < k → fit (nxt ns) i p = fit (nxt ns) j p → i = j) ∧
       Mod (fun _=>False) w w'∧w'.heap[w.heap.size]? = some (.cells #[.slice (some ⟨bo,0,none⟩) ns.length ns.length,.map (some br)] 246 (0,0))∧MapAt w' w1.heap.size (wayMap (fun i=>fit (nxt ns) i p) k) ∧
       OwnS w' 3 1 v ((wayL (fun i=>fit (nxt ns) i p) k).map I) k fp∧(∀ b,fp=some b→w1.heap.size < b) ∧
       ρ=[(0,.pointer (some ⟨a,0,none⟩)),(1,I (fit (nxt ns) k p:Nat)),(5,.pointer (some ⟨w.heap.size,0,none⟩)),(6,.map (some w1.heap.size)),(7,v)]) ns.length
     ⟨0,_,none,rfl,Nat.zero_le _,(fun j hj=>by omega),(fun i j hi=>by omega),hm1.trans hm2,hb12,hb2,OwnS.nil _ _ _,(fun b hb=>by cases hb),rfl⟩ ?_
   rintro m ρ w3 ⟨k,v,fp,rfl,hk,hway,hdist,hm3,hb3,hmap,how,hfp,rfl⟩;have hbo:=hm3.at hb (fun h=>h);have hbr:=map_mod hr hm3 (fun h=>h);have ha3:=hm3.at ha (fun h=>h);have hfr3:=hfr.mod hm3 (fun _ _ h=>h);obtain ⟨bc,cc,nv,rfl,d0,d1,d2,dx,db,_⟩:=from_at hfr3 hargs (hlt k);have hx:=ints_at hbo (i:=fit (nxt ns) k p) (by rw [hok.len];exact hlt k);have b1:(0:Int)≤(fit (nxt ns) k p:Nat)∧((fit (nxt ns) k p:Nat):Int) < ns.length:=by have:=hlt k;omega
   have hov:over ns (fit (nxt ns) k p)=over ns p:=ov_fit hf hp k;obtain ⟨va,vc,rfl,_,_⟩:=how.val;unfold ir205L1;(try simp only [go_sem,simprocAttr,zb4,zb6,cell_of hb3,b1,hx]);refine ir_cond rfl (fun hc=>?_) (fun hc=>?_)
   · have hc':l.getD (fit (nxt ns) k p) 0 = -1:=by
       have h1:l.getD (fit (nxt ns) k p) 0 < 0:=by simpa using hc
       rcases hok.val _ (hlt k) with h | h
       · exact h
       · omega
     (try simp only [go_sem,simprocAttr,zb4,zb6,cell_of ha3,b1,d0]);refine ir_cond rfl (fun hi=>?_) (fun hi=>?_)
     · have hi':ind ns (fit (nxt ns) k p)=false:=by simpa [ind] using hi
       (try simp only [go_sem,simprocAttr,zb4,zb6,cell_of hb3,b1]);refine e_st1 (off:=fit (nxt ns) k p) rfl rfl hbo rfl (by simp;rw [hok.len];exact hlt k) ?_;intro w4 hb4 hm4 hs4;rw [map_set] at hb4;have hovk:over ns (fit (nxt ns) k p)=fit (nxt ns) k p:=ov_fix (nxt_fix hi');have hokk:OfOk ns (l.set (fit (nxt ns) k p) (fit (nxt ns) k p:Nat)) R:=by
         have:=ofOk_set hw hok (hlt k) (hlt k) rfl (.inr (by rw [hovk];exact hi'))
         rwa [hovk] at this
       have hne:bo≠br:=fun hh=>by rw [hh,hrs] at hb;cases hb
       (try simp only [go_sem,simprocAttr]);refine ⟨k,fit (nxt ns) k p,_,R,_,fp,hk,hlt k,hokk,?_,hov,(fun h=>by subst h;rfl),fun i hi2 h=>?_,hb4,map_mod hbr hm4 (fun hh=>hne hh.symm),(hm3.weak (fun _ h=>h.elim)).step hm4 (fun x hx _=>.inl hx),hm4.at hb3 (fun hh=>by omega),how.mod hm4 (fun b hb hh=>by have:=hfp b hb;have:=hm1.size;omega),fun b hb=>by have:=hfp b hb;omega,rfl,rfl⟩
       · rw [getD_set _ _ _ _ (by rw [hok.len];exact hlt k),if_pos rfl,← hov,hovk]
       · rw [getD_set _ _ _ _ (by rw [hok.len];exact hlt k)]
         split
         · omega
         · exact h
     · have hi':ind ns (fit (nxt ns) k p)=true:=by simpa [ind] using hi
       obtain ⟨q',hq',haq,hnx⟩:=wf_ind hw (hlt k) hi';by_cases hseen:∃ j,j < k∧fit (nxt ns) j p=fit (nxt ns) k p
       · obtain ⟨j,hjk,hje⟩:=hseen;have hget:lget (wayMap (fun i=>fit (nxt ns) i p) k) (fit (nxt ns) k p:Nat)=some (j:Int):=by
           rw [← hje];exact wayMap_some k hdist j hjk
         (try simp only [go_sem,simprocAttr]);refine e_lk (t:=200) (kt:=3) (et:=3) rfl rfl Tryz.underlying200 Tryz.underlying3 (Tryz.zeroValue3 _) hmap ?_;rw [hget];have b2:(0:Int)≤j∧(j:Int)≤k:=by omega
         have hwl:=wayL_len (fun i=>fit (nxt ns) i p) k;(try simp only [go_sem,simprocAttr,zb4,zb6,Option.getD_some,Option.isSome_some,b2]);have hdrop:=own_drop (xs:=wayL (fun i=>fit (nxt ns) i p) k) (a:=va) (c:=vc) (j:=j) (by rw [hwl];exact how) (by rw [hwl];exact hjk) (by rw [hwl];omega);rw [hwl] at hdrop;have hdne:(wayL (fun i=>fit (nxt ns) i p) k).drop j≠[]:=fun hh=>by
           have:=congrArg List.length hh;rw [List.length_drop,hwl] at this;simp at this;omega
         refine e_call (by rfl) ?_;refine (one_ok _ _ _ w3 hdrop hdne).mono ?_;rintro q _ ⟨⟨mm,rfl,hmin⟩,rfl⟩;have hmo:mm=(over ns p:Nat):=ring_min hf hp hjk hje.symm hmin;have hol:over ns p < ns.length:=ov_lt hf hp;have hoo:over ns (over ns p)=over ns p:=ov_ov hf hp;have hoi:ind ns (over ns p)=true:=by
           have h1:=List.mem_of_mem_drop hmin.1;obtain ⟨i,hi3,hi4⟩:=List.mem_map.1 h1;have hi5:=List.mem_range.1 hi3;have hi6:((fit (nxt ns) i p:Nat):Int)=mm:=hi4;have:over ns p=fit (nxt ns) i p:=by rw [hmo] at hi6;omega
           rw [this];exact (hway i hi5).1
         subst hmo;(try simp only [go_sem,simprocAttr,cell_of hb3]);refine e_mu (t:=200) (kt:=3) (et:=3) rfl rfl rfl Tryz.underlying200 Tryz.underlying3 hbr ?_;intro w4 hbr4 hm4 hs4;have hne:bo≠br:=fun hh=>by rw [hh,hrs] at hb;cases hb
         have hbo4:=hm4.at hbo hne;have hb4:=hm4.at hb3 (fun hh=>by omega);have b3:(0:Int)≤(over ns p:Nat)∧((over ns p:Nat):Int) < ns.length:=by omega
         (try simp only [go_sem,simprocAttr,zb4,zb6,cell_of hb4,b3]);refine e_st1 (off:=over ns p) rfl rfl hbo4 rfl (by simp;rw [hok.len];exact hol) ?_;intro w5 hb5 hm5 hs5;rw [map_set] at hb5;(try simp only [go_sem,simprocAttr]);have s1:=hm1.size;have s3:=hm3.size;have hm45:Mod (fun x=>x=bo∨x=br) w3 w5:=(hm4.weak (S':=fun x=>x=bo∨x=br) (fun x hx=>.inr hx)).step hm5 (fun x hx _=>.inl hx);refine ⟨k,over ns p,_,_,_,fp,hk,hol,ofOk_ring hw hok hol hoo hoi,?_,hoo,(fun h=>by omega),fun i hi2 h=>?_,hb5,map_mod hbr4 hm5 (fun hh=>hne hh.symm),(hm3.weak (fun _ h=>h.elim)).trans hm45,hm45.at hb3 (fun hh=>by omega),how.mod hm45 (fun b hb hh=>by have:=hfp b hb;omega),fun b hb=>by have:=hfp b hb;omega,rfl,rfl⟩
         · rw [getD_set _ _ _ _ (by rw [hok.len];exact hol),if_pos rfl]
         · rw [getD_set _ _ _ _ (by rw [hok.len];exact hol)]
           split
           · omega
           · exact h
       · have hnone:=wayMap_none (g:=fun i=>fit (nxt ns) i p) (k:=k) (c:=fit (nxt ns) k p) (fun j hj hh=>hseen ⟨j,hj,hh⟩);(try simp only [go_sem,simprocAttr]);refine e_lk (t:=200) (kt:=3) (et:=3) rfl rfl Tryz.underlying200 Tryz.underlying3 (Tryz.zeroValue3 _) hmap ?_;rw [hnone.1];(try simp only [go_sem,simprocAttr,zb4,zb6,Option.getD_none,Option.isSome_none]);refine e_mu (t:=200) (kt:=3) (et:=3) rfl rfl rfl Tryz.underlying200 Tryz.underlying3 hmap ?_;intro w4 hmap4 hm4 hs4;rw [hnone.2,← wayMap_succ (fun i=>fit (nxt ns) i p) k] at hmap4;have s1:=hm1.size;have s3:=hm3.size;have lm:=(by obtain ⟨es,c,h,_⟩:=hmap;exact lt_of_heap h:w1.heap.size < w3.heap.size);have hm04:Mod (fun _=>False) w w4:=hm3.step hm4 (fun x hx hlt=>by omega);have hb4:=hm4.at hb3 (fun hh=>by omega);have how4:=how.mod hm4 (fun b hb hh=>by have:=hfp b hb;omega);(try simp only [go_sem,simprocAttr]);refine e_bs (by rfl) (by (try simp only [go_sem,simprocAttr]);rfl) ?_;intro w5 hb5 hm5 hs5;have how5:=how4.mod hm5 (fun _ _ h=>h);(try simp only [go_sem,simprocAttr]);refine e_ap (m:=1) (news:=[I (fit (nxt ns) k p:Nat)]) rfl how5 rfl (fun h=>by cases h) (rd_block hb5) (by simp [Value.oneCell']) rfl (by omega) (by omega) ?_;intro v6 w6 fp6 ho6 hm6 hf6;obtain ⟨va6,vc6,rfl,_,_⟩:=ho6.val;have s4:=hm4.size;have s5:=hm5.size;have s6:=hm6.size;have hm06:Mod (fun _=>False) w w6:=(hm04.trans hm5).step hm6 (fun x hx hlt=>by have:=hfp x hx;omega);have ha6:=hm06.at ha (fun h=>h);obtain ⟨bc',cc',nv',ecv,e0,e1,e2,ex,eb,_⟩:=from_at (hfr.mod hm06 (fun _ _ h=>h)) hargs (hlt k);cases ecv;obtain ⟨xa,xc,rfl,_,_⟩:=id ex;obtain ⟨ad,rfl,had⟩:=leads' ex haq;have hl1:(ndAt ns (fit (nxt ns) k p)).args.length=1:=by rw [haq];rfl
         have z3:(0:Int)≤0∧(0:Int) < ((1:Nat):Int):=by omega
         (try simp only [go_sem,simprocAttr,zb4,zb6,cell_of ha6,b1,e2,hl1,z3,had]);have hk1:k+1≤ns.length:=by
           have hnd:((List.range (k+1)).map (fun i=>fit (nxt ns) i p)).Nodup:=by
             rw [List.range_succ,List.map_append,List.nodup_append];refine ⟨?_,by simp,fun x hx y hy hxy=>?_⟩
             · unfold List.Nodup;rw [List.pairwise_map];refine List.Pairwise.imp_of_mem ?_ (List.nodup_range (n:=k));intro i j hi hj hij hh;exact hij (hdist i j (List.mem_range.1 hi) (List.mem_range.1 hj) hh)
             · obtain ⟨i,hi,rfl⟩:=List.mem_map.1 hx;simp at hy;exact hseen ⟨i,List.mem_range.1 hi,by rw [hxy,hy]⟩
           have:=nodup_le ns.length _ hnd (fun x hx=>by obtain ⟨i,_,rfl⟩:=List.mem_map.1 hx;exact hlt i)
           simpa using this
         have hfpne:∀ b,fp=some b→w1.heap.size < b:=hfp;have hb6:=hm6.at (hm5.at hb4 (fun h=>h)) (fun hh=>by have:=hfp _ hh;omega);have hmap6:=map_mod (map_mod hmap4 hm5 (fun h=>h)) hm6 (fun hh=>by have:=hfp _ hh;omega);refine ⟨_,?_,k+1,.slice va6 (k+1) vc6,fp6,rfl,hk1,fun j hj=>?_,fun i j hi hj hij=>?_,hm06,hb6,hmap6,?_,fun b hb=>?_,?_⟩
         · omega
         · rcases Nat.lt_or_ge j k with h | h
           · exact hway j h
           · obtain rfl:j=k:=by omega
             exact ⟨hi',hc'⟩
         · rcases Nat.lt_or_ge i k with h1 | h1
           · rcases Nat.lt_or_ge j k with h2 | h2
             · exact hdist i j h1 h2 hij
             · obtain rfl:j=k:=by omega
               exact absurd ⟨i,h1,hij⟩ hseen
           · obtain rfl:i=k:=by omega
             rcases Nat.lt_or_ge j i with h2 | h2
             · exact absurd ⟨j,h2,hij.symm⟩ hseen
             · omega
         · rw [wayL_succ,List.map_append];exact ho6
         · rcases hf6 b hb with h | h
           · exact hfp b h
           · omega
         · rw [fit_succ,hnx]
   · have hc':l.getD (fit (nxt ns) k p) 0 ≠ -1:=fun h=>by rw [h] at hc;simp at hc
     (try simp only [go_sem,simprocAttr]);refine ⟨k,fit (nxt ns) k p,l,R,_,fp,hk,hlt k,hok,?_,hov,(fun h=>by subst h;rfl),fun i _ h=>h,hbo,hbr,hm3.weak (fun _ h=>h.elim),hb3,how,fun b hb=>by have:=hfp b hb;omega,rfl,rfl⟩;rcases hok.val _ (hlt k) with h | h
     · exact absurd h hc'
     · rw [h,hov]
 · rintro ρ w3 ⟨k,pf,l1,R1,v,fp,hk,hpf,hok1,hval,hov,hk0,hmono,hbo,hbr,hm,hb3,how,hfp,r1,r5,r7⟩;obtain ⟨va,vc,rfl,_,_⟩:=how.val;(try simp only [go_sem,simprocAttr,r1,r5,r7]);have lbo:=lt_of_heap hbo;have s1:=hm1.size
   refine ir_loop (fun m ρ w'=>∃ (t:Nat) (l2:List Int),m=k - t∧t≤k∧OfOk ns l2 R1∧l2.getD pf 0=over ns p∧(∀ j,j < t→l2.getD (fit (nxt ns) j p) 0=over ns p)∧(∀ i,i < ns.length→l1.getD i 0 ≠ -1→l2.getD i 0 ≠ -1) ∧
       w'.heap[bo]? = some (.cells (l2.map I).toArray 3 (0,0))∧Mod (fun x=>x=bo) w3 w' ∧
       ρ=[(1,I pf),(5,.pointer (some ⟨w.heap.size,0,none⟩)),(71,.slice va k vc),(72,I k),(73,I t)]) k
     ⟨0,l1,rfl,Nat.zero_le _,hok1,hval,(fun j hj=>by omega),(fun i _ h=>h),hbo,Mod.refl _ _,rfl⟩ ?_
   rintro m ρ w4 ⟨t,l2,rfl,ht,hok2,hval2,hset,hmono2,hbo4,hm4,rfl⟩;unfold ir205L2;have hne:bo≠br:=fun hh=>by rw [hh,hrs] at hb;cases hb
   have how4:=how.mod hm4 (fun b hb' hh=>by have:=hfp b hb';omega);have hb4:=hm4.at hb3 (fun hh=>by omega);(try simp only [go_sem,simprocAttr]);refine ir_cond rfl (fun hc=>?_) (fun hc=>?_)
   · have htk:t < k:=by simpa using hc
     have b1:(0:Int)≤t∧(t:Int) < k:=by omega
     obtain ⟨bw,cw,ew,tw⟩:=own_at' how4 htk (u:=I (fit (nxt ns) t p:Nat)) (by simp [wayL,htk]);cases ew;have hwk:IntKind.i64.wrap ((t:Int)+1)=((t+1:Nat):Int):=by rw [wrap_in]<;>omega
     have b2:(0:Int)≤(fit (nxt ns) t p:Nat)∧((fit (nxt ns) t p:Nat):Int) < ns.length:=by have:=hlt t;omega
     have b3:(0:Int)≤(pf:Nat)∧((pf:Nat):Int) < ns.length:=by omega
     have hxp:=ints_at hbo4 (i:=pf) (by rw [hok2.len];exact hpf);have hwd:Mod (fun _=>False) w4 w4.drew:=⟨Nat.le_refl _,fun _ _ _=>rfl,rfl,rfl,rfl⟩;(try simp only [go_sem,simprocAttr,zb4,zb6,b1,tw,cell_of hb4,b2,b3,hxp]);refine e_st1 (off:=fit (nxt ns) t p) rfl rfl (hwd.at hbo4 (fun h=>h)) rfl (by simp;rw [hok2.len];exact hlt t) ?_;intro w5 hb5 hm5 hs5;rw [map_set,hval2] at hb5;(try simp only [go_sem,simprocAttr,hwk]);have hovt:over ns (fit (nxt ns) t p)=over ns p:=ov_fit hf hp t;have hset1:OfOk ns (l2.set (fit (nxt ns) t p) (over ns p:Nat)) R1:=by
       have:=ofOk_set hw hok2 (hlt t) hpf (by rw [hovt,hov]) (.inl (by rw [hval2];omega))
       rwa [hov] at this
     have hql:fit (nxt ns) t p < l2.length:=by rw [hok2.len];exact hlt t
     refine ⟨_,?_,t+1,_,rfl,htk,hset1,?_,fun j hj=>?_,fun i hi h=>?_,hb5,hm4.trans ((hwd.weak (fun _ h=>h.elim)).step hm5 (fun x hx _=>hx)),rfl⟩
     · omega
     · rw [getD_set _ _ _ _ hql]
       split
       · rfl
       · exact hval2
     · rw [getD_set _ _ _ _ hql]
       split
       · rfl
       · rename_i hne2;rcases Nat.lt_or_ge j t with h | h
         · exact hset j h
         · obtain rfl:j=t:=by omega
           exact absurd rfl hne2
     · rw [getD_set _ _ _ _ hql]
       split
       · omega
       · exact hmono2 i hi h
   · have htk:t=k:=by simp at hc;omega
     subst htk;(try simp only [go_sem,simprocAttr]);refine ⟨l2,R1,hok2,?_,fun i hi h=>hmono2 i hi (hmono i hi h),hbo4,map_mod hbr hm4 (fun hh=>hne hh.symm),hm.step hm4 (fun x hx _=>.inl hx)⟩;rcases Nat.eq_zero_or_pos t with h0 | h0
     · have e:=hk0 h0;rw [e] at hval2;exact hval2
     · exact hset 0 h0
end
section
open Go Go.W
structure Things (w:World) (bo br:Nat) (ns:List Nd) (R:List (Int×Int)):Prop where
 of:w.heap[bo]? = some (.cells (((List.range ns.length).map fun i=>(over ns i:Int)).map I).toArray 3 (0,0))
 ring:MapAt w br R
 nd:(R.map (fun q=>q.1)).Nodup
 keys:∀ k:Int,k∈R.map (fun q=>q.1)↔∃ i,i < ns.length∧k=over ns i∧ind ns (over ns i)=true
theorem over_list {ns:List Nd} {l:List Int} (hl:l.length=ns.length) (h:∀ i,i < ns.length→l.getD i 0=over ns i):l=(List.range ns.length).map fun i=>(over ns i:Int):=by
 apply List.ext_getElem?;intro i;by_cases hi:i < ns.length
 · have:=h i hi;rw [List.getD_eq_getElem?_getD,List.getElem?_eq_getElem (by omega)] at this;rw [List.getElem?_eq_getElem (by omega),List.getElem?_map,List.getElem?_range hi]
   simpa using this
 · rw [List.getElem?_eq_none (by omega),List.getElem?_eq_none (by simp;omega)]
theorem gpassed_ok (ns:List Nd) (hw:WF ns) (hn:ns.length≤1048576) (w:World) (a:Nat) (c0 c1 cv c3 c4 c5:Value) (F:Nat→Prop) (ha:w.heap[a]? = some (.cells #[c0,c1,cv,c3,c4,c5] 202 (0,0))) (hfr:FromAt 104 w cv ns F) :
   CallsR Tryz.prog 199 [.pointer (some ⟨a,0,none⟩)] w fun r w'=>∃ bo br R,r = .agg #[.slice (some ⟨bo,0,none⟩) ns.length ns.length,.map (some br)]∧Things w' bo br ns R∧w.heap.size≤bo∧w.heap.size≤br∧bo≠br∧Mod (fun _=>False) w w':=by
 obtain ⟨_,_,hown,_,_,_,hFl⟩:=id hfr;obtain ⟨ca,cc,rfl,_,_⟩:=hown.val;refine fit199.calls rfl ?_;unfold ir199;(try simp only [go_sem,simprocAttr]);refine e_al ?_;intro w1 hb1 hm1 hs1;have hb1:w1.heap[w.heap.size]? = some (.cells #[.slice none 0 0,.map none] 246 (0,0)):=hb1;have ha1:=hm1.at ha (fun h=>h);(try simp only [go_sem,simprocAttr,cell_of ha1]);refine e_ms1 (n:=ns.length) rfl (by omega) (by omega) ?_;intro w2 hb2 hm2 hs2;have hb2:w2.heap[w1.heap.size]? = some (.cells ((List.replicate ns.length (0:Int)).map I).toArray 3 (0,0)):=by simpa using hb2
 (try simp only [go_sem,simprocAttr]);refine e_mm ?_;intro w3 hb3 hm3 hs3;(try simp only [go_sem,simprocAttr]);refine e_al ?_;intro w4 hb4 hm4 hs4;have hb4:w4.heap[w3.heap.size]? = some (.cells #[.slice none 0 0,.map none] 246 (0,0)):=hb4;(try simp only [go_sem,simprocAttr]);refine e_sta rfl rfl hb4 rfl rfl (by simp [Value.oneCell']) ?_;intro w5 hb5 hm5 hs5;have s1:=hm1.size;have s2:=hm2.size;have s3:=hm3.size;have s4:=hm4.size;have l2:=lt_of_heap hb2;have hm25:Mod (fun _=>False) w2 w5:=(hm3.trans hm4).step hm5 (fun x hx hlt=>by omega);have hm05:Mod (fun _=>False) w w5:=(hm1.trans hm2).trans hm25;have hb25:=hm25.at hb2 (fun h=>h);have hmap5:MapAt w5 w2.heap.size []:=map_mod (map_mod hb3 hm4 (fun h=>h)) hm5 (by omega);have hb15:=(hm2.trans hm25).at hb1 (fun h=>h);(try simp only [go_sem,simprocAttr,cell_of hb5])
 refine ir_loop (fun m ρ w'=>∃ k:Nat,m=ns.length - k∧k≤ns.length∧w'.heap[w1.heap.size]? = some (.cells ((List.replicate k (-1:Int)++List.replicate (ns.length - k) 0).map I).toArray 3 (0,0))∧Mod (fun x=>x=w1.heap.size) w5 w'∧w'.heap.size=w5.heap.size ∧
     ρ=[(0,.pointer (some ⟨a,0,none⟩)),(2,.pointer (some ⟨w.heap.size,0,none⟩)),(3,.pointer (some ⟨w3.heap.size,0,none⟩)),(16,I ns.length),(17,I k)]) ns.length
   ⟨0,rfl,Nat.zero_le _,by simpa using hb25,Mod.refl _ _,rfl,rfl⟩ ?_
 rintro m ρ w6 ⟨k,rfl,hk,hb6,hm6,hs6,rfl⟩;have hb56:=hm6.at hb5 (by omega);unfold ir199L1;(try simp only [go_sem,simprocAttr]);refine ir_cond rfl (fun hc=>?_) (fun hc=>?_)
 · have hk':k < ns.length:=by simpa using hc
   have b1:(0:Int)≤k∧(k:Int) < ns.length:=by omega
   have hwk:IntKind.i64.wrap ((k:Int)+1)=((k+1:Nat):Int):=by rw [wrap_in]<;>omega
   (try simp only [go_sem,simprocAttr,zb4,zb6,cell_of hb56,b1]);refine e_st1 (off:=k) rfl rfl hb6 rfl (by simp;omega) ?_;intro w7 hb7 hm7 hs7;rw [map_set] at hb7;(try simp only [go_sem,simprocAttr,hwk]);refine ⟨_,?_,k+1,rfl,hk',?_,hm6.trans hm7,by omega,rfl⟩
   · omega
   · have e:(List.replicate k (-1:Int)++List.replicate (ns.length - k) 0).set k (-1)=List.replicate (k+1) (-1)++List.replicate (ns.length - (k+1)) 0:=by
       rw [List.set_append,if_neg (by simp),List.length_replicate,Nat.sub_self,show ns.length - k=(ns.length - (k+1))+1 by omega,List.replicate_succ,List.set_cons_zero,List.replicate_succ' (n:=k)];simp
     rw [e] at hb7;exact hb7
 have hk':k=ns.length:=by simp at hc;omega
 subst hk';rw [Nat.sub_self,List.replicate_zero,List.append_nil] at hb6;have hmap6:=map_mod hmap5 hm6 (by omega);have hm06:Mod (fun _=>False) w w6:=hm05.step hm6 (fun x hx hlt=>by omega);have ha6:=hm06.at ha (fun h=>h);have hok0:OfOk ns (List.replicate ns.length (-1)) []:=by
   refine ⟨by simp,fun i hi=>.inl (by simp [List.getElem?_replicate,hi]),by simp,fun k=>⟨fun h=>by simp at h,fun ⟨i,h1,_,h3,_⟩=>absurd (by simp [List.getElem?_replicate,h1]) h3⟩⟩
 (try simp only [go_sem,simprocAttr,cell_of ha6])
 refine ir_loop (fun m ρ w'=>∃ (k:Nat) (l:List Int) (R:List (Int×Int)),m=ns.length - k∧k≤ns.length∧OfOk ns l R∧(∀ i,i < k→l.getD i 0=over ns i)∧w'.heap[w1.heap.size]? = some (.cells (l.map I).toArray 3 (0,0))∧MapAt w' w2.heap.size R ∧
     Mod (fun x=>x=w1.heap.size∨x=w2.heap.size) w6 w' ∧
     ρ=[(0,.pointer (some ⟨a,0,none⟩)),(2,.pointer (some ⟨w.heap.size,0,none⟩)),(3,.pointer (some ⟨w3.heap.size,0,none⟩)),(29,I ns.length),(30,I k)]) ns.length
   ⟨0,_,[],rfl,Nat.zero_le _,hok0,(fun i hi=>by omega),hb6,hmap6,Mod.refl _ _,rfl⟩ ?_
 rintro m ρ w7 ⟨k,l,R,rfl,hk,hok,hall,hb7,hmap7,hm7,rfl⟩;have hb57:=hm7.at hb56 (by omega);have hm07:Mod (fun _=>False) w w7:=hm06.step hm7 (fun x hx hlt=>by omega);unfold ir199L2;(try simp only [go_sem,simprocAttr]);refine ir_cond rfl (fun hc=>?_) (fun hc=>?_)
 · have hk':k < ns.length:=by simpa using hc
   have hwk:IntKind.i64.wrap ((k:Int)+1)=((k+1:Nat):Int):=by rw [wrap_in]<;>omega
   (try simp only [go_sem,simprocAttr,ln_of hb57 (off:=0) (n:=2) (by simp)]);refine e_call (by rfl) ?_;refine (gpass_ok ns hw hn w7 a w1.heap.size w2.heap.size c0 c1 _ c3 c4 c5 l R F (hm07.at ha (fun h=>h)) (hfr.mod hm07 (fun _ _ h=>h)) hb7 hmap7 hok (fun x hx=>by have:=hFl x hx;omega) k hk').mono ?_;rintro q w8 ⟨l8,R8,hok8,hv8,hmono8,hb8,hmap8,hm8⟩;(try simp only [go_sem,simprocAttr,hwk]);refine ⟨_,?_,k+1,l8,R8,rfl,hk',hok8,fun i hi=>?_,hb8,hmap8,hm7.trans hm8,rfl⟩
   · omega
   · rcases Nat.lt_or_ge i k with h | h
     · rcases hok8.val i (by omega) with h2 | h2
       · exact absurd h2 (hmono8 i (by omega) (by rw [hall i h];omega))
       · exact h2
     · obtain rfl:i=k:=by omega
       exact hv8
 · have hk':k=ns.length:=by simp at hc;omega
   subst hk';have el:=over_list hok.len hall;have hb17:=(hm6.weak (S':=fun x=>x=w1.heap.size∨x=w2.heap.size) (fun x hx=>.inl hx)).trans hm7 |>.at hb15 (by omega);(try simp only [go_sem,simprocAttr,ln_of hb57 (off:=0) (n:=2) (by simp)]);refine e_sta rfl rfl hb17 rfl rfl (by simp [Value.oneCell']) ?_;intro w8 hb8 hm8 hs8;(try simp only [go_sem,simprocAttr,ln_of hb8 (off:=0) (n:=2) (by simp)]);refine ⟨_,_,R,rfl,⟨?_,map_mod hmap7 hm8 (by omega),hok.nd,fun k=>?_⟩,by omega,by omega,by omega,hm07.step hm8 (fun x hx hlt=>by omega)⟩
   · rw [← el];exact hm8.at hb7 (by omega)
   · rw [hok.ring];exact ⟨fun ⟨i,h1,h2,_,h4⟩=>⟨i,h1,h2,h4⟩,fun ⟨i,h1,h2,h4⟩=>⟨i,h1,h2,by rw [hall i h1];omega,h4⟩⟩
end
section
open Go Go.W
def meetF (ns:List Nd) (fr:Nat) (out:List Nat) (p:Nat):List Nat:=if over ns p < fr∨over ns p∈out then out else out++[over ns p]
def meetsF (ns:List Nd) (fr:Nat) (out:List Nat) (l:List Int):List Nat:=l.foldl (fun o (p:Int)=>meetF ns fr o p.toNat) out
def numF (ns:List Nd) (fr:Nat) (out:List Nat) (p:Int):Int:=if over ns p.toNat < fr then over ns p.toNat else (fr+out.idxOf (over ns p.toNat):Nat)
def reachF (ns:List Nd) (fr:Nat):Nat→Nat→List Nat→List Nat
 | 0,_,out=>out
 | f+1,i,out=>match out[i]? with
   | some x=>reachF ns fr f (i+1) (meetsF ns fr out (ndAt ns x).args)
   | none=>out
def MetF (ns:List Nd) (fr:Nat) (out:List Nat):Prop:=out.Nodup∧∀ x∈out,x < ns.length∧over ns x=x∧fr≤x
theorem metF_nil (ns:List Nd) (fr:Nat):MetF ns fr []:=⟨List.nodup_nil,fun x h=>by cases h⟩
theorem metF_len {ns:List Nd} {fr:Nat} {out:List Nat} (h:MetF ns fr out):out.length≤ns.length:=nodup_le _ _ h.1 (fun x hx=>(h.2 x hx).1)
theorem metF_meet {ns:List Nd} (hw:WF ns) {fr:Nat} {out:List Nat} (h:MetF ns fr out) {p:Nat} (hp:p < ns.length):MetF ns fr (meetF ns fr out p):=by
 unfold meetF
 split
 · exact h
 · rename_i hn;refine ⟨?_,?_⟩
   · rw [List.nodup_append];refine ⟨h.1,by simp,?_⟩;intro a ha b hb hab;simp at hb;exact hn (.inr (hb ▸ hab ▸ ha))
   · intro x hx;rcases List.mem_append.1 hx with hx | hx
     · exact h.2 x hx
     · simp at hx;subst hx;exact ⟨ov_lt (wf_nxt_lt hw) hp,ov_ov (wf_nxt_lt hw) hp,by omega⟩
theorem meetF_pre (ns:List Nd) (fr:Nat) (out:List Nat) (p:Nat):out <+: meetF ns fr out p:=by
 unfold meetF;split
 · exact List.prefix_rfl
 · exact List.prefix_append _ _
theorem meetsF_pre (ns:List Nd) (fr:Nat) (l:List Int):∀ out,out <+: meetsF ns fr out l:=by
 induction l with
 | nil=>intro out;exact List.prefix_rfl
 | cons a l ih=>intro out;exact (meetF_pre ns fr out a.toNat).trans (ih _)
theorem reachF_pre (ns:List Nd) (fr:Nat):∀ f i out,out <+: reachF ns fr f i out:=by
 intro f
 induction f with
 | zero=>intro i out;exact List.prefix_rfl
 | succ f ih=>
   intro i out;unfold reachF
   split
   · exact (meetsF_pre ns fr _ _).trans (ih _ _)
   · exact List.prefix_rfl
theorem reachF_end (ns:List Nd) (fr f i:Nat) (out:List Nat) (h:out.length≤i):reachF ns fr f i out=out:=by
 cases f with
 | zero=>rfl
 | succ f=>simp [reachF,List.getElem?_eq_none h]
theorem reachF_step (ns:List Nd) (fr f i:Nat) (out:List Nat) (h:i < out.length):reachF ns fr (f+1) i out=reachF ns fr f (i+1) (meetsF ns fr out (ndAt ns out[i]).args):=by
 simp [reachF,h]
theorem metF_meets {ns:List Nd} (hw:WF ns) {fr:Nat}:∀ (l:List Int) {out:List Nat},MetF ns fr out→okPl ns.length l=true→MetF ns fr (meetsF ns fr out l):=by
 intro l
 induction l with
 | nil=>intro out h _;exact h
 | cons a l ih=>
   intro out h ho;simp only [okPl,List.all_cons,Bool.and_eq_true,decide_eq_true_eq] at ho;exact ih (metF_meet hw h (by omega)) (by simpa [okPl] using ho.2)
theorem memF_meet (ns:List Nd) (fr:Nat) (out:List Nat) (p:Nat) (h:fr≤over ns p):over ns p∈meetF ns fr out p:=by
 unfold meetF;split
 · rename_i hh;exact hh.resolve_left (by omega)
 · simp
theorem numF_pre {ns:List Nd} {fr:Nat} {a b:List Nat} (h:a <+: b) {p:Int} (hx:over ns p.toNat < fr∨over ns p.toNat∈a):numF ns fr b p=numF ns fr a p:=by
 unfold numF
 split
 · rfl
 · rename_i hn;rw [idx_pre h (hx.resolve_left hn)]
theorem metF_in (ns:List Nd) (fr:Nat) (out:List Nat) (p:Nat):over ns p < fr∨over ns p∈meetF ns fr out p:=by
 rcases Nat.lt_or_ge (over ns p) fr with h | h
 · exact .inl h
 · exact .inr (memF_meet ns fr out p h)
theorem numF_meet {ns:List Nd} {fr:Nat} {out:List Nat} {p:Nat} (hn:¬ over ns p < fr) (hno:over ns p∉out):numF ns fr (meetF ns fr out p) p=(fr+out.length:Nat):=by
 unfold numF meetF;rw [Int.toNat_natCast,if_neg hn,if_neg (by simp [hn,hno]),List.idxOf_append,if_neg hno];simp
theorem meetsF_cons (ns:List Nd) (fr:Nat) (out:List Nat) (a:Int) (l:List Int):meetsF ns fr out (a::l)=meetsF ns fr (meetF ns fr out a.toNat) l:=rfl
theorem meetsF_take (ns:List Nd) (fr:Nat) (l:List Int) (out:List Nat) {k:Nat} {a:Int} (h:l[k]? = some a):meetsF ns fr out (l.take (k+1))=meetF ns fr (meetsF ns fr out (l.take k)) a.toNat:=by
 obtain ⟨hk,rfl⟩:=List.getElem?_eq_some_iff.1 h;rw [List.take_succ_eq_append_getElem hk];unfold meetsF;rw [List.foldl_append];rfl
theorem meetsF_in (ns:List Nd) (fr:Nat):∀ (l:List Int) (out:List Nat) (a:Int),a∈l→over ns a.toNat < fr∨over ns a.toNat∈meetsF ns fr out l:=by
 intro l
 induction l with
 | nil=>intro out a h;cases h
 | cons b l ih=>
   intro out a h;rw [meetsF_cons];rcases List.mem_cons.1 h with rfl | h
   · exact (metF_in ns fr out a.toNat).imp (fun h=>h) (fun h=>(meetsF_pre ns fr l _).subset h)
   · exact ih _ a h
end
end Go.Proofs.YtnjobkbblhaliaaGreatDoor