/- Texts that the last file stands on: IRA, S2, H1, H2, P1, H3, H4, P2, H5, P3, H6, H7, G1, G2, G3, G4, G5, G6, G7, P10. -/
import Derived.Test.YtnjobkbblhaliaaGreatDoorZTA
import Derived.KernelRfl
set_option linter.unusedSimpArgs false
set_option linter.unusedVariables false
set_option maxRecDepth 100000
namespace Go.Proofs.YtnjobkbblhaliaaGreatDoor
section
open Go Go.W Go.W.Z
def JG:IR:=z [] [0] <| .seq (z [.r (some 4) (.eq .slice false (.t 0) (.c (.slice none 0 0)))] [0,4] <| j 4 (z [.r (some 2) (.mv (.c (.slice none 0 0)))] [2] <| .ret) (.skip)) <| z [.e (some 5) (.raw ⟨(some 5),(.buildSlice 26 0 #[]),26, "slices.go:362",#[],none⟩),m 6 0,.e (some 7) (.ap 3 1 8 #[(i 0)] (.t 5) (.t 6)),m 2 7] [2] <| .ret
theorem abH:Fits Tryz.prog 39 1 (bf Tryz.f39 JG) JG [.t 2] 8:=.m Tryz.f39 _
def JH:IR:=z [] [0,1] <| z [c 7 102 [0,1],bk 8 .geq 7 0,m 4 8] [4] <| .ret
theorem abI:Fits Tryz.prog 70 2 (bf Tryz.f70 JH) JH [.t 4] 9:=.m Tryz.f70 _
def Ru:IR:=z [bi 9 .lss 8 7] [0,1,7,8,9] <| .seq (j 9 (.skip) ((.exit 0))) <| .seq (.block 1 (z [m 5 8] [0,1,5,7,8] <| z [m 11 1,m 12 0,m 13 5,ia 14 1 12 13,l 15 14,.e (some 16) (.raw ⟨(some 16),(.call { callee:=(.value (.tmp 11)),args:=#[(.tmp 15)],argTypes:=#[3]}),4, "slices.go:109",#[⟨0,.data⟩,⟨4,.data⟩],none⟩)] [0,1,5,7,8,16] <| j 16 (z [m 4 5] [4] <| .ret) (.skip))) <| q [bk 18 .add 8 1,m 8 18] [0,1,7,8]
def JI:IR:=z [] [0,1] <| .seq (z [le 7 0,mk 8 0] [0,1,7,8] <| .block 0 (.loop Ru)) <| z [mk 4 (-1)] [4] <| .ret
theorem abJ:Fits Tryz.prog 102 2 (bf Tryz.f102 JI) JI [.t 4] 19:=.m Tryz.f102 _
def JJ:IR:=z [] [0,1] <| .seq (z [bk 7 .lss 0 1,m' 7 false 9 0,di 7 false 10 .gtr 9 1048576,u 11 7 10,m' 11 false 13 1,di 11 false 14 .lss 13 1,u 15 11 14,m' 15 false 17 1,m' 15 false 18 0,gJ 15 false 19 .gtr 17 18,u 20 15 19] [0,1,20] <| j 20 (z [.r (some 4) (.mv (.c (.pointer none))),mk 5 210] [4,5] <| .ret) (.skip)) <| z [m 21 0,m 22 1,.e (some 23) (.raw ⟨(some 23),(.makeMap 200 none),200, "gens.go:25",#[],none⟩),.r (some 24) (.bd #[(i 0),(i 0),(.slice none 0 0),(i 0),(.map none),(i 0)] [(0,1,(.t 21)),(1,1,(.t 22)),(4,1,(.t 23))]),.e (some 25) (.bx 202 (.t 24)),m 4 25,mk 5 0] [4,5] <| .ret
theorem abK:Fits Tryz.prog 107 2 (bf Tryz.f107 JJ) JJ [.t 4,.t 5] 26:=.m Tryz.f107 _
def JK:IR:=z [] [0] <| .seq (z [bk 5 .lss 0 1,m' 5 false 7 0,di 5 false 8 .gtr 7 1048576,u 9 5 8] [0,9] <| j 9 (z [.r (some 2) (.mv (.c (.pointer none))),mk 3 200] [2,3] <| .ret) (.skip)) <| z [.r (some 11) (.bd #[(i 0),(.slice none 0 0),(i 0)] [(0,1,(.t 0))]),.e (some 12) (.bx 205 (.t 11)),m 2 12,mk 3 0] [2,3] <| .ret
theorem abL:Fits Tryz.prog 108 1 (bf Tryz.f108 JK) JK [.t 2,.t 3] 13:=.m Tryz.f108 _
def JL:IR:=z [.e (some 3) (.bx 104 (.t 1))] [0,3] <| .seq (.block 0 (z [ln 7 3 3,c 8 193 [7],no 9 8,m 6 9] [0,3,6] <| j 6 (z [mk 4 0,mk 5 1] [4,5] <| .ret) (z [f 12 2 3,l 13 12,c 14 194 [0,13],no 15 14,m 10 15] [0,3,10] <| j 10 (z [mk 4 0,mk 5 212] [4,5] <| .ret) (.seq (q' [m 17 0,n 18 17,f 19 2 18,l 20 19,le 21 20,m 22 0,n 23 22,f 24 0 23,l 25 24,bi 26 .geq 21 25,m 16 26] [0,3,16]) <| j 16 (z [mk 4 0,mk 5 211] [4,5] <| .ret) (.skip))))) <| z [f 27 2 3,l 28 27,c 29 39 [28],f 30 2 3,s 1 30 29] [0,3] <| .seq (.dr (r 0 31 (.mv (.t 0)) <| r 1 32 (.mv (.t 0)) <| r 2 33 (.nn (.t 32)) <| r 3 34 (.fa 2 (.t 33)) <| r 4 35 (.l1 (.t 34)) <| r 5 36 (.ln 3 (.t 3)) <| .e 6 none (some 37) (.bs 104 1 #[(i 0),(i 0),(.slice none 0 0)] [(0,3,(.t 36))]) [4] <| .e 7 none (some 38) (.ap 104 3 40 #[(i 0),(i 0),(.slice none 0 0)] (.t 35) (.t 37)) [] <| r 8 39 (.nn (.t 31)) <| r 9 40 (.fa 2 (.t 39)) <| .e 10 none none (.st 1 (.t 40) (.t 38)) [] <| .nil) [0]) <| z [n 42 0,f 43 2 42,l 44 43,le 45 44,bk 46 .sub 45 1,m 4 46,mk 5 0] [4,5] <| .ret
theorem abM:Fits Tryz.prog 186 2 (bf Tryz.f186 JL) JL [.t 4,.t 5] 47:=.m Tryz.f186 _
def JM:IR:=z [] [0,1] <| .seq (z [c 8 194 [0,1],no 9 8] [0,1,9] <| j 9 (z [.r (some 4) (.mv (.c (.slice none 0 0))),mk 5 212] [4,5] <| .ret) (.skip)) <| z [c 12 195 [0,1],m 4 12,mk 5 0] [4,5] <| .ret
theorem abN:Fits Tryz.prog 187 2 (bf Tryz.f187 JM) JM [.t 4,.t 5] 13:=.m Tryz.f187 _
def JN:IR:=z [.e (some 4) (.al 104 (.agg #[(i 0),(i 0),(.slice none 0 0)]))] [0,1,4] <| .seq (z [.e (some 9) (.bs 3 1 #[(i 0)] [(0,1,(.t 1))]),c 10 194 [0,9],no 11 10] [0,1,4,11] <| j 11 (z [.r (some 12) (.bd #[(i 0),(i 0),(.slice none 0 0)] []),s 3 4 12,mk 5 212] [4,5] <| .ret) (.skip)) <| z [n 14 0,f 15 2 14,l 16 15,ia 18 3 16 1,ln 19 3 18,.e (some 6) (.al 104 (.agg #[(i 0),(i 0),(.slice none 0 0)])),s 3 6 19] [4,6] <| z [f 20 2 6,l 21 20,c 22 39 [21],f 23 2 6,s 1 23 22] [4,6] <| z [ln 24 3 6,s 3 4 24,mk 5 0] [4,5] <| .ret
theorem abO:Fits Tryz.prog 189 2 (bf Tryz.f189 JN) JN [.n 4 3,.t 5] 25:=.m Tryz.f189 _
def JO:IR:=z [] [0,1,2] <| .seq (z [bk 9 .lss 1 0] [0,1,2,9] <| j 9 (z [.r (some 6) (.mv (.c (.slice none 0 0))),mk 7 1] [6,7] <| .ret) (.skip)) <| .seq (z [c 12 194 [0,2],no 13 12] [0,1,2,13] <| j 13 (z [.r (some 6) (.mv (.c (.slice none 0 0))),mk 7 212] [6,7] <| .ret) (.skip)) <| .seq (.seq (q' [m 14 1,m 15 0,n 16 15,f 17 1 16,l 18 17,m 19 0,n 20 19,f 21 2 20,l 22 21,le 23 22,m 24 0,n 25 24,f 26 3 25,l 27 26,bi 28 .sub 23 27,bi 29 .sub 18 28,bi 30 .leq 14 29,m 31 30,m' 31 true 32 1,m' 31 true 33 0,n' 31 true 34 33,f' 31 true 35 0 34,l' 31 true 36 35,m' 31 true 37 0,n' 31 true 38 37,f' 31 true 39 2 38,l' 31 true 40 39,jS 31 true 41 40,gJ 31 true 42 .sub 36 41,gJ 31 true 43 .leq 32 42,a 44 31 43] [0,1,2,44]) <| j 44 (z [c 46 39 [2],m 6 46,mk 7 0] [6,7] <| .ret) (.skip)) <| z [c 49 196 [0,2],m 2 49] [0,1,2] <| .seq (.seq (q' [m 50 1,m 51 0,n 52 51,f 53 0 52,l 54 53,m 55 0,n 56 55,f 57 2 56,l 58 57,le 59 58,bi 60 .sub 54 59,bi 61 .gtr 50 60] [0,1,2,61]) <| j 61 (q [c 64 195 [0,2],m 2 64] [0,1,2]) (.skip)) <| .seq (.seq (q' [m 65 1,m 66 0,n 67 66,f 68 0 67,l 69 68,m 70 0,n 71 70,f 72 2 71,l 73 72,le 74 73,bi 75 .sub 69 74,bi 76 .gtr 65 75] [2,76]) <| j 76 (z [.r (some 6) (.mv (.c (.slice none 0 0))),mk 7 211] [6,7] <| .ret) (.skip)) <| z [m 6 2,mk 7 0] [6,7] <| .ret
theorem abP:Fits Tryz.prog 190 3 (bf Tryz.f190 JO) JO [.t 6,.t 7] 78:=.m Tryz.f190 _
def JP:IR:=z [.e (some 3) (.bx 169 (.t 0)),.e (some 5) (.bx 104 (.t 2))] [1,3,5] <| .seq (.block 0 (z [l 8 3,.e (some 10) (.bs 3 1 #[(i 0)] [(0,1,(.t 1))]),c 11 194 [8,10],no 12 11,m 7 12] [1,3,5,7] <| j 7 (z [mk 6 212] [6] <| .ret) (z [ln 14 3 5,c 15 193 [14],no 16 15,m 13 16] [1,3,5,13] <| j 13 (z [mk 6 1] [6] <| .ret) (z [l 18 3,f 19 2 5,l 20 19,c 21 194 [18,20],no 22 21,m 17 22] [1,3,5,17] <| j 17 (z [mk 6 212] [6] <| .ret) (.skip))))) <| z [f 23 2 5,l 24 23,c 25 39 [24],f 26 2 5,s 1 26 25] [1,3,5] <| .seq (q' [l 27 3,n 28 27,f 29 2 28,l 30 29,m 31 1,ln 32 3 5,ia 33 3 30 31,s 3 33 32] [1,3,5]) <| .seq (z [l 35 3,n 36 35,f 37 3 36,l 38 37,bi 39 .lss 1 38] [1,3,5,39] <| j 39 (z [l 40 3,n 41 40,f 42 4 41,l 43 42,m 44 1,.e none (.raw ⟨none,(.call { callee:=(.builtin .delete),args:=#[(.tmp 43),(.tmp 44)],argTypes:=#[200,3]}),0, "gens.go:94",#[⟨3,.data⟩,⟨4,.data⟩],none⟩)] [1,3,5] <| z [f 45 2 5,l 46 45,.r (some 47) (.mf (.func 197) [] [(.t 3)]),c 48 70 [46,47]] [1,3,48] <| j 48 (q [l 49 3,n 50 49,f 51 4 50,l 52 51,m 53 1,.e none (.raw ⟨none,(.mapUpdate 200 (.tmp 52) (.tmp 53) (.const (i 1))),0, "gens.go:96",#[⟨3,.data⟩,⟨4,.data⟩,⟨0,.phase⟩,⟨1,.phase⟩,⟨2,.phase⟩,⟨3,.phase⟩,⟨4,.phase⟩],none⟩)] []) (.skip)) (.skip)) <| z [mk 6 0] [6] <| .ret
theorem abQ:Fits Tryz.prog 191 3 (bf Tryz.f191 JP) JP [.t 6] 54:=.m Tryz.f191 _
def JQ:IR:=z [] [0] <| z [n 4 0,f 5 2 4,l 6 5,le 7 6,m 2 7] [2] <| .ret
theorem abR:Fits Tryz.prog 192 1 (bf Tryz.f192 JQ) JQ [.t 2] 8:=.m Tryz.f192 _
def JR:IR:=z [.e (some 1) (.bx 104 (.t 0))] [1] <| z [mk 3 0] [1,3] <| .seq (z [f 4 0 1,l 5 4] [1,3,5] <| .block 0 (z [bk 7 .eql 5 1,m 6 7] [1,3,5,6] <| j 6 (.seq (z [f 8 1 1,l 9 8,bk 10 .lss 9 (-4611686018427387904),f' 10 false 12 1 1,l' 10 false 13 12,di 10 false 14 .gtr 13 4611686018427387903,u 15 10 14] [1,15] <| j 15 (z [.r (some 2) (.mv (.c (.bool false)))] [2] <| .ret) (.skip)) <| z [f 16 2 1,l 17 16,le 18 17,bk 19 .eql 18 0,m 2 19] [2] <| .ret) (z [bk 21 .eql 5 2,m 20 21] [1,3,5,20] <| j 20 (z [f 22 1 1,l 23 22,bk 24 .geq 23 0,f' 24 true 26 2 1,l' 24 true 27 26,jS 24 true 28 27,di 24 true 29 .leq 28 8,a 30 24 29,m 2 30] [2] <| .ret) (.seq (z [bk 32 .eql 5 4,m 31 32] [1,3,5,31] <| j 31 (.skip) (q [bk 33 .eql 5 8,m 31 33] [1,3,5,31])) <| j 31 (z [f 34 1 1,l 35 34,bk 36 .geq 35 0,f' 36 true 38 2 1,l' 36 true 39 38,jS 36 true 40 39,di 36 true 41 .eql 40 0,a 42 36 41,m 2 42] [2] <| .ret) (z [bk 44 .eql 5 3,m 43 44] [1,3,5,43] <| j 43 (q [mk 3 2] [1,3]) (z [bk 46 .eql 5 5,m 45 46] [1,3,5,45] <| j 45 (q [mk 3 1] [1,3]) (.seq (z [bk 48 .eql 5 6,m 47 48] [1,3,5,47] <| j 47 (.skip) (q [bk 49 .eql 5 7,m 47 49] [1,3,47])) <| j 47 (.skip) (z [.r (some 2) (.mv (.c (.bool false)))] [2] <| .ret)))))))) <| z [f 50 1 1,l 51 50,bk 52 .eql 51 0,f' 52 true 54 2 1,l' 52 true 55 54,jS 52 true 56 55,m' 52 true 57 3,gJ 52 true 58 .eql 56 57,a 59 52 58,m 2 59] [2] <| .ret
theorem abS:Fits Tryz.prog 193 1 (bf Tryz.f193 JR) JR [.t 2] 60:=.m Tryz.f193 _
def JS:IR:=z [.e (some 2) (.bx 169 (.t 0))] [1,2] <| z [.r (some 6) (.mf (.func 198) [] [(.t 2)]),c 7 70 [1,6],no 8 7,m 4 8] [4] <| .ret
theorem abT:Fits Tryz.prog 194 2 (bf Tryz.f194 JS) JS [.t 4] 9:=.m Tryz.f194 _
def JT:IR:=z [] [0,1] <| z [n 8 0,f 9 5 8,l 10 9,bk 11 .add 10 1,n 12 0,f 13 5 12,s 1 13 11] [0,1] <| z [m 14 0,m 15 0,c 16 199 [15],.e (some 17) (.raw ⟨(some 17),(.makeMap 200 none),200, "gens.go:221",#[],none⟩),.r (some 18) (.bd #[(.pointer none),(.slice none 0 0),(.map none),(i 0),(.map none),(.slice none 0 0)] [(0,1,(.t 14)),(1,2,(.t 16)),(4,1,(.t 17))]),.e (some 19) (.bx 249 (.t 18)),m 5 19] [0,1,5] <| z [c 22 200 [5,1],m 6 22] [0,5,6] <| z [c 25 201 [5],n 26 0,f 27 2 26,s 1 27 25] [0,6] <| z [n 30 0,f 31 2 30,l 32 31,le 33 32,n 34 0,f 35 3 34,s 1 35 33] [0,6] <| z [m 36 0,n 37 36,f 38 4 37,l 39 38,.e none (.raw ⟨none,(.call { callee:=(.builtin .clear),args:=#[(.tmp 39)],argTypes:=#[200]}),0, "gens.go:225",#[⟨3,.data⟩],none⟩)] [6] <| z [m 4 6] [4] <| .ret
theorem abU:Fits Tryz.prog 195 2 (bf Tryz.f195 JT) JT [.t 4] 41:=.m Tryz.f195 _
def Rv:IR:=z [bi 57 .lss 56 55] [0,5,6,9,39,40,41,54,55,56,57] <| .seq (j 57 (.skip) ((.exit 2))) <| .seq (.block 3 (z [ia 59 1 54 56,l 60 59,m 10 56,m 11 60] [0,5,6,9,10,11,39,40,41,54,55,56] <| z [n 63 0,f 64 3 63,l 65 64,bi 66 .geq 11 65] [0,5,6,9,10,11,39,40,41,54,55,56,66] <| j 66 (.dr (r 0 67 (.mv (.t 9)) <| r 1 68 (.nn (.t 67)) <| r 2 69 (.fa 2 (.t 68)) <| r 3 70 (.l1 (.t 69)) <| r 4 71 (.mv (.t 10)) <| r 5 72 (.mv (.t 5)) <| r 6 73 (.mv (.t 11)) <| .e 7 none (some 74) (.call 204 [(.t 72),(.t 73)]) [3] <| r 8 75 (.ia 1 (.t 70) (.t 71)) <| .e 9 none none (.st 1 (.t 75) (.t 74)) [] <| .nil) [0,5,6,9,39,40,41,54,55,56]) (.skip))) <| q [bk 76 .add 56 1,m 56 76] [0,5,6,9,39,40,41,54,55,56]
def Rw:IR:=z [bi 42 .lss 41 40] [0,5,6,39,40,41,42] <| .seq (j 42 (.skip) ((.exit 0))) <| .seq (.block 1 (z [ia 43 1 39 41,l 44 43,m 8 44] [0,5,6,8,39,40,41] <| z [n 46 0,f 47 2 46,l 48 47,ia 50 3 48 8,m 9 50] [0,5,6,9,39,40,41] <| z [n 52 9,f 53 2 52,l 54 53,le 55 54,mk 56 0] [0,5,6,9,39,40,41,54,55,56] <| .block 2 (.loop Rv))) <| q [bk 77 .add 41 1,m 41 77] [0,5,6,39,40,41]
def Rx:IR:=z [.e (some 84) (.raw ⟨(some 84),(.next (.tmp 83) false),0, "gens.go:206",#[],none⟩),ex 85 0 84] [0,5,6,83,85] <| .seq (j 85 (.skip) ((.exit 4))) <| .block 5 (z [.e (some 86) (.raw ⟨(some 86),(.entry (.tmp 83)),0, "gens.go:206",#[],none⟩),ex 87 0 86,m 12 87] [0,5,6,12,83] <| z [n 90 0,f 91 3 90,l 92 91,bi 93 .lss 12 92] [0,5,6,12,83,93] <| j 93 (q [n 95 0,f 96 2 95,l 97 96,ia 99 3 97 12,f 100 2 99,l 101 100,.r (some 103) (.ia 1 (.t 101) (k 0)),s 1 103 12] [0,5,6,83]) (.skip))
def JU:IR:=z [] [0,1] <| z [n 15 0,f 16 5 15,l 17 16,bk 18 .add 17 1,n 19 0,f 20 5 19,s 1 20 18] [0,1] <| .seq (.dr (r 0 21 (.mv (.t 0)) <| r 1 22 (.mv (.t 0)) <| r 3 24 (.mv (.t 0)) <| r 4 25 (.nn (.t 24)) <| r 5 26 (.fa 3 (.t 25)) <| r 6 27 (.l1 (.t 26)) <| .e2 2 (some 23) (.call 199 [(.t 22)]) [6] (.e 7 none (some 28) (.raw ⟨(some 28),(.makeMap 200 none),200, "gens.go:196",#[],none⟩) [6] <| r 8 29 (.bd #[(.pointer none),(.slice none 0 0),(.map none),(i 0),(.map none),(.slice none 0 0)] [(0,1,(.t 21)),(1,2,(.t 23)),(3,1,(.t 27)),(4,1,(.t 28))]) <| .e 9 none (some 30) (.bx 249 (.t 29)) [] <| r 10 5 (.mv (.t 30)) <| .nil) 7 (some 28) (.raw ⟨(some 28),(.makeMap 200 none),200, "gens.go:196",#[],none⟩) [6]
   (.e 2 none (some 23) (.call 199 [(.t 22)]) [6] <| r 8 29 (.bd #[(.pointer none),(.slice none 0 0),(.map none),(i 0),(.map none),(.slice none 0 0)] [(0,1,(.t 21)),(1,2,(.t 23)),(3,1,(.t 27)),(4,1,(.t 28))]) <| .e 9 none (some 30) (.bx 249 (.t 29)) [] <| r 10 5 (.mv (.t 30)) <| .nil)) [0,1,5]) <| z [c 33 200 [5,1],m 6 33] [0,5,6] <| .seq (z [n 35 0,f 36 4 35,l 37 36,c 38 203 [37],c 39 202 [38],le 40 39,mk 41 0] [0,5,6,39,40,41] <| .block 0 (.loop Rw)) <| .seq (z [m 78 5,n 79 78,f 80 1 79,f 81 1 80,l 82 81,.e (some 83) (.raw ⟨(some 83),(.range 200 (.tmp 82)),0, "gens.go:206",#[⟨4,.data⟩],none⟩)] [0,5,6,83] <| .block 4 (.loop Rx)) <| z [c 105 201 [5],m 13 105] [0,6,13] <| .seq (q' [m 106 0,m 107 0,n 108 107,f 109 2 108,l 110 109,m 111 0,n 112 111,f 113 3 112,l 114 113,m 115 0,n 116 115,f 117 3 116,l 118 117,.r (some 119) (.sl 3 (.t 110) none (some (.t 114)) (some (.t 118))),m 120 13,.e (some 121) (.ap 104 3 40 #[(i 0),(i 0),(.slice none 0 0)] (.t 119) (.t 120)),n 122 106,f 123 2 122,s 1 123 121] [0,6]) <| z [n 126 0,f 127 2 126,l 128 127,le 129 128,n 130 0,f 131 3 130,s 1 131 129] [0,6] <| z [m 132 0,n 133 132,f 134 4 133,l 135 134,.e none (.raw ⟨none,(.call { callee:=(.builtin .clear),args:=#[(.tmp 135)],argTypes:=#[200]}),0, "gens.go:214",#[⟨3,.data⟩],none⟩)] [6] <| z [m 4 6] [4] <| .ret
theorem abV:Fits Tryz.prog 196 2 (bf Tryz.f196 JU) JU [.t 4] 137:=.m Tryz.f196 _
def JV:IR:=z [] [0,1] <| z [l 5 1,n 6 5,f 7 3 6,l 8 7,bi 9 .geq 0 8,m 3 9] [3] <| .ret
theorem abW:Fits Tryz.prog 197 2 (bf Tryz.f197 JV) JV [.t 3] 10:=.m Tryz.f197 _
def JW:IR:=z [] [0,1] <| z [bk 5 .lss 0 0,m' 5 false 7 0,l' 5 false 8 1,n' 5 false 9 8,f' 5 false 10 2 9,l' 5 false 11 10,jS 5 false 12 11,gJ 5 false 13 .geq 7 12,u 14 5 13,m 3 14] [3] <| .ret
theorem abX:Fits Tryz.prog 198 2 (bf Tryz.f198 JW) JW [.t 3] 15:=.m Tryz.f198 _
def Ry:IR:=z [bi 18 .lss 17 16] [0,2,3,16,17,18] <| .seq (j 18 (.skip) ((.exit 0))) <| .seq (.block 1 (z [m 4 17] [0,2,3,4,16,17] <| q [f 20 0 3,l 21 20,ia 23 1 21 4,.e none (.st 1 (.t 23) (k (-1)))] [0,2,3,16,17])) <| q [bk 24 .add 17 1,m 17 24] [0,2,3,16,17]
def Rz:IR:=z [bi 31 .lss 30 29] [0,2,3,29,30,31] <| .seq (j 31 (.skip) ((.exit 2))) <| .seq (.block 3 (z [m 5 30] [0,2,3,5,29,30] <| q [ln 35 2 3,c 36 205 [0,5,35]] [0,2,3,29,30])) <| q [bk 37 .add 30 1,m 30 37] [0,2,3,29,30]
def JX:IR:=z [.e (some 2) (.al 246 (.agg #[(.slice none 0 0),(.map none)]))] [0,2] <| z [m 6 0,n 7 6,f 8 2 7,l 9 8,le 10 9,.e (some 11) (.ms 3 1 8 #[(i 0)] (.t 10) (.t 10)),.e (some 12) (.raw ⟨(some 12),(.makeMap 200 none),200, "gens.go:110",#[],none⟩),.r (some 13) (.bd #[(.slice none 0 0),(.map none)] [(0,1,(.t 11)),(1,1,(.t 12))]),.e (some 3) (.al 246 (.agg #[(.slice none 0 0),(.map none)])),s 2 3 13] [0,2,3] <| .seq (z [f 14 0 3,l 15 14,le 16 15,mk 17 0] [0,2,3,16,17] <| .block 0 (.loop Ry)) <| .seq (z [n 26 0,f 27 2 26,l 28 27,le 29 28,mk 30 0] [0,2,3,29,30] <| .block 2 (.loop Rz)) <| z [ln 38 2 3,s 2 2 38] [2] <| .ret
theorem abY:Fits Tryz.prog 199 1 (bf Tryz.f199 JX) JX [.n 2 2] 39:=.m Tryz.f199 _
def RA:IR:=z [bi 11 .lss 10 9] [0,5,8,9,10,11] <| .seq (j 11 (.skip) ((.exit 0))) <| .seq (.block 1 (z [ia 12 1 8 10,l 13 12,m 7 13] [0,5,7,8,9,10] <| q [c 17 204 [0,7],.e (some 18) (.bs 3 1 #[(i 0)] [(0,1,(.t 17))]),.e (some 19) (.ap 3 1 8 #[(i 0)] (.t 5) (.t 18)),m 5 19] [0,5,8,9,10])) <| q [bk 20 .add 10 1,m 10 20] [0,5,8,9,10]
def JY:IR:=z [] [0,1] <| z [.r (some 5) (.mv (.c (.slice none 0 0)))] [0,1,5] <| .seq (z [m 8 1,le 9 8,mk 10 0] [0,5,8,9,10] <| .block 0 (.loop RA)) <| z [m 4 5] [4] <| .ret
theorem abZ:Fits Tryz.prog 200 2 (bf Tryz.f200 JY) JY [.t 4] 22:=.m Tryz.f200 _
def RB:IR:=.seq (z [n 8 0,f 9 5 8,l 10 9,le 11 10,bi 12 .lss 4 11] [0,3,4,12] <| j 12 (.skip) ((.exit 0))) <| .seq (.block 1 (.seq (.dr (r 0 15 (.mv (.t 0)) <| r 1 16 (.nn (.t 15)) <| r 2 17 (.fa 0 (.t 16)) <| r 3 18 (.l1 (.t 17)) <| r 4 19 (.nn (.t 18)) <| r 5 20 (.fa 2 (.t 19)) <| r 6 21 (.l1 (.t 20)) <| r 7 22 (.mv (.t 0)) <| r 8 23 (.nn (.t 22)) <| r 9 24 (.fa 5 (.t 23)) <| r 10 25 (.l1 (.t 24)) <| r 11 26 (.mv (.t 4)) <| r 12 27 (.ia 1 (.t 25) (.t 26)) <| r 13 28 (.l1 (.t 27)) <| r 14 29 (.ia 3 (.t 21) (.t 28)) <| r 15 30 (.ln 3 (.t 29)) <| .e 16 none (some 5) (.al 104 (.agg #[(i 0),(i 0),(.slice none 0 0)])) [3,6,10,13,15] <| .e 17 none none (.st 3 (.t 5) (.t 30)) [] <| .nil) [0,3,4,5]) <| z [f 32 2 5,l 33 32,c 34 200 [0,33],f 35 2 5,s 1 35 34] [0,3,4,5] <| q [ln 37 3 5,.e (some 38) (.bs 104 1 #[(i 0),(i 0),(.slice none 0 0)] [(0,3,(.t 37))]),.e (some 39) (.ap 104 3 40 #[(i 0),(i 0),(.slice none 0 0)] (.t 3) (.t 38)),m 3 39] [0,3,4])) <| q [bk 14 .add 4 1,m 4 14] [0,3,4]
def JZ:IR:=z [] [0] <| z [.r (some 3) (.mv (.c (.slice none 0 0)))] [0,3] <| .seq (z [mk 4 0] [0,3,4] <| .block 0 (.loop RB)) <| z [m 2 3] [2] <| .ret
theorem ab0:Fits Tryz.prog 201 1 (bf Tryz.f201 JZ) JZ [.t 2] 41:=.m Tryz.f201 _
def J0:IR:=z [] [0,1] <| z [n 9 0,f 10 1 9,f 11 0 10,l 12 11,ia 14 1 12 1,l 15 14,m 5 15] [0,5] <| .seq (z [n 18 0,f 19 3 18,l 20 19,bi 21 .lss 5 20] [0,5,21] <| j 21 (z [m 4 5] [4] <| .ret) (.skip)) <| z [m 24 0,n 25 24,f 26 4 25,l 27 26,m 28 5,.e (some 29) (.raw ⟨(some 29),(.lookup 200 (.tmp 27) (.tmp 28) true),87, "gens.go:164",#[⟨3,.data⟩,⟨4,.data⟩],none⟩),m 23 29,ex 30 0 23,ex 31 1 23,m 6 30,m 7 31] [0,5,6,7] <| .seq (z [no 33 7] [0,5,6,33] <| j 33 (.seq (q' [m 34 0,n 35 34,f 36 3 35,l 37 36,m 38 0,n 39 38,f 40 5 39,l 41 40,le 42 41,bi 43 .add 37 42,m 6 43] [0,5,6]) <| z [m 44 0,n 45 44,f 46 4 45,l 47 46,m 48 5,m 49 6,.e none (.raw ⟨none,(.mapUpdate 200 (.tmp 47) (.tmp 48) (.tmp 49)),0, "gens.go:167",#[⟨3,.data⟩,⟨4,.data⟩,⟨5,.data⟩,⟨0,.phase⟩,⟨1,.phase⟩,⟨2,.phase⟩,⟨3,.phase⟩,⟨4,.phase⟩,⟨5,.phase⟩],none⟩)] [0,5,6] <| q [n 52 0,f 53 5 52,l 54 53,.e (some 56) (.bs 3 1 #[(i 0)] [(0,1,(.t 5))]),.e (some 57) (.ap 3 1 8 #[(i 0)] (.t 54) (.t 56)),n 58 0,f 59 5 58,s 1 59 57] [6]) (.skip)) <| z [m 4 6] [4] <| .ret
theorem ab1:Fits Tryz.prog 204 2 (bf Tryz.f204 J0) J0 [.t 4] 61:=.m Tryz.f204 _
def RC:IR:=.seq (z [f 13 0 5,l 14 13,ia 16 1 14 1,l 17 16,bk 18 .lss 17 0] [0,1,5,6,7,18] <| j 18 (.skip) ((.exit 0))) <| .block 1 (.seq (z [n 20 0,f 21 2 20,l 22 21,ia 24 3 22 1,f 25 0 24,l 26 25,bk 27 .neq 26 5] [0,1,5,6,7,27] <| j 27 (z [f 28 0 5,l 29 28,ia 32 1 29 1,s 1 32 1] [1,5,7] <| (.exit 0)) (.skip)) <| .seq (z [m 34 6,m 35 1,.e (some 36) (.raw ⟨(some 36),(.lookup 200 (.tmp 34) (.tmp 35) true),87, "gens.go:129",#[⟨0,.data⟩,⟨1,.data⟩],none⟩),m 33 36,ex 37 0 33,ex 38 1 33,m 8 37,m 9 38] [0,1,5,6,7,8,9] <| z [m 39 9] [0,1,5,6,7,8,39] <| j 39 (z [.r (some 43) (.sl 1 (.t 7) (some (.t 8)) none none),c 44 209 [0,43],m 1 44] [1,5,7] <| z [f 45 1 5,l 46 45,m 47 1,.e none (.raw ⟨none,(.mapUpdate 200 (.tmp 46) (.tmp 47) (.const (i 1))),0, "gens.go:131",#[⟨1,.data⟩,⟨2,.data⟩,⟨0,.phase⟩,⟨1,.phase⟩,⟨2,.phase⟩],none⟩)] [1,5,7] <| z [f 48 0 5,l 49 48,ia 52 1 49 1,s 1 52 1] [1,5,7] <| (.exit 0)) (.skip)) <| z [m 53 6,m 54 1,m 55 7,le 56 55,.e none (.raw ⟨none,(.mapUpdate 200 (.tmp 53) (.tmp 54) (.tmp 56)),0, "gens.go:135",#[⟨0,.data⟩,⟨1,.data⟩,⟨3,.data⟩,⟨0,.phase⟩,⟨1,.phase⟩,⟨2,.phase⟩,⟨3,.phase⟩],none⟩)] [0,1,5,6,7] <| z [.e (some 59) (.bs 3 1 #[(i 0)] [(0,1,(.t 1))]),.e (some 60) (.ap 3 1 8 #[(i 0)] (.t 7) (.t 59)),m 7 60] [0,1,5,6,7] <| q [n 62 0,f 63 2 62,l 64 63,ia 66 3 64 1,f 67 2 66,l 68 67,.r (some 69) (.ia 1 (.t 68) (k 0)),l 70 69,m 1 70] [0,1,5,6,7])
def RD:IR:=z [bi 74 .lss 73 72] [1,5,71,72,73,74] <| .seq (j 74 (.skip) ((.exit 2))) <| .seq (.block 3 (z [ia 75 1 71 73,l 76 75,m 11 76] [1,5,11,71,72,73] <| q' [f 77 0 5,l 78 77,m 79 11,f 80 0 5,l 81 80,m 82 1,ia 83 1 81 82,l 84 83,ia 85 1 78 79,s 1 85 84] [1,5,71,72,73])) <| q [bk 86 .add 73 1,m 73 86] [1,5,71,72,73]
def J1:IR:=z [.e (some 5) (.bx 246 (.t 2))] [0,1,5] <| z [.e (some 12) (.raw ⟨(some 12),(.makeMap 200 none),200, "gens.go:122",#[],none⟩),m 6 12] [0,1,5,6] <| z [.r (some 7) (.mv (.c (.slice none 0 0)))] [0,1,5,6,7] <| .seq (.block 0 (.loop RC)) <| z [m 71 7,le 72 71,mk 73 0] [1,5,71,72,73] <| .block 2 (.loop RD)
theorem ab2:Fits Tryz.prog 205 3 (bf Tryz.f205 J1) J1 [] 87:=.m Tryz.f205 _
def J2:IR:=z [] [1] <| z [c 6 213 [1],m 4 6] [4] <| .ret
theorem ab3:Fits Tryz.prog 209 2 (bf Tryz.f209 J2) J2 [.t 4] 7:=.m Tryz.f209 _
def RE:IR:=.seq (z [le 14 0,bi 15 .lss 4 14] [0,3,4,15] <| j 15 (.skip) ((.exit 0))) <| .seq (.block 1 (q [ia 21 1 0 4,l 22 21,.r (some 23) (.mm false (.t 3) (.t 22)),m 3 23] [0,3,4])) <| q [bk 17 .add 4 1,m 4 17] [0,3,4]
def J3:IR:=z [] [0] <| .seq (z [le 6 0,bk 7 .lss 6 1] [0,7] <| j 7 (q [.r (some 8) (.mi 9 (.c (.string ⟨#[115,108,105,99,101,115,46,77,105,110,58,32,101,109,112,116,121,32,108,105,115,116]⟩))),.e none (.raw ⟨none,(.panic (.tmp 8)),0, "sort.go:67",#[⟨0,.data⟩],none⟩)] [0]) (.skip)) <| z [.r (some 10) (.ia 1 (.t 0) (k 0)),l 11 10,m 3 11] [0,3] <| .seq (z [mk 4 1] [0,3,4] <| .block 0 (.loop RE)) <| z [m 2 3] [2] <| .ret
theorem ab4:Fits Tryz.prog 213 1 (bf Tryz.f213 J3) J3 [.t 2] 25:=.m Tryz.f213 _
def J4:IR:=z [.e (some 3) (.bx 104 (.t 1))] [0,3] <| .seq (.block 0 (z [ln 7 3 3,c 8 238 [7],no 9 8,m 6 9] [0,3,6] <| j 6 (z [mk 4 0,mk 5 1] [4,5] <| .ret) (z [f 12 2 3,l 13 12,c 14 239 [0,13],no 15 14,m 10 15] [0,3,10] <| j 10 (z [mk 4 0,mk 5 202] [4,5] <| .ret) (.seq (q' [m 17 0,n 18 17,f 19 1 18,l 20 19,le 21 20,m 22 0,n 23 22,f 24 0 23,l 25 24,bi 26 .eql 21 25,m 16 26] [0,3,16]) <| j 16 (z [mk 4 0,mk 5 201] [4,5] <| .ret) (.skip))))) <| .seq (.dr (r 0 27 (.mv (.t 0)) <| r 1 28 (.mv (.t 0)) <| r 2 29 (.nn (.t 28)) <| r 3 30 (.fa 1 (.t 29)) <| r 4 31 (.l1 (.t 30)) <| r 5 32 (.ln 3 (.t 3)) <| .e 6 none (some 33) (.call 240 [(.t 32)]) [4] <| .e 7 none (some 34) (.bs 277 1 #[(i 0),(i 0),(.slice none 0 0)] [(0,3,(.t 33))]) [4] <| .e 8 none (some 35) (.ap 277 3 40 #[(i 0),(i 0),(.slice none 0 0)] (.t 31) (.t 34)) [] <| r 9 36 (.nn (.t 27)) <| r 10 37 (.fa 1 (.t 36)) <| .e 11 none none (.st 1 (.t 37) (.t 35)) [] <| .nil) [0]) <| z [n 39 0,f 40 1 39,l 41 40,le 42 41,bk 43 .sub 42 1,m 4 43,mk 5 0] [4,5] <| .ret
theorem ab5:Fits Tryz.prog 231 2 (bf Tryz.f231 J4) J4 [.t 4,.t 5] 44:=.m Tryz.f231 _
def RF:IR:=z [bi 42 .lss 41 40] [0,6,7,39,40,41,42] <| .seq (j 42 (.skip) ((.exit 0))) <| .seq (.block 1 (z [ia 44 1 39 41,l 45 44,m 8 41,m 9 45] [0,6,7,8,9,39,40,41] <| q [c 50 241 [6,9],ia 51 1 7 8,s 1 51 50] [0,6,7,39,40,41])) <| q [bk 52 .add 41 1,m 41 52] [0,6,7,39,40,41]
def RG:IR:=z [bi 72 .lss 71 70] [0,6,7,10,69,70,71,72] <| .seq (j 72 (.skip) ((.exit 4))) <| .seq (.block 5 (z [ia 74 1 69 71,l 75 74,m 11 71,m 12 75] [0,6,7,10,11,12,69,70,71] <| z [c 78 241 [6,12],m 13 78] [0,6,7,10,11,13,69,70,71] <| q [n 80 6,f 81 1 80,l 82 81,ia 84 3 82 10,f 85 2 84,l 86 85,ia 89 1 86 11,s 1 89 13] [0,6,7,10,69,70,71])) <| q [bk 90 .add 71 1,m 71 90] [0,6,7,10,69,70,71]
def RH:IR:=.seq (z [n 55 6,f 56 1 55,l 57 56,le 58 57,bi 59 .lss 10 58] [0,6,7,10,59] <| j 59 (.skip) ((.exit 2))) <| .seq (.block 3 (z [n 63 6,f 64 1 63,l 65 64,ia 67 3 65 10,f 68 2 67,l 69 68,le 70 69,mk 71 0] [0,6,7,10,69,70,71] <| .block 4 (.loop RG))) <| q [bk 61 .add 10 1,m 10 61] [0,6,7,10]
def J5:IR:=z [] [0,1] <| .seq (z [c 16 239 [0,1],no 17 16] [0,1,17] <| j 17 (z [.r (some 4) (.mv (.c (.slice none 0 0))),mk 5 202] [4,5] <| .ret) (.skip)) <| .seq (.dr (r 0 18 (.mv (.t 0)) <| r 1 19 (.nn (.t 18)) <| r 2 20 (.fa 1 (.t 19)) <| r 3 21 (.l1 (.t 20)) <| r 4 22 (.mv (.t 0)) <| r 5 23 (.nn (.t 22)) <| r 6 24 (.fa 1 (.t 23)) <| r 7 25 (.l1 (.t 24)) <| r 8 26 (.len (.t 25)) <| r 10 28 (.mv (.t 0)) <| r 11 29 (.nn (.t 28)) <| r 12 30 (.fa 1 (.t 29)) <| r 13 31 (.l1 (.t 30)) <| r 14 32 (.len (.t 31)) <| .e2 9 (some 27) (.ms 3 1 8 #[(i 0)] (.t 26) (.t 26)) [3,13] (.e 15 none (some 33) (.ms 3 1 8 #[(i 0)] (.t 32) (.t 32)) [3,7] <| r 16 34 (.bd #[(.slice none 0 0),(.slice none 0 0),(.slice none 0 0),(.slice none 0 0),(.slice none 0 0)] [(0,1,(.t 21)),(2,1,(.t 27)),(3,1,(.t 33))]) <| .e 17 none (some 35) (.bx 281 (.t 34)) [] <| r 18 6 (.mv (.t 35)) <| .nil) 15 (some 33) (.ms 3 1 8 #[(i 0)] (.t 32) (.t 32)) [3,7]
   (.e 9 none (some 27) (.ms 3 1 8 #[(i 0)] (.t 26) (.t 26)) [3,13] <| r 16 34 (.bd #[(.slice none 0 0),(.slice none 0 0),(.slice none 0 0),(.slice none 0 0),(.slice none 0 0)] [(0,1,(.t 21)),(2,1,(.t 27)),(3,1,(.t 33))]) <| .e 17 none (some 35) (.bx 281 (.t 34)) [] <| r 18 6 (.mv (.t 35)) <| .nil)) [0,1,6]) <| z [le 37 1,.e (some 38) (.ms 3 1 8 #[(i 0)] (.t 37) (.t 37)),m 7 38] [0,1,6,7] <| .seq (z [m 39 1,le 40 39,mk 41 0] [0,6,7,39,40,41] <| .block 0 (.loop RF)) <| .seq (z [mk 10 0] [0,6,7,10] <| .block 2 (.loop RH)) <| z [n 93 6,f 94 1 93,l 95 94,n 96 0,f 97 1 96,s 1 97 95] [0,7] <| z [n 99 0,f 100 2 99,l 101 100,bk 102 .add 101 1,n 103 0,f 104 2 103,s 1 104 102] [7] <| z [m 4 7,mk 5 0] [4,5] <| .ret
theorem ab6:Fits Tryz.prog 232 2 (bf Tryz.f232 J5) J5 [.t 4,.t 5] 106:=.m Tryz.f232 _
def J6:IR:=z [.e (some 4) (.al 104 (.agg #[(i 0),(i 0),(.slice none 0 0)]))] [0,1,4] <| .seq (z [.e (some 9) (.bs 3 1 #[(i 0)] [(0,1,(.t 1))]),c 10 239 [0,9],no 11 10] [0,1,4,11] <| j 11 (z [.r (some 12) (.bd #[(i 0),(i 0),(.slice none 0 0)] []),s 3 4 12,mk 5 202] [4,5] <| .ret) (.skip)) <| z [n 14 0,f 15 1 14,l 16 15,ia 18 3 16 1,ln 19 3 18,.e (some 6) (.al 277 (.agg #[(i 0),(i 0),(.slice none 0 0)])),s 3 6 19] [4,6] <| .seq (.dr (r 0 20 (.fa 0 (.t 6)) <| r 1 21 (.fa 0 (.t 20)) <| r 2 22 (.l1 (.t 21)) <| r 3 23 (.fa 0 (.t 6)) <| r 4 24 (.fa 1 (.t 23)) <| r 5 25 (.l1 (.t 24)) <| r 6 26 (.fa 2 (.t 6)) <| r 7 27 (.l1 (.t 26)) <| .e 8 none (some 28) (.call 242 [(.t 27)]) [2,5] <| r 9 29 (.bd #[(i 0),(i 0),(.slice none 0 0)] [(0,1,(.t 22)),(1,1,(.t 25)),(2,1,(.t 28))]) <| .e 10 none none (.st 3 (.t 4) (.t 29)) [] <| r 11 5 (.mv (k 0)) <| .nil) [4,5]) <| .ret
theorem ab7:Fits Tryz.prog 234 2 (bf Tryz.f234 J6) J6 [.n 4 3,.t 5] 30:=.m Tryz.f234 _
def J7:IR:=z [] [0,1,2] <| .seq (.block 0 (z [bk 10 .lss 1 0,m 8 10] [0,1,2,8] <| j 8 (z [.r (some 6) (.mv (.c (.slice none 0 0))),mk 7 1] [6,7] <| .ret) (z [c 14 239 [0,2],no 15 14,m 11 15] [0,1,2,11] <| j 11 (z [.r (some 6) (.mv (.c (.slice none 0 0))),mk 7 202] [6,7] <| .ret) (.seq (q' [m 17 1,m 18 0,n 19 18,f 20 0 19,l 21 20,m 22 0,n 23 22,f 24 1 23,l 25 24,le 26 25,bi 27 .sub 21 26,bi 28 .leq 17 27,m 16 28] [0,1,2,16]) <| j 16 (z [c 30 242 [2],m 6 30,mk 7 0] [6,7] <| .ret) (.skip))))) <| z [c 34 232 [0,2],ex 35 0 34,ex 36 1 34,m 2 35] [0,1,2] <| .seq (.seq (q' [m 37 1,m 38 0,n 39 38,f 40 0 39,l 41 40,m 42 0,n 43 42,f 44 1 43,l 45 44,le 46 45,bi 47 .sub 41 46,bi 48 .gtr 37 47] [2,48]) <| j 48 (z [.r (some 6) (.mv (.c (.slice none 0 0))),mk 7 201] [6,7] <| .ret) (.skip)) <| z [m 6 2,mk 7 0] [6,7] <| .ret
theorem ab8:Fits Tryz.prog 235 3 (bf Tryz.f235 J7) J7 [.t 6,.t 7] 50:=.m Tryz.f235 _
def J8:IR:=z [.e (some 5) (.bx 104 (.t 2))] [0,1,5] <| .seq (.block 0 (z [.e (some 10) (.bs 3 1 #[(i 0)] [(0,1,(.t 1))]),c 11 239 [0,10],no 12 11,m 7 12] [0,1,5,7] <| j 7 (z [mk 6 202] [6] <| .ret) (z [ln 14 3 5,c 15 238 [14],no 16 15,m 13 16] [0,1,5,13] <| j 13 (z [mk 6 1] [6] <| .ret) (z [f 19 2 5,l 20 19,c 21 239 [0,20],no 22 21,m 17 22] [0,1,5,17] <| j 17 (z [mk 6 202] [6] <| .ret) (.skip))))) <| .seq (.seq (q' [f 23 2 5,l 24 23,le 25 24,bk 26 .eql 25 0,m 27 26,m' 27 true 28 0,n' 27 true 29 28,f' 27 true 30 1 29,l' 27 true 31 30,m' 27 true 32 1,uW 27 true 33 3 31 32,f' 27 true 34 0 33,tL 27 true 35 2 34,f' 27 true 36 0 5,l' 27 true 37 36,f' 27 true 38 1 5,l' 27 true 39 38,.gr 27 true (some 40) (.bd #[(i 0),(i 0)] [(0,1,(.t 37)),(1,1,(.t 39))]),.gr 27 true (some 41) (.qj false [(0,.int),(1,.int)] (.t 35) (.t 40)),a 42 27 41,m 43 42,m' 43 true 44 0,n' 43 true 45 44,f' 43 true 46 1 45,l' 43 true 47 46,m' 43 true 48 1,uW 43 true 49 3 47 48,f' 43 true 50 2 49,l' 43 true 51 50,jS 43 true 52 51,di 43 true 53 .eql 52 0,a 54 43 53] [0,1,5,54]) <| j 54 (z [mk 6 0] [6] <| .ret) (.skip)) <| .seq (.dr (r 0 55 (.mv (.t 0)) <| r 1 56 (.nn (.t 55)) <| r 2 57 (.fa 1 (.t 56)) <| r 3 58 (.l1 (.t 57)) <| r 4 59 (.mv (.t 1)) <| r 5 60 (.ln 3 (.t 5)) <| .e 6 none (some 61) (.call 240 [(.t 60)]) [3] <| r 7 62 (.ia 3 (.t 58) (.t 59)) <| .e 8 none none (.st 3 (.t 62) (.t 61)) [] <| .nil) []) <| z [mk 6 0] [6] <| .ret
theorem ab9:Fits Tryz.prog 236 3 (bf Tryz.f236 J8) J8 [.t 6] 63:=.m Tryz.f236 _
def J9:IR:=z [] [0] <| z [n 4 0,f 5 1 4,l 6 5,le 7 6,m 2 7] [2] <| .ret
theorem ab':Fits Tryz.prog 237 1 (bf Tryz.f237 J9) J9 [.t 2] 8:=.m Tryz.f237 _
def J':IR:=z [.e (some 1) (.bx 104 (.t 0))] [1] <| z [f 4 2 1,l 5 4,le 6 5,m 3 6] [1,3] <| .seq (z [f 7 0 1,l 8 7] [1,3,8] <| .block 0 (z [bk 10 .eql 8 1,m 9 10] [1,3,8,9] <| j 9 (z [bk 12 .eql 3 0,f' 12 true 14 1 1,l' 12 true 15 14,di 12 true 16 .geq 15 (-4611686018427387904),a 17 12 16,f' 17 true 19 1 1,l' 17 true 20 19,di 17 true 21 .leq 20 4611686018427387903,a 22 17 21,m 2 22] [2] <| .ret) (z [bk 24 .eql 8 2,m 23 24] [1,3,8,23] <| j 23 (z [bk 26 .leq 3 8,f' 26 true 28 1 1,l' 26 true 29 28,di 26 true 30 .geq 29 0,a 31 26 30,m 2 31] [2] <| .ret) (z [bk 33 .eql 8 3,m 32 33] [1,3,8,32] <| j 32 (z [bk 35 .eql 3 2,f' 35 true 37 1 1,l' 35 true 38 37,di 35 true 39 .eql 38 0,a 40 35 39,m 2 40] [2] <| .ret) (.seq (z [bk 42 .eql 8 4,m 41 42] [1,3,8,41] <| j 41 (.skip) (q [bk 43 .eql 8 8,m 41 43] [1,3,8,41])) <| j 41 (z [bk 45 .eql 3 0,f' 45 true 47 1 1,l' 45 true 48 47,di 45 true 49 .geq 48 0,a 50 45 49,m 2 50] [2] <| .ret) (z [bk 52 .eql 8 5,m 51 52] [1,3,8,51] <| j 51 (z [bk 54 .eql 3 1,f' 54 true 56 1 1,l' 54 true 57 56,di 54 true 58 .eql 57 0,a 59 54 58,m 2 59] [2] <| .ret) (.seq (z [bk 61 .eql 8 6,m 60 61] [1,3,8,60] <| j 60 (.skip) (q [bk 62 .eql 8 7,m 60 62] [1,3,60])) <| j 60 (z [bk 64 .eql 3 0,f' 64 true 66 1 1,l' 64 true 67 66,di 64 true 68 .eql 67 0,a 69 64 68,m 2 69] [2] <| .ret) (.skip)))))))) <| z [.r (some 2) (.mv (.c (.bool false)))] [2] <| .ret
theorem aca:Fits Tryz.prog 238 1 (bf Tryz.f238 J') J' [.t 2] 70:=.m Tryz.f238 _
def RI:IR:=z [bi 10 .lss 9 8] [0,7,8,9,10] <| .seq (j 10 (.skip) ((.exit 0))) <| .seq (.block 1 (z [ia 11 1 7 9,l 12 11,m 6 12] [0,6,7,8,9] <| z [bk 14 .lss 6 0,m' 14 false 16 6,m' 14 false 17 0,n' 14 false 18 17,f' 14 false 19 1 18,l' 14 false 20 19,jS 14 false 21 20,gJ 14 false 22 .geq 16 21,u 23 14 22] [0,7,8,9,23] <| j 23 (z [.r (some 4) (.mv (.c (.bool false)))] [4] <| .ret) (.skip))) <| q [bk 24 .add 9 1,m 9 24] [0,7,8,9]
def Ka:IR:=z [] [0,1] <| .seq (z [m 7 1,le 8 7,mk 9 0] [0,7,8,9] <| .block 0 (.loop RI)) <| z [.r (some 4) (.mv (.c (.bool true)))] [4] <| .ret
theorem acb:Fits Tryz.prog 239 2 (bf Tryz.f239 Ka) Ka [.t 4] 25:=.m Tryz.f239 _
def Kb:IR:=z [.e (some 1) (.bx 104 (.t 0)),.e (some 2) (.al 277 (.agg #[(i 0),(i 0),(.slice none 0 0)]))] [1,2] <| .seq (.dr (r 0 3 (.fa 0 (.t 1)) <| r 1 4 (.l1 (.t 3)) <| r 2 5 (.fa 1 (.t 1)) <| r 3 6 (.l1 (.t 5)) <| r 4 7 (.bd #[(i 0),(i 0)] [(0,1,(.t 4)),(1,1,(.t 6))]) <| r 5 8 (.fa 2 (.t 1)) <| r 6 9 (.l1 (.t 8)) <| .e 7 none (some 10) (.call 242 [(.t 9)]) [1,3] <| r 8 11 (.bd #[(i 0),(i 0),(.slice none 0 0)] [(0,2,(.t 7)),(2,1,(.t 10))]) <| .e 9 none none (.st 3 (.t 2) (.t 11)) [] <| .nil) [2]) <| .ret
theorem acd:Fits Tryz.prog 240 1 (bf Tryz.f240 Kb) Kb [.n 2 3] 12:=.m Tryz.f240 _
def Kc:IR:=z [] [0,1] <| z [c 7 243 [0,1],m 1 7] [0,1] <| .seq (z [n 9 0,f 10 3 9,l 11 10,ia 13 1 11 1,l 14 13,bk 15 .eql 14 0] [0,1,15] <| j 15 (.seq (.dr (r 0 16 (.mv (.t 0)) <| r 1 17 (.mv (.t 0)) <| r 2 18 (.nn (.t 17)) <| r 3 19 (.fa 1 (.t 18)) <| r 4 20 (.l1 (.t 19)) <| r 5 21 (.mv (.t 0)) <| r 6 22 (.nn (.t 21)) <| r 7 23 (.fa 0 (.t 22)) <| r 8 24 (.l1 (.t 23)) <| r 9 25 (.mv (.t 1)) <| r 10 26 (.ia 3 (.t 24) (.t 25)) <| r 11 27 (.fa 0 (.t 26)) <| r 12 28 (.ln 2 (.t 27)) <| r 13 29 (.mv (.t 0)) <| r 14 30 (.nn (.t 29)) <| r 15 31 (.fa 0 (.t 30)) <| r 16 32 (.l1 (.t 31)) <| r 17 33 (.mv (.t 1)) <| r 18 34 (.ia 3 (.t 32) (.t 33)) <| r 19 35 (.fa 2 (.t 34)) <| r 20 36 (.l1 (.t 35)) <| .e 21 none (some 37) (.call 242 [(.t 36)]) [4,8,12] <| r 22 38 (.bd #[(i 0),(i 0),(.slice none 0 0)] [(0,2,(.t 28)),(2,1,(.t 37))]) <| .e 23 none (some 39) (.bs 277 1 #[(i 0),(i 0),(.slice none 0 0)] [(0,3,(.t 38))]) [4] <| .e 24 none (some 40) (.ap 277 3 40 #[(i 0),(i 0),(.slice none 0 0)] (.t 20) (.t 39)) [] <| r 25 41 (.nn (.t 16)) <| r 26 42 (.fa 1 (.t 41)) <| .e 27 none none (.st 1 (.t 42) (.t 40)) [] <| .nil) [0,1]) <| q' [m 43 0,n 44 43,f 45 3 44,l 46 45,m 47 1,m 48 0,n 49 48,f 50 1 49,l 51 50,le 52 51,ia 53 1 46 47,s 1 53 52] [0,1]) (.skip)) <| z [n 55 0,f 56 3 55,l 57 56,ia 59 1 57 1,l 60 59,bk 61 .sub 60 1,m 4 61] [4] <| .ret
theorem ace:Fits Tryz.prog 241 2 (bf Tryz.f241 Kc) Kc [.t 4] 62:=.m Tryz.f241 _
def Ke:IR:=z [] [0] <| z [le 5 0,.e (some 6) (.ms 3 1 8 #[(i 0)] (.t 5) (.t 5)),m 3 6] [0,3] <| z [.e (some 9) (.cp 1 (.t 3) (.t 0))] [3] <| z [m 2 3] [2] <| .ret
theorem acf:Fits Tryz.prog 242 1 (bf Tryz.f242 Ke) Ke [.t 2] 11:=.m Tryz.f242 _
def RJ:IR:=.seq (z [n 17 0,f 18 2 17,l 19 18,ia 21 1 19 1,l 22 21,bk 23 .eql 22 0,m' 23 true 25 0,n' 23 true 26 25,f' 23 true 27 0 26,l' 23 true 28 27,m' 23 true 29 1,uW 23 true 30 3 28 29,f' 23 true 31 0 30,f' 23 true 32 0 31,l' 23 true 33 32,di 23 true 34 .eql 33 5,a 35 23 34] [0,1,35] <| j 35 (.skip) ((.exit 0))) <| .block 1 (z [n 37 0,f 38 2 37,l 39 38,ia 41 1 39 1,.e none (.st 1 (.t 41) (k (-1)))] [0,1] <| z [n 44 0,f 45 4 44,l 46 45,.e (some 48) (.bs 3 1 #[(i 0)] [(0,1,(.t 1))]),.e (some 49) (.ap 3 1 8 #[(i 0)] (.t 46) (.t 48)),n 50 0,f 51 4 50,s 1 51 49] [0,1] <| q [n 53 0,f 54 0 53,l 55 54,ia 57 3 55 1,f 58 2 57,l 59 58,.r (some 60) (.ia 1 (.t 59) (k 0)),l 61 60,m 1 61] [0,1])
def RK:IR:=z [bi 93 .lss 92 91] [0,5,90,91,92,93] <| .seq (j 93 (.skip) ((.exit 2))) <| .seq (.block 3 (z [ia 94 1 90 92,l 95 94,m 7 95] [0,5,7,90,91,92] <| q [n 97 0,f 98 2 97,l 99 98,bk 102 .add 5 1,ia 103 1 99 7,s 1 103 102] [0,5,90,91,92])) <| q [bk 104 .add 92 1,m 92 104] [0,5,90,91,92]
def Kf:IR:=z [] [0,1] <| z [n 10 0,f 11 4 10,l 12 11,.r (some 13) (.sl 1 (.t 12) none (some (k 0)) none),n 14 0,f 15 4 14,s 1 15 13] [0,1] <| .seq (.block 0 (.loop RJ)) <| z [m 5 1] [0,1,5] <| .seq (z [n 64 0,f 65 2 64,l 66 65,ia 68 1 66 1,l 69 68,bk 70 .gtr 69 0] [0,1,5,70] <| j 70 (q [n 72 0,f 73 2 72,l 74 73,ia 76 1 74 1,l 77 76,bk 78 .sub 77 1,m 5 78] [0,1,5]) (.skip)) <| z [n 80 0,f 81 2 80,l 82 81,bk 85 .add 5 1,ia 86 1 82 1,s 1 86 85] [0,5] <| .seq (z [n 88 0,f 89 4 88,l 90 89,le 91 90,mk 92 0] [0,5,90,91,92] <| .block 2 (.loop RK)) <| z [m 4 5] [4] <| .ret
theorem acg:Fits Tryz.prog 243 2 (bf Tryz.f243 Kf) Kf [.t 4] 106:=.m Tryz.f243 _
end
section
open Go Go.W Go.RowKit Go.Maps Go.Sort Go.Shelf Go.ChangeMaps Go.MapKept
open Go.WideElems (Fit rd rg)
theorem ach (m:Nat):AnyZI.SortsIn Tryz.prog Tryz.Ri Fence.wide m:=
 ⟨fun fO off cap ss W hH aci dQ=>callsIn_wide.2 (AnyM.slices_Sort_int Tryz.Rj fO off cap ss W hH aci dQ),
  fun p cap W=>callsIn_wide.2 (AnyM.slices_Sort_int_none Tryz.Rj p cap W)⟩
theorem acj (w:World) (mb:Option Nat):aK Tryz.prog 203 [.map mb] w fun v w'=>v = .func (.func 208) #[] #[.pointer (some ⟨w.heap.size,0,none⟩)]∧w'=w.alloc (.cells #[.map mb] 200):=by
 have:=callsIn_wide.1 (AnyZI.keys_in Tryz.Rh Fence.wide 5 trivial rfl mb w);exact this.mono (fun e w' ⟨h1,h2⟩=>⟨_,h1,rfl,h2⟩)
def R0 {H:Type}:Value→Option (DataW H×List MemPlace):=fun _=>some (.nil,[])
theorem RL {k:Int} (h : -9223372036854775808≤k∧k≤9223372036854775807):keyOf Tryz.prog 3 (I k)=some (.int .i64 k):=by
 have h1:IntKind.i64.min = -9223372036854775808:=rfl;have h2:IntKind.i64.max=9223372036854775807:=rfl;have h3:(Lit.int .i64 k).wf=true:=by simp only [Lit.wf,Bool.and_eq_true,decide_eq_true_eq];omega
 simp [keyOf,Tryz.underlying3,mapKey,I,h3]
theorem ack {w:World} {b:Nat} {l:List (Int×Int)} (h:gi w b l) (hn:(l.map (·.1)).Nodup) (hk:∀ p∈l,-9223372036854775808≤p.1∧p.1≤9223372036854775807) (hl:l.length≤1048576) :
   ∃ D0:DataW Unit,w.ownsMap Tryz.prog 3 R0 b l.length D0∧Maps.size D0=l.length∧(intKeys D0).Perm (l.map (·.1)):=by
 obtain ⟨es,clock,h1,h2,h3,h4⟩:=h;have dQ:es.size=l.length:=by have:=congrArg List.length h2;simpa using this
 have dN:∀ x∈es.toList,∃ p∈l,x.key=I p.1∧x.val=I p.2:=by
  intro x U;obtain ⟨i,hi,rfl⟩:=List.getElem_of_mem U;have gz:i < l.length:=by
   have:es.toList.length=es.size:=by simp
   omega
  have:=congrArg (fun z=>z[i]?) h2;simp only [List.getElem?_map,List.getElem?_eq_getElem hi,List.getElem?_eq_getElem gz,Option.map_some,Option.some.injEq,Prod.mk.injEq] at this;exact ⟨_,List.getElem_mem gz,this.1,this.2⟩
 have rD:∀ x∈es.toList,∃ p∈l,x.key=I p.1∧rd (H:=Unit) Tryz.prog 3 R0 x=some (.int .i64 p.1,.nil):=by
  intro x U;obtain ⟨p,hp,e1,e2⟩:=dN x U;exact ⟨p,hp,e1,by simp [WideElems.rd,e1,RL (hk p hp),R0]⟩
 have acm:es.toList.map (·.key)=(l.map (·.1)).map I:=by
  have:=congrArg (List.map Prod.fst) h2
  simpa [List.map_map,Function.comp_def] using this
 have RM:es.toList.map (rg (H:=Unit) Tryz.prog 3 R0)=l.map (fun p=>(Lit.int .i64 p.1,DataW.nil)):=by
  apply List.ext_getElem?;intro i;have:=congrArg (fun z=>z[i]?) h2;simp only [List.getElem?_map] at this ⊢;cases U:es.toList[i]? with
  | none=>
   rw [U] at this;cases hp:l[i]? with
   | none=>rfl
   | some p=>rw [hp] at this;simp at this
  | some x=>
   rw [U] at this;cases hp:l[i]? with
   | none=>rw [hp] at this;simp at this
   | some p=>
    rw [hp] at this;simp only [Option.map_some,Option.some.injEq,Prod.mk.injEq] at this;simp [WideElems.rg,WideElems.rd,this.1,RL (hk p (List.mem_of_getElem? hp)),R0]
 refine ⟨_,⟨es,clock,h1,⟨?_,⟨h3,h4,?_⟩,fun x U=>?_⟩,Nat.le_of_eq dQ,rfl⟩,?_,?_⟩
 ·have:maxLen=9223372036854775807:=by decide
  omega
 ·rw [acm];refine List.Pairwise.map _ ?_ hn;intro a b gT hh;exact gT (by simpa [I] using hh)
 ·obtain ⟨p,_,_,h5⟩:=rD x U;exact ⟨_,h5⟩
 ·rw [RM];have:=(Go.WideShapes.sorted_perm (l.map (fun p=>((Lit.int .i64 p.1,DataW.nil):Lit×DataW Unit)))).length_eq
  simpa [Maps.size] using this
 ·rw [RM];have:=(Go.WideShapes.sorted_perm (l.map (fun p=>((Lit.int .i64 p.1,DataW.nil):Lit×DataW Unit)))).map (fun p=>Go.intOf p.1)
  simpa [intKeys,List.map_map,Function.comp_def,Go.intOf] using this
def wR (l:List (Int×Int)):List Int:=(l.map (·.1)).mergeSort (fun x y=>decide (x≤y))
theorem acn (w:World) (Bm b:Nat) (l:List (Int×Int)) (RN:w.heap[Bm]? = some (.cells #[.map (some b)] 200 (0,0))) (h:gi w b l) (hn:(l.map (·.1)).Nodup) (hk:∀ p∈l,-9223372036854775808≤p.1∧p.1≤9223372036854775807) (hl:l.length≤1048576) :
   aK Tryz.prog 202 [.func (.func 208) #[] #[.pointer (some ⟨Bm,0,none⟩)]] w fun v w'=>Mod (fun _=>False) w w'∧∃ fp,ao w' 3 1 v ((wR l).map I) (wR l).length fp∧∀ x,fp=some x→w.heap.size≤x:=by
 obtain ⟨D0,Kg,dQ,aco⟩:=ack h hn hk hl;have ah:Bm < w.heap.size:=lt_of_heap RN;have gC:w.cell? ⟨Bm,0,none⟩=some (.map (some b)):=by rw [cell_of RN];rfl
 have pC:SeqGives Fence.wide 2 Tryz.prog 208 #[.pointer (some ⟨Bm,0,none⟩)] encZ (fun ss=>ss.Perm (intKeys D0)) (Maps.size D0) w:=
  AnyZI.keys_gives (ρ:=Tryz.Rg) { Tryz.Rh with} Fence.wide _ trivial rfl (by omega) Bm b l.length D0 w ah gC Kg
 have acp:Maps.size D0≤maxLen:=by
  have:maxLen=9223372036854775807:=by decide
  omega
 have cS:=AnyZI.sorted_in Tryz.abg Fence.wide 5 trivial trivial trivial trivial rfl (by omega) (ach _) (enters_of Tryz.func207 (by kernel_rfl) rfl) 208 #[.pointer (some ⟨Bm,0,none⟩)] trivial (enters_of Tryz.func208 (by kernel_rfl) rfl) _ _ acp (by omega) _ pC;refine (callsIn_wide.1 cS).mono ?_;rintro e w' ⟨v,ss,rfl,hS,eL,aoI,hb⟩;have hm:Mod (fun _=>False) w w':=⟨hb.size,fun i hi _=>hb.block i hi,hb.os,hb.tape,hb.output⟩;have E':ss.mergeSort (fun x y=>decide (x≤y))=wR l:=mergeSort_of_perm_i (hS.trans aco);have hlen:ss.length=(wR l).length:=by rw [← E',List.length_mergeSort]
 rw [E',hlen] at eL;have acq:((wR l).map encZ:List Value)=(wR l).map I:=rfl;rw [acq] at eL;obtain ⟨h1,h2⟩:=eL;rcases h2 with ⟨rfl,h2⟩ | ⟨g,cap,cur,rfl,hg,hh,r1,r2,r3,r4⟩
 ·exact ⟨_,rfl,hm,none,⟨h1,.inl ⟨rfl,h2,rfl⟩⟩,fun x U=>by cases U⟩
 ·refine ⟨_,rfl,hm,some g,⟨h1,.inr ⟨g,cap,cur.toList.drop ((wR l).length*1),rfl,rfl,?_,?_,r1⟩⟩,fun x U=>by cases U;exact hg⟩
  ·rw [← r4,List.take_append_drop];exact hh
  ·rw [← r4,List.take_append_drop];simpa using Nat.le_of_eq r3.symm
end
section
open Go Go.W
structure Nd where
 kind:Int
 num:Int
 args:List Int
def gU (k n:Int) (a:Nat):Bool:=
 decide ((k=1∧a=0 ∧ -4611686018427387904≤n∧n≤4611686018427387903)∨(k=2∧a≤8∧0≤n)∨(k=3∧a=2∧n=0)∨((k=4∨k=8)∧a=0∧0≤n) ∨
  (k=5∧a=1∧n=0)∨((k=6∨k=7)∧a=0∧n=0))
def Nd.may (n:Nd):Bool:=gU n.kind n.num n.args.length
def bJ (len:Nat) (l:List Int):Bool:=l.all fun x=>decide (0≤x)&&decide (x < len)
def nc (p:Nd×Value):List Value:=[I p.1.kind,I p.1.num,p.2]
def flat (ps:List (Nd×Value)):List Value:=ps.flatMap nc
theorem mJ (ps:List (Nd×Value)):(flat ps).length=ps.length*3:=by
 induction ps with
 | nil=>rfl
 | cons p ps ih=>simp only [flat,List.flatMap_cons,List.length_append] at *;simp only [nc,List.length_cons,List.length_nil] at *;omega
theorem wS (ps qs:List (Nd×Value)):flat (ps++qs)=flat ps++flat qs:=by simp [flat]
theorem Fz (ps:List (Nd×Value)) (i:Nat) (h:i < ps.length):((flat ps).drop (i*3)).take 3=nc ps[i]:=by
 have h1:ps=ps.take i++ps[i]::ps.drop (i+1):=by simp
 have h2:flat ps=flat (ps.take i)++(nc ps[i]++flat (ps.drop (i+1))):=by
  conv=>lhs;rw [h1]
  rw [wS];rfl
 have h3:(flat (ps.take i)).length=i*3:=by rw [mJ];simp;omega
 rw [h2,← h3,List.drop_left];exact List.take_left' rfl
theorem acr (ps:List (Nd×Value)) (i k:Nat) (h:i < ps.length) (hk:k < 3):(flat ps)[i*3+k]? = (nc ps[i])[k]?:=by
 rw [← Fz ps i h,List.getElem?_take,if_pos hk,List.getElem?_drop]
theorem RO (ps:List (Nd×Value)) (i:Nat) (q:Nd×Value) (h:i < ps.length) (cg:List Value) :
   sp (flat ps++cg).toArray (i*3) (nc q)=(flat (ps.set i q)++cg).toArray:=by
 have h1:ps=ps.take i++ps[i]::ps.drop (i+1):=by simp
 have h2:flat ps=flat (ps.take i)++(nc ps[i]++flat (ps.drop (i+1))):=by
  conv=>lhs;rw [h1]
  rw [wS];rfl
 have h3:(flat (ps.take i)).length=i*3:=by rw [mJ];simp;omega
 have h4:flat (ps.set i q)=flat (ps.take i)++(nc q++flat (ps.drop (i+1))):=by
  rw [List.set_eq_take_append_cons_drop,if_pos h,wS];rfl
 unfold sp;rw [h2,h4]
 congr 1
 simp only [List.append_assoc];rw [← h3,List.take_left]
 congr 2
 have h5:(flat (ps.take i)++(nc ps[i]++(flat (ps.drop (i+1))++cg))).drop ((flat (ps.take i)).length+(nc q).length)=flat (ps.drop (i+1))++cg:=by
  rw [← List.drop_drop,List.drop_left];exact List.drop_left' rfl
 exact h5
def ly (w:World) (ps:List (Nd×Value)) (F:Nat→Prop):Prop:=
 ∀ p∈ps,∃ fp,ao w 3 1 p.2 (p.1.args.map I) p.1.args.length fp∧∀ b,fp=some b→F b
theorem ly.mod {w w':World} {ps:List (Nd×Value)} {F S:Nat→Prop} (h:ly w ps F) (hm:Mod S w w') (hd:∀ b,F b→¬ S b):ly w' ps F:=by
 intro p hp;obtain ⟨fp,h1,h2⟩:=h p hp;exact ⟨fp,h1.mod hm (fun b hb=>hd b (h2 b hb)),h2⟩
theorem ly.az {w:World} {ps:List (Nd×Value)} {F F':Nat→Prop} (h:ly w ps F) (hf:∀ b,F b→F' b):ly w ps F':=by
 intro p hp;obtain ⟨fp,h1,h2⟩:=h p hp;exact ⟨fp,h1,fun b hb=>hf b (h2 b hb)⟩
theorem RP (k n:Int) (v:Value) (xs:List Int) (w:World) (U:Ints w v xs) :
   aK Tryz.prog 238 [.agg #[I k,I n,v]] w fun r w'=>r = .bool (gU k n xs.length)∧Mod (fun _=>False) w w':=by
 obtain ⟨a,c,rfl,hl,_⟩:=U;refine aca.calls rfl ?_;unfold J';refine σ ?_;refine cK rfl ?_;intro w1 hb hm _;have ah:=lt_of_heap hb;simp only [go_sem,simprocAttr,cell_of hb]
 repeat' (first | (refine aY rfl (fun h=>?_) (fun h=>?_)<;>simp only [go_sem,simprocAttr,cell_of hb,h]) | (refine uR rfl (fun h=>?_) (fun h=>?_)<;>simp only [go_sem,simprocAttr,cell_of hb,h]))
 all_goals (refine ⟨?_,hm⟩;congr 1;rw [Bool.eq_iff_iff];unfold gU;simp only [aL,aM,aN,an,aQ] at *;omega)
def acs (w w':World) (r:Value) (xs:List Int):Prop:=
 ∃ b,r = .slice (some ⟨b,0,none⟩) xs.length xs.length∧w'.heap[b]? = some (.cells (xs.map I).toArray 3 (0,0))∧w.heap.size≤b∧Mod (fun _=>False) w w'
theorem FA (v:Value) (xs:List Int) (w:World) (U:Ints w v xs) :
   aK Tryz.prog 242 [v] w fun r w'=>acs w w' r xs:=by
 have qp:=U;obtain ⟨a,c,rfl,hl,_⟩:=U;refine acf.calls rfl ?_;unfold Ke;refine σ ?_;refine uS (n:=xs.length) rfl (by omega) (by omega) ?_;intro w1 ax ag cL;obtain ⟨_,hr,hn⟩:=(qp.mod ag (fun _ _ h=>h)).rd;refine σ ?_;refine abe (cs:=List.replicate xs.length (I 0)) rfl rfl hn (Nat.le_refl _) hr (pB xs) ax (by simp) ?_;intro w2 aC ae dq;refine σ ?_;exact ⟨_,rfl,by simpa using aC,Nat.le_refl _,ag.step ae (fun i hi ah=>by omega)⟩
def RQ (w:World) (a:Nat) (n:Nat):Prop:=∃ T sz ba c Cs,w.heap[a]? = some (.cells #[sz,.slice ba n c,Cs] T (0,0))
theorem Az (a n:Nat) (l:Value) (xs:List Int) (w:World) (ha:RQ w a n) (U:Ints w l xs) :
   aK Tryz.prog 239 [.pointer (some ⟨a,0,none⟩),l] w fun v w'=>v = .bool (bJ n xs)∧w=w':=by
 obtain ⟨T,sz,ba,c,Cs,ha⟩:=ha;obtain ⟨la,lc,rfl,hl,U⟩:=U;refine acb.calls rfl ?_;unfold Ka;refine σ ?_
 refine dA (fun m ρ w'=>∃ k:Nat,m=xs.length - k∧k≤xs.length∧w'=w∧bJ n (xs.take k)=true ∧
  ρ=[(0,.pointer (some ⟨a,0,none⟩)),(7,.slice la xs.length lc),(8,.int .i64 xs.length),(9,.int .i64 k)]) xs.length ⟨0,rfl,by omega,rfl,by simp [bJ],rfl⟩ ?_
 rintro m ρ _ ⟨k,rfl,hk,rfl,df,rfl⟩;unfold RI;refine σ ?_;refine aY rfl (fun h=>?_) (fun h=>?_)
 ·have ah:k < xs.length:=by simpa using h
  obtain ⟨ad,rfl,hc⟩:=U k ah;have c1:(0:Int)≤k∧(k:Int) < xs.length:=by omega
  simp only [go_sem,simprocAttr,c1,hc,and_self,Int.toNat_natCast,Nat.mul_one];refine uR rfl (fun hg=>?_) (fun hg=>?_)
  ·simp only [go_sem,simprocAttr,hg];rw [bJ,List.all_eq_false.2 ⟨xs[k],List.getElem_mem _,by simp at hg;simp;omega⟩]
  ·simp only [go_sem,simprocAttr,hg,cell_of ha];refine aY rfl (fun h2=>?_) (fun h2=>?_)
   ·refine σ ?_;rw [bJ,List.all_eq_false.2 ⟨xs[k],List.getElem_mem _,by simp at h2;simp;omega⟩]
   ·have hw:IntKind.i64.wrap ((k:Int)+1)=((k+1:Nat):Int):=by rw [cy]<;>omega
    simp only [go_sem,simprocAttr,hw];refine ⟨_,?_,k+1,rfl,ah,?_,rfl⟩
    ·omega
    ·unfold bJ at df ⊢;rw [List.take_succ_eq_append_getElem ah,List.all_append,df];simp at hg h2;simp;omega
 ·have dX:k=xs.length:=by simp at h;omega
  subst dX;refine σ ?_;rw [List.take_length] at df;rw [df]
theorem RR (k n:Int) (v:Value) (xs:List Int) (w:World) (iH:Ints w v xs) :
   aK Tryz.prog 240 [.agg #[I k,I n,v]] w fun r w'=>∃ b,r = .agg #[I k,I n,.slice (some ⟨b,0,none⟩) xs.length xs.length] ∧
    w'.heap[b]? = some (.cells (xs.map I).toArray 3 (0,0))∧w.heap.size≤b∧Mod (fun _=>False) w w':=by
 have U:=iH;obtain ⟨a,c,rfl,hl,_⟩:=iH;refine acd.calls rfl ?_;unfold Kb;refine σ ?_;refine cK rfl ?_;intro w1 ax ag cL;refine σ ?_;refine dk ?_;intro w2 aC ae dq;have fY:=ae.at ax (fun h=>h);simp only [go_sem,simprocAttr,cell_of fY];have fZ:Ints w2.drew (.slice a xs.length c) xs:=(U.mod (ag.trans ae.drew) (fun _ _ h=>h));refine δ (by rfl) (FA _ xs _ fZ) ?_;rintro r w3 ⟨b,rfl,aJ,hge,ab⟩;have ab:=ab.dj;have ah:=lt_of_heap fY;refine σ ?_;refine ⟨ab.old _ ah (fun h=>h),?_⟩;have iI:=ab.at aC (fun h=>h);have hge:w2.heap.size≤b:=hge;refine cX rfl rfl iI rfl rfl (by simp [Value.oneCell']) ?_;intro w4 aH ai eu;have fX:=lt_of_heap aC;simp only [go_sem,simprocAttr,dM aH (off:=0) (n:=3) (by simp)];exact ⟨b,rfl,ai.at aJ (by omega),by omega,((ag.trans ae).trans ab).step ai (fun i hi ah=>by omega)⟩
theorem ly.yx {w w':World} {ps:List (Nd×Value)} {F S:Nat→Prop} (h:ly w ps F) (hm:Mod S w w') (hs:∀ b cs fz,S b→w.heap[b]? = some (.cells cs 3 fz)→False):ly w' ps F:=by
 intro p hp;obtain ⟨fp,h1,h2⟩:=h p hp;exact ⟨fp,h1.yx hm hs,h2⟩
theorem ly.app {w:World} {ps qs:List (Nd×Value)} {F:Nat→Prop} (h:ly w ps F) (k:ly w qs F):ly w (ps++qs) F:=by
 intro p hp;rcases List.mem_append.1 hp with hp | hp
 ·exact h p hp
 ·exact k p hp
def kg (Ta Tc:Nat) (w:World) (a:Nat) (size times:Int) (ns:List Nd) (F:Nat→Prop):Prop:=
 ∃ cv dY ps,w.heap[a]? = some (.cells #[I size,cv,I times] Ta (0,0))∧F a∧ao w Tc 3 cv (flat ps) ns.length dY∧(∀ b,dY=some b→F b)∧ly w ps F∧ps.map Prod.fst=ns∧(∀ b,F b→b < w.heap.size)
theorem kg.mod {Ta Tc:Nat} {w w':World} {a:Nat} {size times:Int} {ns:List Nd} {F S:Nat→Prop} (h:kg Ta Tc w a size times ns F) (hm:Mod S w w') (hd:∀ b,F b→¬ S b) :
   kg Ta Tc w' a size times ns F:=by
 obtain ⟨cv,dY,ps,h1,h2,h3,h4,h5,h6,h7⟩:=h;exact ⟨cv,dY,ps,hm.at h1 (hd a h2),h2,h3.mod hm (fun b hb=>hd b (h4 b hb)),h4,h5.mod hm hd,h6,fun b hb=>Nat.lt_of_lt_of_le (h7 b hb) hm.size⟩
def Grow (F F':Nat→Prop) (w w':World):Prop:=Mod F w w'∧∀ b,F' b→F b∨w.heap.size≤b
theorem kg.has {Ta Tc:Nat} {w:World} {a:Nat} {size times:Int} {ns:List Nd} {F:Nat→Prop} (h:kg Ta Tc w a size times ns F):RQ w a ns.length:=by
 obtain ⟨cv,dY,ps,h1,h2,h3,h4,h5,h6,h7⟩:=h;obtain ⟨x,c,rfl,_⟩:=h3.val;exact ⟨Ta,_,x,c,_,h1⟩
theorem acu (a:Nat) (size times:Int) (ns:List Nd) (F:Nat→Prop) (w:World) (h:kg 205 277 w a size times ns F) :
   aK Tryz.prog 237 [.pointer (some ⟨a,0,none⟩)] w fun r w'=>r=I ns.length∧w=w':=by
 obtain ⟨T,sz,x,c,Cs,h1⟩:=h.has;refine ab'.calls rfl ?_;unfold J9;simp only [go_sem,simprocAttr,cell_of h1]
theorem acw (size:Int) (w:World) :
   aK Tryz.prog 108 [I size] w fun r w'=>(1≤size∧size≤1048576→r = .tuple #[.pointer (some ⟨w.heap.size,0,none⟩),I 0]∧kg 205 277 w' w.heap.size size 0 [] (· = w.heap.size)∧Mod (fun _=>False) w w'∧w'.heap.size=w.heap.size+1) ∧
    (¬ (1≤size∧size≤1048576)→r = .tuple #[.pointer none,I 200]∧w=w'):=by
 refine abL.calls rfl ?_;unfold JK;refine σ ?_;refine uR rfl (fun h=>?_) (fun h=>?_)
 ·simp only [go_sem,simprocAttr,h];have h':size < 1:=by simpa using h
  exact ⟨fun hh=>by omega,fun _=>trivial⟩
 ·simp only [go_sem,simprocAttr,h];have h':¬ size < 1:=by simpa using h
  refine aY rfl (fun h2=>?_) (fun h2=>?_)
  ·refine σ ?_;have py:size > 1048576:=by simpa using h2
   exact ⟨fun hh=>by omega,fun _=>trivial⟩
  ·refine σ ?_;have py:¬ size > 1048576:=by simpa using h2
   refine cK rfl ?_;intro w1 ax ag cL;refine σ ?_;refine ⟨fun _=>⟨⟨_,none,[],ax,rfl,ao.nil w1 277 3,(fun b h=>by cases h),(fun p hp=>by cases hp),rfl,(fun b hb=>by omega)⟩,ag,cL⟩,fun hh=>by omega⟩
def pD (size:Int) (ns:List Nd) (nd:Nd):Int×Int×List Nd:=
 if nd.may=false then (0,1,ns) else if bJ ns.length nd.args=false then (0,202,ns) else if (ns.length:Int)=size then (0,201,ns) else (ns.length,0,ns++[nd])
def acx (Ta Tc:Nat) (a:Nat) (size times:Int) (F:Nat→Prop) (w:World) (s:Int×Int×List Nd) (r:Value) (w':World):Prop:=
 r = .tuple #[I s.1,I s.2.1]∧∃ F',kg Ta Tc w' a size times s.2.2 F'∧Grow F F' w w'
theorem FB (p:Nd×Value):flat [p]=nc p:=by simp [flat]
theorem acy (a:Nat) (size times:Int) (ns:List Nd) (nd:Nd) (v:Value) (F:Nat→Prop) (w:World) (h:kg 205 277 w a size times ns F) (hle:(ns.length:Int)≤size) (dQ:size≤1048576) (iH:Ints w v nd.args) :
   aK Tryz.prog 231 [.pointer (some ⟨a,0,none⟩),.agg #[I nd.kind,I nd.num,v]] w (acx 205 277 a size times F w (pD size ns nd)):=by
 have U:=iH;obtain ⟨va,vc,rfl,hl,_⟩:=iH;refine ab5.calls rfl ?_;unfold J4;refine σ ?_;refine cK rfl ?_;intro w1 ax ag cL;have h1:=h.mod ag (fun _ _ h=>h);have fJ:=U.mod ag (fun _ _ h=>h);have hd:cH w1 3 (.pointer (some ⟨w.heap.size,0,none⟩))=some (.agg #[I nd.kind,I nd.num,.slice va nd.args.length vc]):=dM ax (off:=0) (n:=3) (by simp);have same:∀ w2,Mod (fun _=>False) w1 w2→∃ F',kg 205 277 w2 a size times ns F'∧Grow F F' w w2:=fun w2 ae=>
  ⟨F,h1.mod ae (fun _ _ h=>h),(ag.trans ae).az (fun _ h=>h.elim),fun b hb=>.inl hb⟩
 simp only [go_sem,simprocAttr,hd];refine δ (by rfl) (RP nd.kind nd.num _ nd.args w1 fJ) ?_;rintro r w2 ⟨rfl,ae⟩;have aC:=ae.at ax (fun h=>h);refine σ ?_;refine aY rfl (fun hc=>?_) (fun hc=>?_)
 ·refine σ ?_;have bz:nd.may=false:=by simpa [Nd.may] using hc
  exact ⟨by simp [pD,bz],by simpa [pD,bz] using same w2 ae⟩
 have cY:nd.may=true:=by simpa [Nd.may] using hc
 have fZ:=fJ.mod ae (fun _ _ h=>h);have h2:=h1.mod ae (fun _ _ h=>h);simp only [go_sem,simprocAttr,cell_of aC];refine δ (by rfl) (Az a ns.length _ nd.args w2 h2.has fZ) ?_;rintro r _ ⟨rfl,rfl⟩;refine σ ?_;refine aY rfl (fun hc=>?_) (fun hc=>?_)
 ·refine σ ?_;have bz:bJ ns.length nd.args=false:=by simpa using hc
  exact ⟨by simp [pD,bz,cY],by simpa [pD,bz,cY] using same w2 ae⟩
 have cB:bJ ns.length nd.args=true:=by simpa using hc
 obtain ⟨cv,dY,ps,g1,g2,g3,g4,g5,g6,g7⟩:=h2;obtain ⟨ca,cc,rfl,fH,Ct⟩:=g3.val;simp only [go_sem,simprocAttr,cell_of g1];refine aY rfl (fun hc=>?_) (fun hc=>?_)
 ·refine σ ?_;have bz:(ns.length:Int)=size:=by simpa using hc
  exact ⟨by simp [pD,bz,cY,cB],by simpa [pD,bz,cY,cB] using same w2.drew ae.drew⟩
 have ey:¬ (ns.length:Int)=size:=by simpa using hc
 have E8:cH w2.drew.drew 3 (.pointer (some ⟨w.heap.size,0,none⟩))=some (.agg #[I nd.kind,I nd.num,.slice va nd.args.length vc]):=dM (w:=w2.drew.drew) aC (off:=0) (n:=3) (by simp);simp only [go_sem,simprocAttr,cell_of g1,E8];refine δ (by rfl) (RR nd.kind nd.num _ nd.args w2.drew.drew fZ) ?_;rintro r w3 ⟨b3,rfl,aJ,Cu,ab⟩;have ab:Mod (fun _=>False) w2 w3:=ab.dj.dj;have Cu:w2.heap.size≤b3:=Cu;have ga:=ab.at g1 (fun h=>h);have gc:=g3.mod ab (fun _ _ h=>h);refine σ ?_;refine ⟨ab.old _ (lt_of_heap g1) (fun h=>h),?_⟩;refine cd (by rfl) (by refine σ ?_;rfl) ?_;intro w4 aH ai eu;refine σ ?_;refine ⟨ai.old _ (lt_of_heap ga) (fun h=>h),?_⟩;have Cv:=ai.at ga (fun h=>h);have uX:=gc.mod ai (fun _ _ h=>h);have yE:=ai.at aJ (fun h=>h);refine eH (m:=1) (news:=nc (nd,.slice (some ⟨b3,0,none⟩) nd.args.length nd.args.length)) rfl uX rfl (fun h=>by cases h) (j9 aH) (by simp [nc,Value.oneCell']) rfl (by omega) (by omega) ?_;intro v5 w5 iV iW aB wT;have bj:dY≠some a:=jA uX Cv (by omega);have FC:=aB.at Cv bj;have acz:dY≠some b3:=jA uX yE (by omega);have Cw:=aB.at yE acz;obtain ⟨qq,qt,rfl,_⟩:=iW.val;refine σ ?_;refine bY (off:=1) rfl rfl FC rfl (by simp) ?_;intro w6 cN aD mK;have hw:IntKind.i64.wrap (((ns.length+1:Nat):Int) - 1)=ns.length:=by rw [cy]<;>omega
 simp only [go_sem,simprocAttr,cell_of cN,hw];have la:=lt_of_heap g1;have df:Mod F w w6:=(((((ag.az (fun _ h=>h.elim)).step ae (fun _ h _=>h.elim)).step ab (fun _ h _=>h.elim)).step ai (fun _ h _=>h.elim)).step aB (fun i h _=>g4 i h)).step aD (fun i h _=>h ▸ g2);have Cx:pD size ns nd=((ns.length:Int),0,ns++[nd]):=by simp [pD,cY,cB,ey]
 refine ⟨by rw [Cx],fun b=>F b∨b=b3∨iV=some b,?_,df,?_⟩
 ·rw [Cx];have hn5:iV≠some a:=jA iW FC (by omega);refine ⟨_,iV,ps++[(nd,.slice (some ⟨b3,0,none⟩) nd.args.length nd.args.length)],cN,.inl g2,?_,fun b hb=>.inr (.inr hb),?_,?_,?_⟩
  ·rw [wS,FB]
   simpa using iW.mod aD (fun b hb hh=>hn5 (by rw [hb,hh]))
  ·have e1:=((g5.yx (ab.trans ai) (fun _ _ _ h _=>h)).yx aB (fun b cs fz hb hc=>im uX hb hc (by omega))).yx aD (fun b cs fz hb hc=>mH FC (hb ▸ hc) (by omega));refine (e1.az (fun b hb=>.inl hb)).app ?_;intro p hp;simp only [List.mem_cons,List.not_mem_nil,or_false] at hp;subst hp;refine ⟨some b3,ao.fG (aD.at Cw (fun hh=>mH Cw (hh ▸ FC) (by omega))) (by simp),fun b hb=>.inr (.inl (by cases hb;rfl))⟩
  ·simp [g6]
  ·intro b hb;have:=ab.size;have:=ai.size;have:=aB.size;have:=aD.size;have:=lt_of_heap aJ;rcases hb with hb | hb | hb
   ·have:=g7 b hb;omega
   ·omega
   ·have:=iW.lt hb;omega
 ·intro b hb;have:=ag.size;have:=ae.size;have:=ab.size;have:=ai.size;rcases hb with hb | hb | hb
  ·exact .inl hb
  ·exact .inr (by omega)
  ·rcases wT b hb with hh | hh
   ·exact .inl (g4 b hh)
   ·exact .inr (by omega)
end
section
open Go Go.W
theorem FD {w:World} {b T:Nat} {xs:List Int} (h:w.heap[b]? = some (.cells (xs.map I).toArray T (0,0))) (hl:xs.length≤17592186044416) :
   Ints w (.slice (some ⟨b,0,none⟩) xs.length xs.length) xs:=by
 refine ⟨some ⟨b,0,none⟩,xs.length,rfl,hl,fun i hi=>⟨_,rfl,?_⟩⟩;rw [dB,cell_of h];simp [hi]
theorem Cy (n:Nat) (x:Int):bJ n [x]=decide (0≤x∧x < n):=by
 simp [bJ]
def yF (w w':World) (v:Value) (xs:List Int):Prop:=∃ fp,ao w' 3 1 v (xs.map I) xs.length fp∧∀ b,fp=some b→w.heap.size≤b
def acA (w:World) (ns:List Nd) (at':Int) (r:Value) (w':World):Prop:=
 Mod (fun _=>False) w w'∧(∀ i nd,at'=(i:Nat)→ns[i]? = some nd→∃ v,r = .tuple #[.agg #[I nd.kind,I nd.num,v],I 0]∧yF w w' v nd.args) ∧
  (¬ (0≤at'∧at' < ns.length)→r = .tuple #[.agg #[I 0,I 0,.slice none 0 0],I 202])
theorem acB {w:World} {b T:Nat} {ps:List (Nd×Value)} {cg:List Value} (h:w.heap[b]? = some (.cells (flat ps++cg).toArray T (0,0))) {i:Nat} (hi:i < ps.length) :
   cH w 3 (.pointer (some ⟨b,i*3,none⟩))=some (.agg #[I ps[i].1.kind,I ps[i].1.num,ps[i].2]):=by
 have hlen:=mJ ps;rw [dM h (off:=i*3) (n:=3) (by simp;omega)];rw [List.drop_append_of_le_length (by omega),List.take_append_of_le_length (by simp;omega),Fz ps i hi];rfl
theorem tM {w:World} {b T:Nat} {ps:List (Nd×Value)} {cg:List Value} (h:w.heap[b]? = some (.cells (flat ps++cg).toArray T (0,0))) {i k:Nat} (hi:i < ps.length) (hk:k < 3) :
   w.cell? ⟨b,i*3+k,none⟩=(nc ps[i])[k]?:=by
 have hlen:=mJ ps;rw [cell_of h,← acr ps i k hi hk];simp only [List.getElem?_toArray];rw [List.getElem?_append_left (by omega)]
theorem ly.at {w:World} {ps:List (Nd×Value)} {F:Nat→Prop} (h:ly w ps F) {i:Nat} (hi:i < ps.length) (hl:ps[i].1.args.length≤17592186044416):Ints w ps[i].2 ps[i].1.args:=by
 obtain ⟨fp,h1,_⟩:=h _ (List.getElem_mem hi);exact (h1.ints hl).1
theorem acC (a:Nat) (size times:Int) (ns:List Nd) (at':Int) (F:Nat→Prop) (w:World) (h:kg 205 277 w a size times ns F) (hlen:ns.length≤1048576) (dL:∀ nd∈ns,nd.args.length≤8) :
   aK Tryz.prog 234 [.pointer (some ⟨a,0,none⟩),I at'] w (acA w ns at'):=by
 refine ab7.calls rfl ?_;unfold J6;refine σ ?_;refine dk ?_;intro w1 ax ag cL;refine σ ?_;refine cd (by rfl) (by refine σ ?_;rfl) ?_;intro w2 aC ae dq;have dG:=ag.trans ae;have h2:=h.mod dG (fun _ _ h=>h);have U:Ints w2 (.slice (some ⟨w1.heap.size,0,none⟩) 1 1) [at']:=FD (xs:=[at']) aC (by simp);refine σ ?_;refine δ (by rfl) (Az a ns.length _ [at'] w2 h2.has U) ?_;rintro r _ ⟨rfl,rfl⟩;rw [Cy];have fY:=ae.at ax (fun h=>h);refine σ ?_;refine aY rfl (fun hc=>?_) (fun hc=>?_)
 ·have bz:¬ (0≤at'∧at' < ns.length):=by simp at hc;omega
  refine σ ?_;refine cX rfl rfl fY rfl rfl (by simp [Value.oneCell']) ?_;intro w3 aJ ab eP;simp only [go_sem,simprocAttr,dM aJ (off:=0) (n:=3) (by simp)];refine ⟨dG.step ab (fun i hi ah=>by omega),fun i nd he hn=>?_,fun _=>rfl⟩;exact absurd ⟨by omega,by have:=(List.getElem?_eq_some_iff.1 hn).1;omega⟩ bz
 ·have bz:0≤at'∧at' < ns.length:=by simpa using hc
  obtain ⟨i,rfl⟩:∃ i:Nat,at'=i:=⟨at'.toNat,by omega⟩;have hi:i < ns.length:=by omega
  obtain ⟨cv,dY,ps,g1,g2,g3,g4,g5,g6,g7⟩:=h2;have jw:ps.length=ns.length:=by rw [← g6];simp
  obtain ⟨bc,cc,uY,rfl,rfl,gc,fH,lY⟩:=g3.pos (by omega);have bO:i < ps.length:=by omega
  have bQ:ps[i].1=ns[i]:=by simp [← g6]
  simp only [go_sem,simprocAttr,cell_of g1,bz,Int.toNat_natCast,acB gc bO];refine dk ?_;intro w3 aJ ab eP;refine σ ?_;have yG:=g5.at bO (by rw [bQ];have:=dL ns[i] (List.getElem_mem hi);omega);obtain ⟨xa,xc,Cz,_,_⟩:=id yG;rw [Cz];refine cX rfl rfl aJ rfl rfl (by simp [Value.oneCell']) ?_;intro w4 aH ai eu;have Kh:Ints w4 (.slice xa ps[i].1.args.length xc) ps[i].1.args:=by
   rw [Cz] at yG;refine (yG.mod ab (fun _ _ h=>h)).mod ai (fun b hb hh=>?_);obtain ⟨fp,k1,k2⟩:=g5 _ (List.getElem_mem bO);rw [Cz] at k1;rcases k1.2 with ⟨k3,_,_⟩ | ⟨b',c',cg,k3,k4,k5,_⟩
   ·simp only [Value.slice.injEq] at k3;obtain ⟨rfl,_⟩:=k3;simp [jf] at hb
   ·simp only [Value.slice.injEq] at k3;obtain ⟨rfl,_⟩:=k3;simp only [jf,Option.some.injEq] at hb;subst hb;have:=lt_of_heap k5;omega
  simp only [go_sem,simprocAttr,cell_of aH];refine δ (by rfl) (FA _ _ w4.drew Kh) ?_;rintro r w5 ⟨b5,rfl,bZ,RS,aB⟩;have aB:=aB.dj;have RS:w4.heap.size≤b5:=RS;refine σ ?_;refine ⟨aB.old _ (lt_of_heap aH) (fun h=>h),?_⟩;have cN:=aB.at (ai.at (ab.at fY (fun h=>h)) (by have:=lt_of_heap fY;omega)) (fun h=>h);refine cX rfl rfl cN rfl rfl (by simp [Value.oneCell']) ?_;intro w6 cm aD mK;simp only [go_sem,simprocAttr,dM cm (off:=0) (n:=3) (by simp)];have l1:=lt_of_heap fY;refine ⟨(((dG.step ab (fun _ h _=>h)).step ai (fun j hj ah=>by omega)).step aB (fun _ h _=>h)).step aD (fun j hj ah=>by omega),fun j nd he hn=>?_,fun hh=>absurd bz hh⟩;obtain rfl:i=j:=by omega
  have e1:nd=ps[i].1:=by
   rw [bQ];rw [List.getElem?_eq_getElem hi] at hn;exact (Option.some.inj hn).symm
  subst e1;refine ⟨_,rfl,some b5,ao.fG (aD.at bZ (by omega)) (by simp),fun b hb=>by cases hb;have:=dG.size;omega⟩
def rO (ns:List Nd) (at':Int) (nd:Nd):Int×List Nd:=
 if ¬ (0≤at'∧at' < ns.length) then (202,ns) else if nd.may=false then (1,ns) else if bJ ns.length nd.args=false then (202,ns) else (0,ns.set at'.toNat nd)
def acD (Ta Tc:Nat) (a:Nat) (size times:Int) (F:Nat→Prop) (w:World) (s:Int×List Nd) (r:Value) (w':World):Prop:=
 r=I s.1∧∃ F',kg Ta Tc w' a size times s.2 F'∧Grow F F' w w'
theorem acE (ns:List Nd) (i:Nat) (nd:Nd) (hi:i < ns.length) (h:ns[i]=nd):ns.set i nd=ns:=by
 subst h;exact List.set_getElem_self hi
theorem acF (a:Nat) (size times:Int) (ns:List Nd) (at':Int) (nd:Nd) (v:Value) (F:Nat→Prop) (w:World) (h:kg 205 277 w a size times ns F) (hlen:ns.length≤1048576)
   (dL:∀ nd∈ns,nd.args.length≤8) (iH:Ints w v nd.args) :
   aK Tryz.prog 236 [.pointer (some ⟨a,0,none⟩),I at',.agg #[I nd.kind,I nd.num,v]] w (acD 205 277 a size times F w (rO ns at' nd)):=by
 have U:=iH;obtain ⟨va,vc,rfl,hl,_⟩:=iH;refine ab9.calls rfl ?_;unfold J8;refine σ ?_;refine cK rfl ?_;intro w1 ax ag cL;refine σ ?_;refine cd (by rfl) (by refine σ ?_;rfl) ?_;intro w2 aC ae dq;have dG:=ag.trans ae;have h2:=h.mod dG (fun _ _ h=>h);have fJ:Ints w2 (.slice (some ⟨w1.heap.size,0,none⟩) 1 1) [at']:=FD (xs:=[at']) aC (by simp);have fZ:=U.mod dG (fun _ _ h=>h);have fY:=ae.at ax (fun h=>h);have same:∀ w3,Mod (fun _=>False) w2 w3→∃ F',kg 205 277 w3 a size times ns F'∧Grow F F' w w3:=fun w3 ab=>
  ⟨F,h2.mod ab (fun _ _ h=>h),(dG.trans ab).az (fun _ h=>h.elim),fun b hb=>.inl hb⟩
 refine σ ?_;refine δ (by rfl) (Az a ns.length _ [at'] w2 h2.has fJ) ?_;rintro r _ ⟨rfl,rfl⟩;rw [Cy];refine σ ?_;refine aY rfl (fun hc=>?_) (fun hc=>?_)
 ·have bz:¬ (0≤at'∧at' < ns.length):=by simp at hc;omega
  refine σ ?_;have e:rO ns at' nd=(202,ns):=by unfold rO;rw [if_pos bz]
  rw [e];exact ⟨rfl,same w2 (Mod.refl _ _)⟩
 have bz:0≤at'∧at' < ns.length:=by simpa using hc
 obtain ⟨i,rfl⟩:∃ i:Nat,at'=i:=⟨at'.toNat,by omega⟩;have hi:i < ns.length:=by omega
 have hd:cH w2 3 (.pointer (some ⟨w.heap.size,0,none⟩))=some (.agg #[I nd.kind,I nd.num,.slice va nd.args.length vc]):=dM fY (off:=0) (n:=3) (by simp);simp only [go_sem,simprocAttr,hd];refine δ (by rfl) (RP nd.kind nd.num _ nd.args w2 fZ) ?_;rintro r w3 ⟨rfl,ab⟩;have aJ:=ab.at fY (fun h=>h);have h3:=h2.mod ab (fun _ _ h=>h);have wU:=fZ.mod ab (fun _ _ h=>h);refine σ ?_;refine aY rfl (fun hm=>?_) (fun hm=>?_)
 ·refine σ ?_;have iB:nd.may=false:=by simpa [Nd.may] using hm
  have e:rO ns i nd=(1,ns):=by unfold rO;rw [if_neg (by simpa using bz),if_pos iB]
  rw [e];exact ⟨rfl,same w3 ab⟩
 have oI:nd.may=true:=by simpa [Nd.may] using hm
 simp only [go_sem,simprocAttr,cell_of aJ];refine δ (by rfl) (Az a ns.length _ nd.args w3 h3.has wU) ?_;rintro r _ ⟨rfl,rfl⟩;refine σ ?_;refine aY rfl (fun ho=>?_) (fun ho=>?_)
 ·refine σ ?_;have nx:bJ ns.length nd.args=false:=by simpa using ho
  have e:rO ns i nd=(202,ns):=by unfold rO;rw [if_neg (by simpa using bz),if_neg (by simp [oI]),if_pos nx]
  rw [e];exact ⟨rfl,same w3 ab⟩
 have jx:bJ ns.length nd.args=true:=by simpa using ho
 have e:rO ns i nd=(0,ns.set i nd):=by unfold rO;rw [if_neg (by simpa using bz),if_neg (by simp [oI]),if_neg (by simp [jx])];simp
 rw [e];obtain ⟨cv,dY,ps,g1,g2,g3,g4,g5,g6,g7⟩:=h3;have jw:ps.length=ns.length:=by rw [← g6];simp
 obtain ⟨bc,cc,uY,rfl,rfl,gc,fH,lY⟩:=g3.pos (by omega);have bO:i < ps.length:=by omega
 have bQ:ps[i].1=ns[i]:=by simp [← g6]
 have FE:=mJ ps;have yG:=g5.at bO (by rw [bQ];have:=dL ns[i] (List.getElem_mem hi);omega);obtain ⟨xa,xc,Cz,_,_⟩:=id yG;have c0:w3.cell? ⟨bc,i*3,none⟩=some (I ps[i].1.kind):=by have:=tM gc bO (k:=0) (by omega);simpa [nc] using this
 have c1:w3.cell? ⟨bc,i*3+1,none⟩=some (I ps[i].1.num):=by have:=tM gc bO (k:=1) (by omega);simpa [nc] using this
 have c2:w3.cell? ⟨bc,i*3+2,none⟩=some (.slice xa ps[i].1.args.length xc):=by have:=tM gc bO (k:=2) (by omega);simpa [nc,Cz] using this
 have l2:cH w3.drew 2 (.pointer (some ⟨bc,i*3,none⟩))=some (.agg #[I ps[i].1.kind,I ps[i].1.num]):=by
  have:=dM (w:=w3.drew) gc (off:=i*3) (n:=2) (by simp;omega);rw [this,List.drop_append_of_le_length (by omega),List.take_append_of_le_length (by simp;omega)];have h3:=Fz ps i bO;have:((flat ps).drop (i*3)).take 2=(nc ps[i]).take 2:=by rw [← h3,List.take_take];rfl
  rw [this];rfl
 simp only [go_sem,simprocAttr,cell_of aJ];refine iG (fun ρ w'=>w'=w3.drew∧∃ q:Bool,(q=true→ns.set i nd=ns)∧ρ.get 0=some (.pointer (some ⟨a,0,none⟩))∧ρ.get 1=some (I i)∧ρ.get 5=some (.pointer (some ⟨w.heap.size,0,none⟩))∧ρ.get 54=some (.bool q)) ?_ ?_
 ·refine uR rfl (fun hz=>?_) (fun hz=>?_)
  ·have uJ:nd.args.length=0:=Int.ofNat.inj (eq_of_beq hz);simp only [go_sem,simprocAttr,cell_of aJ,cell_of g1,bz,Int.toNat_natCast,l2,hz,c2];refine uR rfl (fun ht=>?_) (fun ht=>?_)
   ·simp only [go_sem,simprocAttr,cell_of aJ,cell_of g1,bz,Int.toNat_natCast,l2,hz,c2,ht];refine ⟨_,fun hq=>?_,rfl⟩;have q1:ps[i].1.kind=nd.kind∧ps[i].1.num=nd.num:=by simpa using ht
    have q2:ps[i].1.args=[]:=by
     have:(ps[i].1.args.length:Int)=0:=by simpa using hq
     exact List.eq_nil_of_length_eq_zero (by omega)
    refine acE ns i nd hi ?_;rw [← bQ];have e3:nd.args=[]:=List.eq_nil_of_length_eq_zero uJ;have:∀ x y:Nd,x.kind=y.kind→x.num=y.num→x.args=y.args→x=y:=by intro x y h1 h2 h3;cases x;cases y;simp_all
    exact this _ _ q1.1 q1.2 (by rw [q2,e3])
   ·simp only [go_sem,simprocAttr,cell_of aJ,hz,ht];exact ⟨_,fun hq=>(by cases hq),rfl⟩
  ·simp only [go_sem,simprocAttr,cell_of aJ,hz];exact ⟨_,fun hq=>(by cases hq),rfl⟩
 ·rintro ρ _ ⟨rfl,q,hq,r0,r1,r5,r54⟩;simp only [go_sem,simprocAttr,r0,r1,r5,r54];refine aY rfl (fun ht=>?_) (fun ht=>?_)
  ·refine σ ?_;rw [hq ht];exact ⟨rfl,same w3.drew ab.drew⟩
  ·have hd3:cH w3.drew.drew 3 (.pointer (some ⟨w.heap.size,0,none⟩))=some (.agg #[I nd.kind,I nd.num,.slice va nd.args.length vc]):=dM (w:=w3.drew.drew) aJ (off:=0) (n:=3) (by simp);simp only [go_sem,simprocAttr,cell_of g1,hd3];refine δ (by rfl) (RR nd.kind nd.num _ nd.args w3.drew.drew wU) ?_;rintro r w4 ⟨b4,rfl,aH,RT,ai⟩;have ai:Mod (fun _=>False) w3 w4:=ai.dj.dj;have RT:w3.heap.size≤b4:=RT;simp only [go_sem,simprocAttr,bz,Int.toNat_natCast];refine ⟨ai.old _ (lt_of_heap g1) (fun h=>h),?_⟩;have uX:=ai.at gc (fun h=>h);have Cv:=ai.at g1 (fun h=>h);refine Jr rfl rfl uX rfl (by simp;omega) (by simp [Value.oneCell']) ?_;intro w5 bZ aB fP;refine σ ?_;have bj:a≠bc:=fun hh=>mH Cv (hh ▸ uX) (by omega)
   have ii:=RO ps i (nd,.slice (some ⟨b4,0,none⟩) nd.args.length nd.args.length) bO uY;have lc:=lt_of_heap gc;have la:=lt_of_heap g1;have l4:=lt_of_heap aH;have h45:=ai.size;have h55:=aB.size;refine ⟨rfl,fun b=>F b∨b=b4,⟨_,some bc,ps.set i (nd,.slice (some ⟨b4,0,none⟩) nd.args.length nd.args.length),aB.at Cv bj,.inl g2,?_,fun b hb=>.inl (g4 b hb),?_,?_,?_⟩,?_,?_⟩
   ·refine ⟨by rw [mJ];simp;omega,.inr ⟨bc,cc,uY,by simp,rfl,?_,?_,by simpa using fH⟩⟩
    ·rw [← ii];exact bZ
    ·rw [List.length_append,mJ,List.length_set,← mJ,← List.length_append];exact lY
   ·have e1:=(g5.yx ai (fun _ _ _ h _=>h)).yx aB (fun b cs fz hb hc=>mH uX (hb ▸ hc) (by omega));intro p hp;rcases List.mem_or_eq_of_mem_set hp with hp | rfl
    ·obtain ⟨fp,k1,k2⟩:=e1 p hp;exact ⟨fp,k1,fun b hb=>.inl (k2 b hb)⟩
    ·exact ⟨some b4,ao.fG (aB.at aH (fun hh=>mH aH (hh ▸ uX) (by omega))) (by simp),fun b hb=>.inr (by cases hb;rfl)⟩
   ·rw [List.map_set,g6]
   ·intro b hb;rcases hb with hb | hb
    ·have:=g7 b hb;omega
    ·omega
   ·exact (((dG.trans ab).az (fun _ h=>h.elim)).step ai (fun _ h _=>h.elim)).step aB (fun j hj _=>hj ▸ g4 bc rfl)
   ·intro b hb;have:=(dG.trans ab).size;rcases hb with hb | hb
    ·exact .inl hb
    ·exact .inr (by omega)
end
section
def fit (f:Nat→Nat):Nat→Nat→Nat
 | 0,x=>x
 | k+1,x=>fit f k (f x)
theorem kh (f:Nat→Nat) (a b x:Nat):fit f (a+b) x=fit f a (fit f b x):=by
 induction b generalizing x with
 | zero=>rfl
 | succ b ih=>exact ih (f x)
theorem qu (f:Nat→Nat) (k x:Nat):fit f (k+1) x=f (fit f k x):=by
 rw [Nat.add_comm,kh];rfl
theorem yH {f:Nat→Nat} {n:Nat} (hf:∀ x,x < n→f x < n) (k:Nat) {x:Nat} (U:x < n):fit f k x < n:=by
 induction k generalizing x with
 | zero=>exact U
 | succ k ih=>exact ih (hf x U)
theorem AA:∀ (n:Nat) (l:List Nat),l.Nodup→(∀ x∈l,x < n)→l.length≤n:=by
 intro n
 induction n with
 | zero=>
  intro l _ h;cases l with
  | nil=>simp
  | cons x l=>exact absurd (h x List.mem_cons_self) (by omega)
 | succ n ih=>
  intro l hn h;have h1:(l.erase n).length≤n:=by
   refine ih _ (hn.erase n) (fun x U=>?_);have h2:=(hn.mem_erase_iff).1 U;have:=h x h2.2;have:=h2.1;omega
  by_cases hm:n∈l
  ·rw [List.length_erase_of_mem hm] at h1;omega
  ·rw [List.erase_of_not_mem hm] at h1;omega
theorem acG {f:Nat→Nat} {n x:Nat} (hf:∀ x,x < n→f x < n) (U:x < n):∃ i j,i < j∧j≤n∧fit f i x=fit f j x:=by
 apply Classical.byContradiction;intro gS;have bQ:((List.range (n+1)).map (fun k=>fit f k x)).Nodup:=by
  unfold List.Nodup;rw [List.pairwise_map];have hp:(List.range (n+1)).Pairwise (· < ·):=List.pairwise_lt_range;refine (hp.imp_of_mem ?_);intro i j hi hj eA he;exact gS ⟨i,j,eA,by have:=List.mem_range.1 hj;omega,he⟩
 have:=AA n _ bQ (by
  intro y hy;obtain ⟨k,_,rfl⟩:=List.mem_map.1 hy
  exact yH hf k U)
 simp at this;omega
section
variable {f:Nat→Nat} {n:Nat} (hf:∀ x,x < n→f x < n)
include hf
theorem FF {x:Nat} (U:x < n) (m:Nat) (hm:n≤m):∃ d,1≤d∧d≤n∧fit f d (fit f m x)=fit f m x:=by
 obtain ⟨i,j,eA,hj,he⟩:=acG hf U;refine ⟨j - i,by omega,by omega,?_⟩;have h1:fit f m x=fit f (m - i) (fit f i x):=by rw [← kh];congr 1;omega
 rw [← kh,show j - i+m=(m - i)+j by omega,kh,← he,← kh]
 congr 1;omega
omit hf in
theorem acH {c d:Nat} (I0:1≤d) (hdn:d≤n) (hc:fit f d c=c):∀ m,∃ k,k≤n∧fit f m c=fit f k c:=by
 intro m
 induction m using Nat.strongRecOn with
 | _ m ih=>
  by_cases hm:m≤n
  ·exact ⟨m,hm,rfl⟩
  ·obtain ⟨k,hk,he⟩:=ih (m - d) (by omega);refine ⟨k,hk,?_⟩;rw [← he,show m=(m - d)+d by omega,kh,hc]
   congr 1;omega
omit hf in
theorem RU (l:List Nat):∀ a,(l.foldl min a=a∨l.foldl min a∈l)∧l.foldl min a≤a∧∀ x∈l,l.foldl min a≤x:=by
 induction l with
 | nil=>intro a;simp
 | cons y l ih=>
  intro a;obtain ⟨h1,h2,h3⟩:=ih (min a y);simp only [List.foldl_cons];refine ⟨?_,by omega,?_⟩
  ·rcases h1 with h1 | h1
   ·by_cases hay:a≤y
    ·left;rw [h1];omega
    ·right;rw [h1,show min a y=y by omega];exact List.mem_cons_self
   ·right;exact List.mem_cons_of_mem _ h1
  ·intro x U;cases U with
   | head=>omega
   | tail _ U=>exact h3 x U
omit hf
def ov (f:Nat→Nat) (n x:Nat):Nat:=((List.range (n+1)).map (fun k=>fit f k (fit f n x))).foldl min (fit f n x)
theorem oJ (f:Nat→Nat) (n x:Nat):∃ k,k≤n∧ov f n x=fit f (k+n) x:=by
 have:=(RU ((List.range (n+1)).map (fun k=>fit f k (fit f n x))) (fit f n x)).1;unfold ov;rcases this with h | h
 ·exact ⟨0,by omega,by rw [h];simp⟩
 ·obtain ⟨k,hk,he⟩:=List.mem_map.1 h;exact ⟨k,by have:=List.mem_range.1 hk;omega,by rw [← he,kh]⟩
theorem acI (f:Nat→Nat) (n x k:Nat) (hk:k≤n):ov f n x≤fit f k (fit f n x):=
 (RU ((List.range (n+1)).map (fun k=>fit f k (fit f n x))) (fit f n x)).2.2 _ (List.mem_map.2 ⟨k,List.mem_range.2 (by omega),rfl⟩)
include hf
theorem qv {x:Nat} (U:x < n):ov f n x < n:=by
 obtain ⟨k,_,h⟩:=oJ f n x;rw [h];exact yH hf _ U
theorem CA {x:Nat} (U:x < n) (m:Nat) (hm:n≤m):ov f n x≤fit f m x:=by
 obtain ⟨d,h1,h2,h3⟩:=FF hf U n (Nat.le_refl _);obtain ⟨k,hk,he⟩:=acH h1 h2 h3 (m - n);have:fit f m x=fit f k (fit f n x):=by rw [← he,← kh];congr 1;omega
 rw [this];exact acI f n x k hk
theorem uZ {x:Nat} (U:x < n):ov f n (f x)=ov f n x:=by
 apply Nat.le_antisymm
 ·obtain ⟨k,_,h⟩:=oJ f n x;obtain ⟨d,h1,h2,h3⟩:=FF hf U (k+n) (by omega);rw [h,← h3,← kh,show d+(k+n)=(d+(k+n) - 1)+1 by omega];exact CA hf (hf x U) (d+(k+n) - 1) (by omega)
 ·obtain ⟨k,_,h⟩:=oJ f n (f x);rw [h];exact CA hf U (k+n+1) (by omega)
theorem wV {x:Nat} (U:x < n) (k:Nat):ov f n (fit f k x)=ov f n x:=by
 induction k generalizing x with
 | zero=>rfl
 | succ k ih=>rw [show fit f (k+1) x=fit f k (f x) from rfl,ih (hf x U),uZ hf U]
theorem rP {x:Nat} (U:x < n):ov f n (ov f n x)=ov f n x:=by
 obtain ⟨k,_,h⟩:=oJ f n x
 conv=>lhs;rw [h]
 exact wV hf U _
theorem acJ {x y:Nat} (U:x < n) (hy:y < n):ov f n x=ov f n y↔∃ a b,fit f a x=fit f b y:=by
 constructor
 ·intro h;obtain ⟨a,_,ha⟩:=oJ f n x;obtain ⟨b,_,hb⟩:=oJ f n y;exact ⟨a+n,b+n,by rw [← ha,← hb,h]⟩
 ·rintro ⟨a,b,h⟩;rw [← wV hf U a,h,wV hf hy b]
omit hf
theorem CB {t:Nat} (h:f t=t):∀ k,fit f k t=t:=by
 intro k
 induction k with
 | zero=>rfl
 | succ k ih=>rw [qu,ih,h]
theorem AB {t:Nat} (h:f t=t):ov f n t=t:=by
 obtain ⟨k,_,he⟩:=oJ f n t;rw [he,CB h]
end
end
section
open Go Go.W
def ak (ns:List Nd) (p:Nat):Nd:=ns.getD p ⟨0,0,[]⟩
def ind (ns:List Nd) (p:Nat):Bool:=decide ((ak ns p).kind=5)
def ay (ns:List Nd) (p:Nat):Nat:=if ind ns p then ((ak ns p).args.getD 0 0).toNat else p
def WF (ns:List Nd):Prop:=∀ nd∈ns,nd.may=true∧bJ ns.length nd.args=true
theorem jh {ns:List Nd} (h:WF ns) {p:Nat} (hp:p < ns.length):(ak ns p).may=true∧bJ ns.length (ak ns p).args=true:=by
 have:ak ns p=ns[p]:=by simp [ak,hp]
 rw [this];exact h _ (List.getElem_mem hp)
theorem qw {ns:List Nd} (h:WF ns) {p:Nat} (hp:p < ns.length) (hi:ind ns p=true):∃ q:Nat,q < ns.length∧(ak ns p).args=[(q:Int)]∧ay ns p=q:=by
 obtain ⟨h1,h2⟩:=jh h hp;have hk:(ak ns p).kind=5:=by simpa [ind] using hi
 simp only [Nd.may,gU,hk,decide_eq_true_eq] at h1;have hl:(ak ns p).args.length=1:=by omega
 obtain ⟨x,U⟩:=List.length_eq_one_iff.1 hl;rw [U] at h2;rw [Cy] at h2;simp only [decide_eq_true_eq] at h2;refine ⟨x.toNat,by omega,by rw [U];congr 1;omega,by simp [ay,hi,U]⟩
theorem fu {ns:List Nd} (h:WF ns):∀ p,p < ns.length→ay ns p < ns.length:=by
 intro p hp;cases hi:ind ns p with
 | true=>obtain ⟨q,h1,_,h2⟩:=qw h hp hi;rw [h2];exact h1
 | false=>simp [ay,hi,hp]
theorem oK {ns:List Nd} {p:Nat} (hi:ind ns p=false):ay ns p=p:=by simp [ay,hi]
theorem CC {ns:List Nd} (h:WF ns):∀ nd∈ns,nd.args.length≤8:=by
 intro nd hn;have:=(h nd hn).1;simp only [Nd.may,gU,decide_eq_true_eq] at this;omega
def over (ns:List Nd) (p:Nat):Nat:=ov (ay ns) ns.length p
structure KI (ns:List Nd) (l:List Int):Prop where
 len:l.length=ns.length
 rep:∀ i,i < ns.length→l.getD i 0≠0→∃ e:Nat,l.getD i 0=e+1∧e < ns.length∧over ns e=over ns i∧l.getD e 0=e+1∧(ind ns e=true→ind ns (over ns i)=true)
 shut:∀ i,i < ns.length→l.getD i 0≠0→l.getD (ay ns i) 0≠0
 one:∀ i j,i < ns.length→j < ns.length→l.getD i 0≠0→l.getD j 0≠0→over ns i=over ns j→l.getD i 0=l.getD j 0
theorem acK {ns:List Nd} (hw:WF ns) {l:List Int} (h:KI ns l) {i:Nat} (hi:i < ns.length) (hk:l.getD i 0≠0):∀ k,l.getD (fit (ay ns) k i) 0≠0:=by
 intro k
 induction k with
 | zero=>exact hk
 | succ k ih=>rw [qu];exact h.shut _ (yH (fu hw) k hi) ih
theorem acL (ns:List Nd):KI ns (List.replicate ns.length 0):=by
 have h0:∀ i,(List.replicate ns.length (0:Int)).getD i 0=0:=by intro i;simp [List.getElem?_replicate];split<;>rfl
 refine ⟨by simp,fun i _ h=>absurd (h0 i) h,fun i _ h=>absurd (h0 i) h,fun i j _ _ h=>absurd (h0 i) h⟩
theorem acM {ns:List Nd} (hw:WF ns) {l l':List Int} (h:KI ns l) {p0 k e:Nat} (hp:p0 < ns.length)
   (Ca:∀ j,j < k→ind ns (fit (ay ns) j p0)=true∧l.getD (fit (ay ns) j p0) 0=0)
   (fi:(e=fit (ay ns) k p0∧l.getD e 0=0∧((ind ns e=false)∨∃ j,j < k∧e=fit (ay ns) j p0))∨(l.getD (fit (ay ns) k p0) 0=e+1))
   (hl:l'.length=ns.length) (kH:∀ i,i < ns.length→l'.getD i 0=if (∃ j,j≤k∧i=fit (ay ns) j p0) then (e:Int)+1 else l.getD i 0) :
   KI ns l'∧l'.getD p0 0=e+1∧(∀ i,i < ns.length→l.getD i 0≠0→l'.getD i 0=l.getD i 0):=by
 have hf:=(fu hw);have u0:∀ j,over ns (fit (ay ns) j p0)=over ns p0:=fun j=>wV hf hp j
 have CD:∀ j,fit (ay ns) j p0 < ns.length:=fun j=>yH hf j hp
 have agree:∀ i,i < ns.length→l.getD i 0≠0→over ns i=over ns p0→l.getD i 0=e+1:=by
  intro i hi hk ho;rcases fi with ⟨he,h0,lC⟩ | hkn
  ·exfalso;obtain ⟨a,b,gT⟩:=(acJ hf hi (CD k)).1 (ho.trans (u0 k).symm);have rQ:=acK hw h hi hk a;rw [gT] at rQ;rcases lC with wW | ⟨j,hj,yI⟩
   ·rw [← he,CB (oK wW) b] at rQ;exact rQ h0
   ·
    have acN:∀ b,∃ j',j' < k∧fit (ay ns) b (fit (ay ns) k p0)=fit (ay ns) j' p0:=by
     intro b;have aoJ:fit (ay ns) (k - j) (fit (ay ns) j p0)=fit (ay ns) j p0:=by
      rw [← kh,show k - j+j=k by omega,← he,yI]
     induction b with
     | zero=>exact ⟨j,hj,by show fit (ay ns) k p0=_;rw [← he,yI]⟩
     | succ b Ck=>
      obtain ⟨j',qx,hb⟩:=Ck;rw [qu,hb,← qu (ay ns)];by_cases tN:j'+1 < k
      ·exact ⟨j'+1,tN,rfl⟩
      ·have:j'+1=k:=by omega
       rw [this];exact ⟨j,hj,by rw [← he,yI]⟩
    obtain ⟨j',qx,hb⟩:=acN b;rw [hb] at rQ;exact rQ (Ca j' qx).2
  ·rw [← hkn];exact h.one _ _ hi (CD k) hk (by rw [hkn];omega) (ho.trans (u0 k).symm)
 have ef:∀ i,i < ns.length→l.getD i 0≠0→l'.getD i 0=l.getD i 0:=by
  intro i hi hk;rw [kH i hi]
  split
  ·rename_i hex;obtain ⟨j,_,rfl⟩:=hex;exact (agree _ hi hk (u0 j)).symm
  ·rfl
 have dF:e < ns.length∧over ns e=over ns p0∧l'.getD e 0=e+1∧(ind ns e=true→ind ns (over ns p0)=true):=by
  rcases fi with ⟨he,h0,lC⟩ | hkn
  ·refine ⟨by rw [he];exact CD k,by rw [he];exact u0 k,?_,?_⟩
   ·rw [kH e (by rw [he];exact CD k),if_pos ⟨k,Nat.le_refl _,he⟩]
   ·intro hi;rcases lC with wW | ⟨j,hj,yI⟩
    ·rw [wW] at hi;cases hi
    ·
     obtain ⟨q,_,hq⟩:=oJ (ay ns) ns.length p0;have acO:∀ m,ind ns (fit (ay ns) m p0)=true:=by
      intro m;have:∃ j',j' < k∧fit (ay ns) m p0=fit (ay ns) j' p0:=by
       induction m with
       | zero=>exact ⟨0,by omega,rfl⟩
       | succ m ihm=>
        obtain ⟨j',qx,hm⟩:=ihm;rw [qu,hm,← qu (ay ns)];by_cases tN:j'+1 < k
        ·exact ⟨j'+1,tN,rfl⟩
        ·have:j'+1=k:=by omega
         rw [this];exact ⟨j,hj,by rw [← he,yI]⟩
      obtain ⟨j',qx,hm⟩:=this;rw [hm];exact (Ca j' qx).1
     show ind ns (ov (ay ns) ns.length p0)=true;rw [hq];exact acO _
  ·obtain ⟨e',h1,h2,h3,h4,h5⟩:=h.rep _ (CD k) (by rw [hkn];omega);have:e'=e:=by omega
   subst this;refine ⟨h2,h3.trans (u0 k),by rw [ef _ h2 (by rw [h4];omega)];exact h4,?_⟩;intro hi;have:=h5 hi
   rwa [u0 k] at this
 refine ⟨⟨hl,?_,?_,?_⟩,?_,ef⟩
 ·intro i hi hk;rw [kH i hi] at hk;by_cases hex:∃ j,j≤k∧i=fit (ay ns) j p0
  ·obtain ⟨j,hj,rfl⟩:=hex;refine ⟨e,by rw [kH _ hi,if_pos ⟨j,hj,rfl⟩],dF.1,dF.2.1.trans (u0 j).symm,dF.2.2.1,fun hh=>by rw [u0 j];exact dF.2.2.2 hh⟩
  ·rw [if_neg hex] at hk;obtain ⟨e',h1,h2,h3,h4,h5⟩:=h.rep i hi hk;exact ⟨e',by rw [kH i hi,if_neg hex,h1],h2,h3,by rw [ef e' h2 (by rw [h4];omega),h4],h5⟩
 ·intro i hi hk;rw [kH i hi] at hk;rw [kH _ (hf i hi)];by_cases CE:∃ j,j≤k∧ay ns i=fit (ay ns) j p0
  ·rw [if_pos CE];omega
  ·rw [if_neg CE];by_cases hex:∃ j,j≤k∧i=fit (ay ns) j p0
   ·obtain ⟨j,hj,rfl⟩:=hex;by_cases oE:j < k
    ·exact absurd ⟨j+1,by omega,by rw [qu]⟩ CE
    ·have:j=k:=by omega
     subst this;rcases fi with ⟨he,h0,lC⟩ | hkn
     ·rcases lC with wW | ⟨j',qx,yI⟩
      ·exact absurd ⟨j,Nat.le_refl _,by rw [← he];exact oK wW⟩ CE
      ·exact absurd ⟨j'+1,by omega,by rw [← he,yI,qu]⟩ CE
     ·exact h.shut _ hi (by rw [hkn];omega)
   ·rw [if_neg hex] at hk;exact h.shut i hi hk
 ·intro i j hi hj uM rR ho;have val:∀ i,i < ns.length→l'.getD i 0≠0→over ns i=over ns p0→l'.getD i 0=e+1:=by
   intro i hi hk ho;rw [kH i hi] at hk ⊢
   split
   ·rfl
   ·rename_i hex;rw [if_neg hex] at hk;exact agree i hi hk ho
  by_cases lE:over ns i=over ns p0
  ·rw [val i hi uM lE,val j hj rR (ho ▸ lE)]
  ·have wW:∀ i,over ns i≠over ns p0→¬ ∃ j,j≤k∧i=fit (ay ns) j p0:=by
    rintro i bj ⟨j,_,rfl⟩;exact bj (u0 j)
   rw [kH i hi,if_neg (wW i lE)] at uM ⊢;rw [kH j hj,if_neg (wW j (ho ▸ lE))] at rR ⊢;exact h.one i j hi hj uM rR ho
 ·rw [kH p0 hp,if_pos ⟨0,by omega,rfl⟩]
end
section
open Go Go.W
def qy (Tc:Nat) (w:World) (cf:Value) (ns:List Nd) (F:Nat→Prop):Prop:=
 ∃ dY ps,ao w Tc 3 cf (flat ps) ns.length dY∧(∀ b,dY=some b→F b)∧ly w ps F∧ps.map Prod.fst=ns∧∀ b,F b→b < w.heap.size
theorem qy.mod {Tc:Nat} {w w':World} {cf:Value} {ns:List Nd} {F S:Nat→Prop} (h:qy Tc w cf ns F) (hm:Mod S w w') (hd:∀ b,F b→¬ S b):qy Tc w' cf ns F:=by
 obtain ⟨dY,ps,h1,h2,h3,h4,h5⟩:=h;exact ⟨dY,ps,h1.mod hm (fun b hb=>hd b (h2 b hb)),h2,h3.mod hm hd,h4,fun b hb=>Nat.lt_of_lt_of_le (h5 b hb) hm.size⟩
theorem yJ {Tc:Nat} {w:World} {cf:Value} {ns:List Nd} {F:Nat→Prop} (h:qy Tc w cf ns F) (dL:∀ nd∈ns,nd.args.length≤8) {i:Nat} (hi:i < ns.length) :
   ∃ bc cc v,cf = .slice (some ⟨bc,0,none⟩) ns.length cc∧w.cell? ⟨bc,i*3,none⟩=some (I (ak ns i).kind)∧w.cell? ⟨bc,i*3+1,none⟩=some (I (ak ns i).num) ∧
    w.cell? ⟨bc,i*3+2,none⟩=some v∧Ints w v (ak ns i).args∧(∀ b,jf v=some b→F b)∧cH w 2 (.pointer (some ⟨bc,i*3,none⟩))=some (.agg #[I (ak ns i).kind,I (ak ns i).num]):=by
 obtain ⟨dY,ps,h1,h2,h3,h4,h5⟩:=h;have jw:ps.length=ns.length:=by rw [← h4];simp
 obtain ⟨bc,cc,uY,rfl,rfl,gc,fH,lY⟩:=h1.pos (by omega);have bO:i < ps.length:=by omega
 have bQ:ps[i].1=ak ns i:=by
  have e1:ak ns i=ns[i]:=by simp [ak,hi]
  rw [e1];simp [← h4]
 have FE:=mJ ps;have hle:ps[i].1.args.length≤17592186044416:=by
  have:=dL ns[i] (List.getElem_mem hi);rw [bQ];simp only [ak,List.getD_eq_getElem?_getD,List.getElem?_eq_getElem hi,Option.getD_some];omega
 have yG:=h3.at bO hle;refine ⟨bc,cc,ps[i].2,rfl,?_,?_,?_,bQ ▸ yG,?_,?_⟩
 ·have:=tM gc bO (k:=0) (by omega);rw [← bQ];simpa [nc] using this
 ·have:=tM gc bO (k:=1) (by omega);rw [← bQ];simpa [nc] using this
 ·have:=tM gc bO (k:=2) (by omega);simpa [nc] using this
 ·intro b hb;obtain ⟨fp,k1,k2⟩:=h3 _ (List.getElem_mem bO);refine k2 b ?_;rcases k1.2 with ⟨k3,_,_⟩ | ⟨b',c',cg,k3,k4,_,_⟩
  ·rw [k3] at hb;cases hb
  ·rw [k3] at hb;cases hb;exact k4
 ·have:=dM (w:=w) gc (off:=i*3) (n:=2) (by simp;omega);rw [this,List.drop_append_of_le_length (by omega),List.take_append_of_le_length (by simp;omega)];have h3:=Fz ps i bO;have:((flat ps).drop (i*3)).take 2=(nc ps[i]).take 2:=by rw [← h3,List.take_take];rfl
  rw [this,← bQ];rfl
theorem acP {w:World} {T sz:Nat} {a:Option Addr} {n c:Nat} {xs:List Value} {fp:Option Nat} (h:ao w T sz (.slice a n c) xs n fp):ao w T sz (.slice a 0 c) [] 0 fp:=by
 refine ⟨by simp,?_⟩;rcases h.2 with ⟨h1,h2,h3⟩ | ⟨b,c',cg,h1,h2,h3,h4,h5⟩
 ·cases h1;exact .inl ⟨rfl,rfl,h3⟩
 ·cases h1;exact .inr ⟨b,c,xs++cg,rfl,h2,by simpa using h3,by simpa using h4,Nat.zero_le _⟩
def PW (w:World) (bm bo:Nat) (cf to mv pa:Value) (n:Nat) (l path:List Int) (fj:Option Nat):Prop:=
 w.heap[bm]? = some (.cells #[cf,to,.slice (some ⟨bo,0,none⟩) n n,mv,pa] 281 (0,0))∧w.heap[bo]? = some (.cells (l.map I).toArray 3 (0,0))∧ao w 3 1 pa (path.map I) path.length fj∧fj≠some bo
def acQ (ns:List Nd) (w:World) (bm bo:Nat) (cf to mv:Value) (l:List Int) (fj:Option Nat) (p0:Nat) (r:Value) (w':World):Prop:=
 ∃ (e:Nat) (l':List Int) (CF:Value) (AD:List Int) (AE:Option Nat),r=I e∧KI ns l'∧l'.getD p0 0=e+1∧(∀ i,i < ns.length→l.getD i 0≠0→l'.getD i 0=l.getD i 0) ∧
  PW w' bm bo cf to mv CF ns.length l' AD AE∧Mod (fun b=>b=bm∨b=bo∨fj=some b) w w'∧(∀ b,AE=some b→fj=some b∨w.heap.size≤b)∧AD.length≤1048576
theorem u9 {w:World} {b T:Nat} {l:List Int} (h:w.heap[b]? = some (.cells (l.map I).toArray T (0,0))) {i:Nat} (hi:i < l.length):w.cell? ⟨b,i,none⟩=some (I (l.getD i 0)):=by
 rw [cell_of h];simp [hi]
def pE (ns:List Nd) (p0 k i:Nat):Prop:=∃ j,j < k∧i=fit (ay ns) j p0
theorem lG (l:List Int) (i j:Nat) (v:Int) (hi:i < l.length):(l.set i v).getD j 0=if i=j then v else l.getD j 0:=by
 simp only [List.getD_eq_getElem?_getD,List.getElem?_set]
 split
 ·rename_i h;subst h;simp [hi]
 ·rfl
theorem map_set (l:List Int) (i:Nat) (v:Int):(l.map I).set i (I v)=(l.set i v).map I:=by simp [List.map_set]
theorem count_set (l:List Int) (i:Nat) (hi:i < l.length) (h0:l.getD i 0=0):(l.set i (-1)).count 0+1=l.count 0:=by
 have h1:l[i]=0:=by simpa [hi] using h0
 have gv:0 < l.count 0:=List.count_pos_iff.2 (h1 ▸ List.getElem_mem hi);rw [List.count_set hi,h1];simp;omega
theorem acR (ns:List Nd) (hw:WF ns) (hn:ns.length≤1048576) (w:World) (bm bo:Nat) (cf to mv pa:Value) (l path:List Int) (fj:Option Nat) (F:Nat→Prop)
   (bt:qy 277 w cf ns F) (hd:∀ b,F b→¬ (b=bm∨b=bo∨fj=some b)) (hp:PW w bm bo cf to mv pa ns.length l path fj) (hk:KI ns l) (p0:Nat) (RW:p0 < ns.length) :
   aK Tryz.prog 243 [.pointer (some ⟨bm,0,none⟩),I p0] w (acQ ns w bm bo cf to mv l fj p0):=by
 have dL:=CC hw;have hf:=fu hw;have ah:∀ j,fit (ay ns) j p0 < ns.length:=fun j=>yH hf j RW
 obtain ⟨m1,m2,m3,m4⟩:=hp;obtain ⟨xa,xc,rfl,FG,_⟩:=m3.val;have RX:=acP m3;refine acg.calls rfl ?_;unfold Kf;have z1:(0:Int)≤0∧(0:Int)≤xc:=by omega
 have z2:(if xc=0 then xa else Option.map (fun x=>x) xa)=xa:=by cases xa<;>simp
 simp only [go_sem,simprocAttr,cell_of m1,z1,z2,and_self,Int.toNat_zero,Nat.sub_zero,Nat.sub_self];refine bY (off:=4) rfl rfl m1 rfl (by simp) ?_;intro w1 ax ag cL;have wX:bm≠bo:=fun h=>by subst h;exact mH m2 m1 (by omega)
 have n2:=ag.at m2 (fun h=>wX h.symm);have n3:=RX.mod ag (fun b hb hh=>im RX hb (hh ▸ m1) (by omega));refine σ ?_
 refine dA (fun m ρ w'=>∃ (k:Nat) (lk:List Int) (pa:Value) (pk:Option Nat),m=lk.count 0∧lk.length=ns.length∧k+lk.count 0=l.count 0 ∧
  (∀ i,i < ns.length→(pE ns p0 k i→lk.getD i 0 = -1)∧(¬ pE ns p0 k i→lk.getD i 0=l.getD i 0)) ∧
  (∀ j,j < k→ind ns (fit (ay ns) j p0)=true∧l.getD (fit (ay ns) j p0) 0=0) ∧
  PW w' bm bo cf to mv pa ns.length lk ((List.range k).map (fun j=>(fit (ay ns) j p0:Int))) pk∧Mod (fun b=>b=bm∨b=bo∨fj=some b) w w'∧(∀ b,pk=some b→fj=some b∨w.heap.size≤b) ∧
  ρ=[(0,.pointer (some ⟨bm,0,none⟩)),(1,I (fit (ay ns) k p0:Nat))]) (l.count 0)
  ⟨0,l,_,fj,rfl,hk.len,by omega,fun i hi=>⟨fun ⟨j,hj,_⟩=>by omega,fun _=>rfl⟩,fun j hj=>by omega,⟨ax,n2,n3,m4⟩,ag.az (fun b hb=>.inl hb),fun b hb=>.inl hb,rfl⟩ ?_
 rintro m ρ w2 ⟨k,lk,pk,FH,rfl,pF,CG,qo,hkn,⟨p1,p2,p3,p4⟩,ae,u',rfl⟩;unfold RJ;have RY:=bt.mod ae hd;obtain ⟨bc,cc,v,rfl,c0,c1,c2,cx,cb,cl⟩:=yJ RY dL (ah k);have U:=u9 p2 (i:=fit (ay ns) k p0) (by rw [pF];exact ah k);have b1:(0:Int)≤(fit (ay ns) k p0:Nat)∧((fit (ay ns) k p0:Nat):Int) < ns.length:=by have:=ah k;omega
 have hkx:lk.getD (fit (ay ns) k p0) 0=0∨lk.getD (fit (ay ns) k p0) 0≠0:=by omega
 simp only [go_sem,simprocAttr,an,bq,cell_of p1,b1,U]
 refine iG (fun ρ w'=>w2=w'∧∃ q:Bool,(q=true→lk.getD (fit (ay ns) k p0) 0=0∧ind ns (fit (ay ns) k p0)=true)∧(q=false→lk.getD (fit (ay ns) k p0) 0≠0∨ind ns (fit (ay ns) k p0)=false) ∧
     ρ.get 0=some (.pointer (some ⟨bm,0,none⟩))∧ρ.get 1=some (I (fit (ay ns) k p0:Nat))∧ρ.get 35=some (.bool q)) ?_ ?_
 ·refine uR rfl (fun hz=>?_) (fun hz=>?_)
  ·simp only [go_sem,simprocAttr,an,bq,cell_of p1,b1,hz,c0];have uJ:lk.getD (fit (ay ns) k p0) 0=0:=by simpa using hz
   exact ⟨_,fun h=>⟨uJ,h⟩,fun h=>.inr h,rfl⟩
  ·simp only [go_sem,simprocAttr,an,bq,hz];have uJ:lk.getD (fit (ay ns) k p0) 0≠0:=by simpa using hz
   exact ⟨_,fun h=>(by cases h),fun _=>.inl uJ,rfl⟩
 rintro ρ _ ⟨rfl,q,Ki,hq2,r0,r1,r35⟩;simp only [go_sem,simprocAttr,r0,r1,r35];refine aY rfl (fun hq=>?_) (fun hq=>?_)
 ·obtain ⟨hz,hi⟩:=Ki hq;obtain ⟨q',hq',ha,gV⟩:=qw hw (ah k) hi;simp only [go_sem,simprocAttr,an,bq,cell_of p1,b1];refine bY (off:=fit (ay ns) k p0) rfl rfl p2 rfl (by simp;rw [pF];exact ah k) ?_;intro w3 aJ ab eP;rw [map_set] at aJ;have aoK:=count_set lk (fit (ay ns) k p0) (by rw [pF];exact ah k) hz;have RZ:k+1≤ns.length:=by
   have:=List.count_le_length (a:=(0:Int)) (l:=l);rw [hk.len] at this;omega
  have q1:=ab.at p1 wX;have q3:=p3.mod ab (fun b hb hh=>p4 (hh ▸ hb));obtain ⟨ya,yc,rfl,_,_⟩:=p3.val;simp only [go_sem,simprocAttr,cell_of q1];refine cd (by rfl) (by refine σ ?_;rfl) ?_;intro w4 aH ai eu;have q4:=q3.mod ai (fun _ _ h=>h);refine σ ?_;refine eH (m:=1) (news:=[I (fit (ay ns) k p0:Nat)]) rfl q4 rfl (fun h=>by cases h) (j9 aH) (by simp [Value.oneCell']) rfl (by simp;omega) (by simp;omega) ?_;intro v5 w5 iV iW aB wT;refine σ ?_;have R3:=ai.at q1 (fun h=>h);have R4:=aB.at R3 (jA q4 R3 (by omega));have bZ:=aB.at (ai.at aJ (fun h=>h)) p4;refine bY (off:=4) rfl rfl R4 (by obtain ⟨_,_,rfl,_⟩:=iW.val;rfl) (by simp) ?_;intro w6 cN aD mK;have hF:∀ b,F b→b < w.heap.size:=by obtain ⟨_,_,_,_,_,_,h⟩:=bt;exact h
  have hdk:∀ b,F b→FH≠some b:=fun b hb hh=>by
   have h1:=hF b hb;rcases u' b hh with h2 | h2
   ·exact hd b hb (.inr (.inr h2))
   ·omega
  have AF:Mod (fun b=>b=bm∨b=bo∨FH=some b) w2 w6:=(((ab.az (fun b hb=>.inr (.inl hb))).step ai (fun _ h _=>h.elim)).step aB (fun b hb _=>.inr (.inr hb))).step aD (fun b hb _=>.inl hb)
  have acS:=RY.mod AF (fun b hb hh=>by
   rcases hh with hh | hh | hh
   ·exact hd b hb (.inl hh)
   ·exact hd b hb (.inr (.inl hh))
   ·exact hdk b hb hh)
  obtain ⟨bc',yK,v',rS,d0,d1,d2,dx,db,dl⟩:=yJ acS dL (ah k);cases rS;rw [ha] at dx;obtain ⟨xb,xd,rfl,_,mL⟩:=dx;obtain ⟨ad,rfl,ep⟩:=mL 0 (by simp);have Kj:w6.cell? ad=some (I (q':Nat)):=by rw [add_zero'] at ep;exact ep
  have z3:(0:Int)≤0∧(0:Int) < ((1:Nat):Int):=by omega
  simp only [go_sem,simprocAttr,an,bq,cell_of cN,b1,d2,z3,Kj];have AG:∀ i,pE ns p0 (k+1) i↔pE ns p0 k i∨i=fit (ay ns) k p0:=by
   intro i;constructor
   ·rintro ⟨j,hj,rfl⟩;rcases Nat.lt_or_ge j k with h | h
    ·exact .inl ⟨j,h,rfl⟩
    ·obtain rfl:j=k:=by omega
     exact .inr rfl
   ·rintro (⟨j,hj,rfl⟩ | rfl)
    ·exact ⟨j,by omega,rfl⟩
    ·exact ⟨k,by omega,rfl⟩
  have acT:¬ pE ns p0 k (fit (ay ns) k p0):=fun h=>by
   have:=(qo _ (ah k)).1 h;omega
  refine ⟨_,?_,k+1,lk.set (fit (ay ns) k p0) (-1),v5,iV,rfl,by simp [pF],by omega,?_,?_,⟨cN,aD.at bZ (fun h=>wX h.symm),?_,?_⟩,?_,?_,?_⟩
  ·omega
  ·intro i bO;rw [lG _ _ _ _ (by rw [pF];exact ah k),AG];refine ⟨?_,?_⟩
   ·rintro (h | h)
    ·split
     ·rfl
     ·exact (qo i bO).1 h
    ·rw [if_pos h.symm]
   ·intro h;rw [if_neg (fun hh=>h (.inr hh.symm))];exact (qo i bO).2 (fun hh=>h (.inl hh))
  ·intro j hj;rcases Nat.lt_or_ge j k with h | h
   ·exact hkn j h
   ·obtain rfl:j=k:=by omega
    exact ⟨hi,by rw [← (qo _ (ah j)).2 acT];exact hz⟩
  ·have:=iW.mod aD (fun b hb hh=>im iW hb (hh ▸ R4) (by omega));rw [List.range_succ]
   simpa using this
  ·intro hh;rcases wT bo hh with h1 | h1
   ·exact p4 h1
   ·have:=lt_of_heap p2;have:=ab.size;have:=ai.size;omega
  ·refine ae.step AF (fun b hb nH=>?_);rcases hb with h | h | h
   ·exact .inl h
   ·exact .inr (.inl h)
   ·rcases u' b h with h | h
    ·exact .inr (.inr h)
    ·omega
  ·intro b hb;rcases wT b hb with h1 | h1
   ·exact u' b h1
   ·have:=ae.size;have:=ab.size;have:=ai.size;exact .inr (by omega)
  ·rw [qu,gV]
 ·have hz:=hq2 hq;have CH:pE ns p0 k (fit (ay ns) k p0)∨¬ pE ns p0 k (fit (ay ns) k p0):=Classical.em _;simp only [go_sem,simprocAttr,an,bq,cell_of p1,b1,U]
  refine An (fun ρ w'=>w2=w'∧∃ e:Nat,((e=fit (ay ns) k p0∧l.getD e 0=0∧((ind ns e=false)∨∃ j,j < k∧e=fit (ay ns) j p0))∨(l.getD (fit (ay ns) k p0) 0=e+1))∧e < ns.length ∧
   ρ.get 0=some (.pointer (some ⟨bm,0,none⟩))∧ρ.get 1=some (I (fit (ay ns) k p0:Nat))∧ρ.get 5=some (I e)) ?_ ?_
  ·refine aY rfl (fun hg=>?_) (fun hg=>?_)
   ·have de:lk.getD (fit (ay ns) k p0) 0 > 0:=by simpa using hg
    have gS:¬ pE ns p0 k (fit (ay ns) k p0):=fun h=>by have:=(qo _ (ah k)).1 h;omega
    have Kk:=(qo _ (ah k)).2 gS;obtain ⟨e,he,R5,_⟩:=hk.rep _ (ah k) (by omega);have Kl:IntKind.i64.wrap (lk.getD (fit (ay ns) k p0) 0 - 1)=e:=by rw [Kk,he,cy]<;>omega
    simp only [go_sem,simprocAttr,an,bq,cell_of p1,b1,U,Kl];exact ⟨e,.inr he,R5,rfl⟩
   ·have de:¬ lk.getD (fit (ay ns) k p0) 0 > 0:=by simpa using hg
    refine σ ?_;refine ⟨fit (ay ns) k p0,.inl ⟨rfl,?_,?_⟩,ah k,rfl⟩
    ·rcases CH with h | h
     ·obtain ⟨j,hj,he⟩:=h;rw [he];exact (hkn j hj).2
     ·have Kk:=(qo _ (ah k)).2 h;rcases Classical.em (l.getD (fit (ay ns) k p0) 0=0) with h0 | h0
      ·exact h0
      ·obtain ⟨e,he,_⟩:=hk.rep _ (ah k) h0;omega
    ·rcases CH with h | h
     ·exact .inr h
     ·left
      rcases hz with hz | hz
      ·exfalso;have Kk:=(qo _ (ah k)).2 h;obtain ⟨e,he,_⟩:=hk.rep _ (ah k) (by omega);omega
      ·exact hz
  rintro ρ _ ⟨rfl,e,fi,R5,r0,r1,r5⟩;have R6:IntKind.i64.wrap ((e:Int)+1)=((e:Int)+1):=by rw [cy]<;>omega
  simp only [go_sem,simprocAttr,an,bq,r0,r1,r5,cell_of p1,b1,R6];refine bY (off:=fit (ay ns) k p0) rfl rfl p2 rfl (by simp;rw [pF];exact ah k) ?_;intro w3 aJ ab eP;rw [map_set] at aJ;have q1:=ab.at p1 wX;have q3:=p3.mod ab (fun b hb hh=>p4 (hh ▸ hb));obtain ⟨ya,yc,rfl,_,_⟩:=p3.val;simp only [go_sem,simprocAttr,an,bq,cell_of q1];have bE:((List.range k).map (fun j=>(fit (ay ns) j p0:Int))).length=k:=by simp
  have RZ:k≤ns.length:=by
   have:=List.count_le_length (a:=(0:Int)) (l:=l);rw [hk.len] at this;omega
  refine dA (fun m ρ w'=>∃ (t:Nat) (l2:List Int),m=k - t∧t≤k∧l2.length=ns.length∧(∀ i,i < ns.length→(i=fit (ay ns) k p0∨pE ns p0 t i→l2.getD i 0=e+1)∧(¬ (i=fit (ay ns) k p0∨pE ns p0 t i)→l2.getD i 0=lk.getD i 0)) ∧
   PW w' bm bo (.slice (some ⟨bc,0,none⟩) ns.length cc) to mv (.slice ya ((List.range k).map (fun j=>(fit (ay ns) j p0:Int))).length yc) ns.length l2 ((List.range k).map (fun j=>(fit (ay ns) j p0:Int))) FH∧Mod (· = bo) w2 w' ∧
   ρ=[(0,.pointer (some ⟨bm,0,none⟩)),(5,I e),(90,.slice ya ((List.range k).map (fun j=>(fit (ay ns) j p0:Int))).length yc),(91,I ((List.range k).map (fun j=>(fit (ay ns) j p0:Int))).length),(92,I t)]) k
   ⟨0,lk.set (fit (ay ns) k p0) (e+1),rfl,by omega,by simp [pF],?_,⟨q1,aJ,q3,p4⟩,ab,rfl⟩ ?_
  ·intro i hi;rw [lG _ _ _ _ (by rw [pF];exact ah k)];refine ⟨?_,?_⟩
   ·rintro (h | ⟨j,hj,_⟩)
    ·rw [if_pos h.symm]
    ·omega
   ·intro h;rw [if_neg (fun hh=>h (.inl hh.symm))]
  rintro m ρ w4 ⟨t,l2,rfl,iJ,fX,gD,⟨o1,o2,o3,o4⟩,ai,rfl⟩;unfold RK;have o1':=o1;have R7:=o3;rw [bE] at o1 o3;rw [bE];refine σ ?_;refine aY rfl (fun hc=>?_) (fun hc=>?_)
  ·have bz:t < k:=by simpa using hc
   obtain ⟨⟨xb,xd,hxe,_,mL⟩,_⟩:=R7.ints (by rw [bE];omega);cases hxe;obtain ⟨ad,rfl,ep⟩:=mL t (by rw [bE];exact bz);have b2:(0:Int)≤(t:Nat)∧(t:Int) < (k:Nat):=by omega
   have b3:(0:Int)≤(fit (ay ns) t p0:Nat)∧((fit (ay ns) t p0:Nat):Int) < ns.length:=by have:=ah t;omega
   have Kj:w4.cell? (ad.add t)=some (I (fit (ay ns) t p0:Nat)):=by rw [ep];simp
   simp only [go_sem,simprocAttr,an,bq,b2,Kj,cell_of o1,b3,R6];refine bY (off:=fit (ay ns) t p0) rfl rfl o2 rfl (by simp;rw [fX];exact ah t) ?_;intro w5 bZ aB fP;rw [map_set] at bZ;have wY:IntKind.i64.wrap ((t:Int)+1)=((t+1:Nat):Int):=by rw [cy]<;>omega
   simp only [go_sem,simprocAttr,wY];refine ⟨_,?_,t+1,l2.set (fit (ay ns) t p0) (e+1),rfl,by omega,by simp [fX],?_,⟨aB.at o1 wX,bZ,?_,o4⟩,ai.trans aB,rfl⟩
   ·omega
   ·intro i hi;rw [lG _ _ _ _ (by rw [fX];exact ah t)];have AG:pE ns p0 (t+1) i↔pE ns p0 t i∨i=fit (ay ns) t p0:=by
     constructor
     ·rintro ⟨j,hj,rfl⟩;rcases Nat.lt_or_ge j t with h | h
      ·exact .inl ⟨j,h,rfl⟩
      ·obtain rfl:j=t:=by omega
       exact .inr rfl
     ·rintro (⟨j,hj,rfl⟩ | rfl)
      ·exact ⟨j,by omega,rfl⟩
      ·exact ⟨t,by omega,rfl⟩
    rw [AG];refine ⟨?_,?_⟩
    ·intro h
     split
     ·rfl
     ·rename_i bj;rcases h with h | h | h
      ·exact (gD i hi).1 (.inl h)
      ·exact (gD i hi).1 (.inr h)
      ·exact absurd h.symm bj
    ·intro h;rw [if_neg (fun hh=>h (.inr (.inr hh.symm)))];exact (gD i hi).2 (fun hh=>h (hh.elim .inl (fun h=>.inr (.inl h))))
   ·have:=o3.mod aB (fun b hb hh=>o4 (hh ▸ hb))
    simpa using this
  ·have bz:t=k:=by simp at hc;omega
   subst bz;refine σ ?_
   obtain ⟨g1,g2,g3⟩:=acM hw hk (l':=l2) (e:=e) RW hkn fi fX (by
    intro i hi;obtain ⟨a1,a2⟩:=gD i hi
    split
    ·rename_i hex;obtain ⟨j,hj,he⟩:=hex;refine a1 ?_;rcases Nat.lt_or_ge j t with h | h
     ·exact .inr ⟨j,h,he⟩
     ·left;rw [he];congr 1;omega
    ·rename_i hex;have gS:¬ pE ns p0 t i:=fun ⟨j,hj,he⟩=>hex ⟨j,by omega,he⟩
     rw [a2 (fun h=>by
      rcases h with h | h
      ·exact hex ⟨t,Nat.le_refl _,h⟩
      ·exact gS h)]
     exact (qo i hi).2 gS)
   refine ⟨e,l2,_,_,FH,rfl,g1,g2,g3,⟨o1',o2,R7,o4⟩,ae.step ai (fun b hb _=>.inr (.inl hb)),u',by rw [bE];omega⟩
end
section
open Go Go.W
def fQ (ns:List Nd) (out:List Nat) (p:Nat):List Nat:=if over ns p∈out then out else out++[over ns p]
def meets (ns:List Nd) (out:List Nat) (l:List Int):List Nat:=l.foldl (fun o (p:Int)=>fQ ns o p.toNat) out
def reach (ns:List Nd):Nat→Nat→List Nat→List Nat
 | 0,_,out=>out
 | f+1,i,out=>match out[i]? with
  | some x=>reach ns f (i+1) (meets ns out (ak ns x).args)
  | none=>out
def iX (ns:List Nd) (roots:List Int):List Nat:=reach ns (ns.length+1) 0 (meets ns [] roots)
def num (ns:List Nd) (out:List Nat) (p:Int):Int:=out.idxOf (over ns p.toNat)
def FI (ns:List Nd) (out:List Nat) (x:Nat):Nd:=⟨(ak ns x).kind,(ak ns x).num,(ak ns x).args.map (num ns out)⟩
def jB (ns:List Nd) (roots:List Int):List Nd:=(iX ns roots).map (FI ns (iX ns roots))
def mM (ns:List Nd) (roots:List Int):List Int:=roots.map (num ns (iX ns roots))
def Met (ns:List Nd) (out:List Nat):Prop:=out.Nodup∧∀ x∈out,x < ns.length∧over ns x=x
theorem R9 (ns:List Nd):Met ns []:=⟨List.nodup_nil,fun x h=>by cases h⟩
theorem CJ {ns:List Nd} {out:List Nat} (h:Met ns out):out.length≤ns.length:=AA _ _ h.1 (fun x U=>(h.2 x U).1)
theorem Sa {ns:List Nd} (hw:WF ns) {out:List Nat} (h:Met ns out) {p:Nat} (hp:p < ns.length):Met ns (fQ ns out p):=by
 unfold fQ
 split
 ·exact h
 ·rename_i hn;refine ⟨?_,?_⟩
  ·rw [List.nodup_append];refine ⟨h.1,by simp,?_⟩;intro a ha b hb gT;simp at hb;exact hn (hb ▸ gT ▸ ha)
  ·intro x U;rcases List.mem_append.1 U with U | U
   ·exact h.2 x U
   ·simp at U;subst U;exact ⟨qv (fu hw) hp,rP (fu hw) hp⟩
theorem Sb (ns:List Nd) (out:List Nat) (p:Nat):over ns p∈fQ ns out p:=by
 unfold fQ;split
 ·assumption
 ·simp
theorem acU (ns:List Nd) (out:List Nat) (p:Nat):out <+: fQ ns out p:=by
 unfold fQ;split
 ·exact List.prefix_rfl
 ·exact List.prefix_append _ _
theorem FJ (ns:List Nd) (l:List Int):∀ out,out <+: meets ns out l:=by
 induction l with
 | nil=>intro out;exact List.prefix_rfl
 | cons a l ih=>intro out;exact (acU ns out a.toNat).trans (ih _)
theorem Sc (ns:List Nd):∀ f i out,out <+: reach ns f i out:=by
 intro f
 induction f with
 | zero=>intro i out;exact List.prefix_rfl
 | succ f ih=>
  intro i out;unfold reach
  split
  ·exact (FJ ns _ _).trans (ih _ _)
  ·exact List.prefix_rfl
theorem Sd {a b:List Nat} (h:a <+: b) {x:Nat} (U:x∈a):b.idxOf x=a.idxOf x:=by
 obtain ⟨t,rfl⟩:=h;rw [List.idxOf_append,if_pos U]
theorem acV (ns:List Nd) (f i:Nat) (out:List Nat) (h:out.length≤i):reach ns f i out=out:=by
 cases f with
 | zero=>rfl
 | succ f=>simp [reach,List.getElem?_eq_none h]
theorem acW (ns:List Nd) (f i:Nat) (out:List Nat) (h:i < out.length):reach ns (f+1) i out=reach ns f (i+1) (meets ns out (ak ns out[i]).args):=by
 simp [reach,h]
theorem Se {ns:List Nd} (hw:WF ns):∀ (l:List Int) {out:List Nat},Met ns out→bJ ns.length l=true→Met ns (meets ns out l):=by
 intro l
 induction l with
 | nil=>intro out h _;exact h
 | cons a l ih=>
  intro out h ho;simp only [bJ,List.all_cons,Bool.and_eq_true,decide_eq_true_eq] at ho;exact ih (Sa hw h (by omega)) (by simpa [bJ] using ho.2)
structure MI (ns:List Nd) (l md:List Int) (out:List Nat):Prop where
 len:md.length=ns.length
 met:Met ns out
 old:∀ i,i < ns.length→md.getD i 0≠0→∃ j:Nat,md.getD i 0=j+1∧out[j]? = some (over ns i)∧l.getD i 0=i+1
 all:∀ (j x:Nat),out[j]? = some x→∃ e:Nat,e < ns.length∧md.getD e 0=j+1∧l.getD e 0=e+1
theorem acX (ns:List Nd) (l:List Int):MI ns l (List.replicate ns.length 0) []:=by
 have h0:∀ i,(List.replicate ns.length (0:Int)).getD i 0=0:=by intro i;simp [List.getElem?_replicate];split<;>rfl
 exact ⟨by simp,R9 ns,fun i _ h=>absurd (h0 i) h,fun j x h=>by simp at h⟩
theorem acY {ns:List Nd} {l l' md:List Int} {out:List Nat} (h:MI ns l md out) (hm:∀ i,i < ns.length→l.getD i 0≠0→l'.getD i 0=l.getD i 0):MI ns l' md out:=by
 refine ⟨h.len,h.met,?_,?_⟩
 ·intro i hi hk;obtain ⟨j,h1,h2,h3⟩:=h.old i hi hk;exact ⟨j,h1,h2,by rw [hm i hi (by omega)];exact h3⟩
 ·intro j x U;obtain ⟨e,h1,h2,h3⟩:=h.all j x U;exact ⟨e,h1,h2,by rw [hm e h1 (by omega)];exact h3⟩
theorem Sf {out:List Nat} (hn:out.Nodup) {j x:Nat} (h:out[j]? = some x):out.idxOf x=j:=by
 obtain ⟨hj,U⟩:=List.getElem?_eq_some_iff.1 h;subst U;exact hn.idxOf_getElem j hj
theorem acZ {ns:List Nd} (hw:WF ns) {l md:List Int} {out:List Nat} (hk:KI ns l) (h:MI ns l md out) {p e:Nat} (hp:p < ns.length) (he:l.getD p 0=e+1) (hm:md.getD e 0≠0) :
   over ns p∈out∧fQ ns out p=out∧md.getD e 0=(out.idxOf (over ns p):Nat)+1:=by
 obtain ⟨e',h1,h2,h3,h4,_⟩:=hk.rep p hp (by omega);obtain rfl:e'=e:=by omega
 obtain ⟨j,k1,k2,k3⟩:=h.old _ h2 hm;rw [h3] at k2;have dh:over ns p∈out:=List.mem_of_getElem? k2;refine ⟨dh,by simp [fQ,dh],?_⟩;rw [Sf h.met.1 k2];exact k1
theorem ac0 {ns:List Nd} (hw:WF ns) {l md:List Int} {out:List Nat} (hk:KI ns l) (h:MI ns l md out) {p e:Nat} (hp:p < ns.length) (he:l.getD p 0=e+1) (hm:md.getD e 0=0) :
   over ns p∉out∧fQ ns out p=out++[over ns p]∧MI ns l (md.set e ((out.length:Int)+1)) (fQ ns out p)∧e < ns.length∧over ns e=over ns p∧(ind ns e=true→ind ns (over ns p)=true):=by
 obtain ⟨e',h1,h2,h3,h4,h5⟩:=hk.rep p hp (by omega);obtain rfl:e'=e:=by omega
 have gS:over ns p∉out:=by
  intro dh;obtain ⟨j,hj⟩:=List.getElem?_of_mem dh;obtain ⟨i,k1,k2,k3⟩:=h.all j _ hj;obtain ⟨j',q1,q2,q3⟩:=h.old i k1 (by omega);have:j'=j:=by omega
  subst this;rw [hj] at q2;have ki:over ns i=over ns e':=by rw [h3];exact (Option.some.inj q2).symm
  have:=hk.one i e' k1 h2 (by omega) (by omega) ki;have:i=e':=by omega
  subst this;omega
 have FK:fQ ns out p=out++[over ns p]:=by simp [fQ,gS]
 refine ⟨gS,FK,⟨by simp [h.len],Sa hw h.met hp,?_,?_⟩,h2,h3,h5⟩
 ·intro i hi Sg;have uU:e' < md.length:=by rw [h.len];exact h2
  by_cases gB:e'=i
  ·subst gB;refine ⟨out.length,by simp [uU],?_,h4⟩;rw [FK,h3];simp
  ·have hg:(md.set e' ((out.length:Int)+1)).getD i 0=md.getD i 0:=by simp [List.getElem?_set,gB]
   rw [hg] at Sg ⊢;obtain ⟨j,q1,q2,q3⟩:=h.old i hi Sg;refine ⟨j,q1,?_,q3⟩;rw [FK,List.getElem?_append_left (List.getElem?_eq_some_iff.1 q2).1];exact q2
 ·intro j x U;have uU:e' < md.length:=by rw [h.len];exact h2
  rw [FK] at U;rcases Nat.lt_or_ge j out.length with hj | hj
  ·rw [List.getElem?_append_left hj] at U;obtain ⟨i,k1,k2,k3⟩:=h.all j x U;have gB:e'≠i:=by rintro rfl;omega
   exact ⟨i,k1,by simp only [List.getD_eq_getElem?_getD,List.getElem?_set,if_neg gB] at k2 ⊢;exact k2,k3⟩
  ·have:j=out.length:=by
    have:=(List.getElem?_eq_some_iff.1 U).1;simp at this;omega
   subst this;exact ⟨e',h2,by simp [uU],h4⟩
theorem ac1 {ns:List Nd} (hw:WF ns) {e x:Nat} (he:e < ns.length) (ho:over ns e=x) (hi:ind ns e=true→ind ns x=true) :
   (ak ns e).kind=(ak ns x).kind∧(ak ns e).num=(ak ns x).num∧(ak ns e).args.map (fun a:Int=>over ns a.toNat)=(ak ns x).args.map (fun a:Int=>over ns a.toNat):=by
 cases gB:ind ns e with
 | false=>
  have:over ns e=e:=AB (oK gB);rw [this] at ho;subst ho;exact ⟨rfl,rfl,rfl⟩
 | true=>
  have Sh:=hi gB;have U:x < ns.length:=ho ▸ qv (fu hw) he;have mL:over ns x=x:=by rw [← ho];exact rP (fu hw) he
  obtain ⟨q,a1,a2,a3⟩:=qw hw he gB;obtain ⟨q',b1,b2,b3⟩:=qw hw U Sh;have k1:(ak ns e).kind=5:=by simpa [ind] using gB
  have k2:(ak ns x).kind=5:=by simpa [ind] using Sh
  have m1:=(jh hw he).1;have m2:=(jh hw U).1;simp only [Nd.may,gU,k1,k2,decide_eq_true_eq] at m1 m2;refine ⟨by rw [k1,k2],by omega,?_⟩;rw [a2,b2];have e1:over ns q=x:=by rw [← a3];exact (uZ (fu hw) he).trans ho
  have e2:over ns q'=x:=by rw [← b3];exact (uZ (fu hw) U).trans mL
  simp [e1,e2]
end
section
open Go Go.W
def rT (t:Nd×Nat):Nd×Value:=(t.1,.slice (some ⟨t.2,0,none⟩) t.1.args.length t.1.args.length)
structure CK (w:World) (to:Value) (ts:List (Nd×Nat)) (fx:Option Nat):Prop where
 own:ao w 277 3 to (flat (ts.map rT)) ts.length fx
 row:∀ t∈ts,w.heap[t.2]? = some (.cells (t.1.args.map I).toArray 3 (0,0))
 nodup:(ts.map Prod.snd).Nodup
theorem CK.mod {w w':World} {to:Value} {ts:List (Nd×Nat)} {fx:Option Nat} {S:Nat→Prop} (h:CK w to ts fx) (hm:Mod S w w') (h1:∀ b,fx=some b→¬ S b) (h2:∀ t∈ts,¬ S t.2):CK w' to ts fx:=
 ⟨h.own.mod hm h1,fun t ht=>hm.at (h.row t ht) (h2 t ht),h.nodup⟩
structure MW (w:World) (X:Nat→Prop) (bm bo bd:Nat) (cf to pa:Value) (n:Nat) (l md path:List Int) (ts:List (Nd×Nat)) (fx fj:Option Nat):Prop where
 cells:w.heap[bm]? = some (.cells #[cf,to,.slice (some ⟨bo,0,none⟩) n n,.slice (some ⟨bd,0,none⟩) n n,pa] 281 (0,0))
 over:w.heap[bo]? = some (.cells (l.map I).toArray 3 (0,0))
 AH:w.heap[bd]? = some (.cells (md.map I).toArray 3 (0,0))
 path:ao w 3 1 pa (path.map I) path.length fj
 to:CK w to ts fx
 od:bo≠bd
 po:fj≠some bo
 pd:fj≠some bd
 tr:∀ t∈ts,t.2≠bo∧t.2≠bd∧fj≠some t.2
 X1:¬ X bm∧¬ X bo∧¬ X bd
 X2:∀ b,fj=some b→¬ X b
 X3:∀ b,fx=some b→¬ X b
 X4:∀ t∈ts,¬ X t.2
 X5:∀ b,X b→b < w.heap.size
def ac2 (ns:List Nd) (w:World) (X:Nat→Prop) (bm bo bd:Nat) (cf:Value) (out:List Nat) (ts:List (Nd×Nat)) (p:Nat) (r:Value) (w':World):Prop:=
 ∃ (l' pG AD:List Int) (yL CF:Value) (rU:List (Nd×Nat)) (yM AE:Option Nat),r=I ((fQ ns out p).idxOf (over ns p))∧KI ns l'∧MI ns l' pG (fQ ns out p) ∧
  MW w' X bm bo bd cf yL CF ns.length l' pG AD rU yM AE∧Mod (fun b=>¬ X b) w w' ∧
  ((rU=ts∧fQ ns out p=out)∨∃ e b,rU=ts++[(ak ns e,b)]∧fQ ns out p=out++[over ns p]∧e < ns.length∧over ns e=over ns p∧(ind ns e=true→ind ns (over ns p)=true))
theorem ac3 (ns:List Nd) (hw:WF ns) (hn:ns.length≤1048576) (w:World) (X:Nat→Prop) (bm bo bd:Nat) (cf to pa:Value) (l md path:List Int) (ts:List (Nd×Nat)) (fx fj:Option Nat) (F:Nat→Prop) (out:List Nat)
   (bt:qy 277 w cf ns F) (Si:∀ b,F b→X b) (hm:MW w X bm bo bd cf to pa ns.length l md path ts fx fj) (hk:KI ns l) (hi:MI ns l md out) (iT:ts.length=out.length) (p:Nat) (hp:p < ns.length) :
   aK Tryz.prog 241 [.pointer (some ⟨bm,0,none⟩),I p] w (ac2 ns w X bm bo bd cf out ts p):=by
 have dL:=CC hw;refine ace.calls rfl ?_;unfold Kc;refine σ ?_;refine aq (by rfl) ?_;have wX:bm≠bo:=fun h=>by have h1:=hm.cells;subst h;exact mH hm.over h1 (by omega)
 have Sj:bm≠bd:=fun h=>by have h1:=hm.cells;subst h;exact mH hm.AH h1 (by omega)
 refine (acR ns hw hn w bm bo cf to _ pa l path fj F bt (fun b hb hh=>?_) ⟨hm.cells,hm.over,hm.path,hm.po⟩ hk p hp).mono ?_
 ·have:=Si b hb;rcases hh with rfl | rfl | hh
  ·exact hm.X1.1 this
  ·exact hm.X1.2.1 this
  ·exact hm.X2 b hh this
 rintro r w1 ⟨e,l1,Sk,Sl,CL,rfl,eQ,hle,Km,⟨p1,p2,p3,p4⟩,ag,wZ,bE⟩;have rV:=acY hi Km
 have Kn:Mod (fun b=>¬ X b) w w1:=ag.az (fun b hb=>by
  rcases hb with rfl | rfl | hb
  ·exact hm.X1.1
  ·exact hm.X1.2.1
  ·exact hm.X2 b hb)
 have ac4:=bt.mod Kn (fun b hb h=>h (Si b hb))
 have AI:=ag.at hm.AH (fun h=>by
  rcases h with h | h | h
  ·exact Sj h.symm
  ·exact hm.od h.symm
  ·exact hm.pd h)
 have yN:=hm.to.mod ag (fun b hb hh=>by
  have k0:=hm.to.own;rcases hh with rfl | rfl | hh
  ·exact im k0 hb hm.cells (by omega)
  ·exact im k0 hb hm.over (by omega)
  ·rcases hm.path.2 with ⟨_,_,h⟩ | ⟨b',c',cg,_,h,h',_⟩
   ·rw [h] at hh;cases hh
   ·rw [h] at hh;cases hh;exact im k0 hb h' (by omega)) (fun t ht hh=>by
  have:=hm.tr t ht;rcases hh with h | h | h
  ·have k1:=hm.to.row t ht;rw [h] at k1;exact mH k1 hm.cells (by omega)
  ·exact this.1 h
  ·exact this.2.2 h)
 have ac5:=eQ.rep p hp (by omega);obtain ⟨e',g1,g2,_⟩:=ac5;obtain rfl:e'=e:=by omega
 have Sm:=ag.size;have Ko:CL≠some bd:=fun h=>by
  rcases wZ bd h with h | h
  ·exact hm.pd h
  ·have:=lt_of_heap hm.AH;omega
 have Sn:∀ t∈ts,t.2≠bo∧t.2≠bd∧CL≠some t.2:=fun t ht=>⟨(hm.tr t ht).1,(hm.tr t ht).2.1,fun h=>by
  rcases wZ t.2 h with h | h
  ·exact (hm.tr t ht).2.2 h
  ·have:=lt_of_heap (hm.to.row t ht);omega⟩
 have Sp:∀ b,CL=some b→¬ X b:=fun b hb U=>by
  rcases wZ b hb with h | h
  ·exact hm.X2 b h U
  ·have:=hm.X5 b U;omega
 have CM:=u9 AI (i:=e') (by rw [hi.len];exact g2);have b1:(0:Int)≤(e':Nat)∧((e':Nat):Int) < ns.length:=by omega
 simp only [go_sem,simprocAttr,an,bq,cell_of p1,b1,CM]
 refine An (fun ρ w2=>∃ (pG:List Int) (yL:Value) (rU:List (Nd×Nat)) (yM:Option Nat),MI ns l1 pG (fQ ns out p)∧pG.getD e' 0=((fQ ns out p).idxOf (over ns p):Nat)+1 ∧
    MW w2 X bm bo bd cf yL Sk ns.length l1 pG Sl rU yM CL∧Mod (fun b=>¬ X b) w w2∧((rU=ts∧fQ ns out p=out)∨∃ e b,rU=ts++[(ak ns e,b)]∧fQ ns out p=out++[over ns p]∧e < ns.length∧over ns e=over ns p∧(ind ns e=true→ind ns (over ns p)=true)) ∧
    ρ.get 0=some (.pointer (some ⟨bm,0,none⟩))∧ρ.get 1=some (I e')) ?_ ?_
 ·refine aY rfl (fun hc=>?_) (fun hc=>?_)
  ·have bz:md.getD e' 0=0:=by simpa using hc
   obtain ⟨n1,n2,n3,n4,n5,n6⟩:=ac0 hw eQ rV hp hle bz;obtain ⟨bc,cc,v,rfl,c0,c1,c2,cx,cb,cl⟩:=yJ ac4 dL g2;have cl':cH w1.drew 2 (.pointer (some ⟨bc,e'*3,none⟩))=some (.agg #[I (ak ns e').kind,I (ak ns e').num]):=cl;simp only [go_sem,simprocAttr,an,bq,cell_of p1,b1,c2,cl'];refine aq (by rfl) ?_;obtain ⟨xa,xc,rfl,_,_⟩:=id cx;refine (FA _ (ak ns e').args w1.drew cx).mono ?_;rintro r w3 ⟨b3,rfl,aJ,Cu,ab⟩;have ab:Mod (fun _=>False) w1 w3:=ab.dj;have Cu:w1.heap.size≤b3:=Cu;refine σ ?_;refine ⟨⟨ab.old _ (World.block_lt_of_cell? _ _ c0) (fun h=>h),ab.old _ (lt_of_heap p1) (fun h=>h)⟩,?_⟩;refine cd (by rfl) (by refine σ ?_;rfl) ?_;intro w4 aH ai eu;refine σ ?_;refine ⟨ai.old _ (Nat.lt_of_lt_of_le (lt_of_heap p1) ab.size) (fun h=>h),?_⟩;have pH:Mod (fun _=>False) w1 w4:=ab.trans ai;have t4:=yN.mod pH (fun _ _ h=>h) (fun _ _ h=>h);have Sq:=pH.at p1 (fun h=>h);have qz:=ai.at aJ (fun h=>h);have Kq:=CJ hi.met;have Sr:=CJ n3.met;rw [n2] at Sr;simp only [List.length_append,List.length_cons,List.length_nil] at Sr;obtain ⟨ta,tc,aoL,_,_⟩:=t4.own.val;refine eH (m:=1) (news:=nc (rT (ak ns e',b3))) rfl t4.own rfl (fun h=>by cases h) (j9 aH) (by simp [nc,rT,Value.oneCell']) rfl (by omega) (by omega) ?_;intro v5 w5 iV iW aB wT;have htb:fx≠some bm:=jA t4.own Sq (by omega);have Kr:=aB.at Sq htb;have ac6:fx≠some b3:=jA t4.own qz (by omega);have qA:=aB.at qz ac6;obtain ⟨qq,qt,rfl,_⟩:=iW.val;refine σ ?_;refine bY (off:=1) rfl rfl Kr rfl (by simp) ?_;intro w6 cN aD mK;refine σ ?_;have oL:Mod (fun b=>b=bm∨fx=some b) w1 w6:=((pH.az (fun _ h=>h.elim)).step aB (fun b hb _=>.inr hb)).step aD (fun b hb _=>.inl hb);have gS:∀ b,b=bm∨fx=some b→∀ cs fz,w1.heap[b]? = some (.cells cs 3 fz)→False:=by
    rintro b (rfl | hb) cs fz hc
    ·exact mH p1 hc (by omega)
    ·exact im yN.own hb hc (by omega)
   have Ss:=oL.at AI (fun h=>gS _ h _ _ AI);simp only [go_sem,simprocAttr,an,bq,cell_of cN,b1];refine bY (off:=e') rfl rfl Ss rfl (by simp;rw [hi.len];exact g2) ?_;intro w7 cm aX mN;have aX:Mod (· = bd) w6 w7:=aX.dj;rw [map_set] at cm;refine σ ?_;have yO:∀ b,b≠bd→∀ o,w6.heap[b]? = some o→w7.heap[b]? = some o:=fun b hb o ho=>aX.at ho hb
   have df:Mod (fun b=>¬ X b) w w7:=(Kn.step oL (fun b hb _ U=>by
    rcases hb with rfl | hb
    ·exact hm.X1.1 U
    ·exact hm.X3 b hb U)).step aX (fun b hb _ U=>by rw [hb] at U;exact hm.X1.2.2 U)
   have aoM:=oL.size;have ac7:=ab.size;have ac8:=pH.size;have hlen:(ts.length:Int)+1=(out.length:Int)+1:=by omega
   refine ⟨md.set e' ((out.length:Int)+1),.slice qq (ts.length+1) qt,ts++[(ak ns e',b3)],iV,n3,?_,⟨?_,?_,?_,?_,⟨?_,?_,?_⟩,hm.od,p4,Ko,?_,hm.X1,Sp,?_,?_,?_⟩,df,.inr ⟨e',b3,rfl,n2,n4,n5,n6⟩⟩
   ·rw [lG _ _ _ _ (by rw [hi.len];exact g2),if_pos rfl,n2,List.idxOf_append,if_neg n1];simp
   ·refine yO bm Sj _ ?_
    simpa using cN
   ·exact yO bo hm.od _ (oL.at p2 (fun h=>gS _ h _ _ p2))
   ·rw [← hlen];simpa using cm
   ·refine (p3.mod oL (fun b hb hh=>?_)).mod aX (fun b hb hh=>Ko (hh ▸ hb));rcases p3.2 with ⟨_,_,h⟩ | ⟨b',c',cg,_,h,h',_⟩
    ·rw [h] at hb;cases hb
    ·rw [h] at hb;cases hb;exact gS _ hh _ _ h'
   ·have h1:=(iW.mod aD (fun b hb hh=>im iW hb (hh ▸ Kr) (by omega)));have h2:=h1.mod aX (fun b hb hh=>im h1 hb (hh ▸ Ss) (by omega))
    simpa [wS,FB] using h2
   ·intro t ht;rcases List.mem_append.1 ht with ht | ht
    ·exact yO t.2 (hm.tr t ht).2.1 _ (oL.at (yN.row t ht) (fun h=>gS _ h _ _ (yN.row t ht)))
    ·simp only [List.mem_cons,List.not_mem_nil,or_false] at ht;subst ht;refine yO b3 ?_ _ (aD.at qA (fun hh=>mH qA (hh ▸ Kr) (by omega)));have:=lt_of_heap AI;omega
   ·rw [List.map_append,List.nodup_append];refine ⟨yN.nodup,by simp,?_⟩;intro a ha b hb gT;obtain ⟨t,ht,rfl⟩:=List.mem_map.1 ha;have:=lt_of_heap (yN.row t ht);simp at hb;omega
   ·intro t ht;rcases List.mem_append.1 ht with ht | ht
    ·exact Sn t ht
    ·simp only [List.mem_cons,List.not_mem_nil,or_false] at ht;subst ht;have:=lt_of_heap AI;have:=lt_of_heap p2;refine ⟨by show b3≠bo;omega,by show b3≠bd;omega,fun h=>?_⟩;have:b3 < w1.heap.size:=p3.lt h;omega
   ·intro b hb U;have:=hm.X5 b U;rcases wT b hb with h | h
    ·exact hm.X3 b h U
    ·omega
   ·intro t ht U;rcases List.mem_append.1 ht with ht | ht
    ·exact hm.X4 t ht U
    ·simp only [List.mem_cons,List.not_mem_nil,or_false] at ht;subst ht;have:=hm.X5 _ U;have:b3 < w.heap.size:=this;omega
   ·intro b U;have:=hm.X5 b U;have:=df.size;omega
  ·have bz:md.getD e' 0≠0:=by simpa using hc
   obtain ⟨n1,n2,n3⟩:=acZ hw eQ rV hp hle bz;refine σ ?_;refine ⟨md,to,ts,fx,by rw [n2];exact rV,by rw [n2];exact n3,⟨p1,p2,AI,p3,yN,hm.od,p4,Ko,Sn,hm.X1,Sp,hm.X3,hm.X4,fun b U=>?_⟩,Kn,.inl ⟨rfl,n2⟩⟩;have:=hm.X5 b U;omega
 ·rintro ρ w2 ⟨pG,yL,rU,yM,k1,k2,k3,k4,k5,r0,r1⟩;have mO:=u9 k3.AH (i:=e') (by rw [k1.len];exact g2);have hlen:=CJ k1.met;have en:=List.idxOf_lt_length_iff.2 (Sb ns out p);have Kl:IntKind.i64.wrap (pG.getD e' 0 - 1)=((fQ ns out p).idxOf (over ns p):Nat):=by rw [k2,cy]<;>omega
  simp only [go_sem,simprocAttr,an,bq,r0,r1,cell_of k3.cells,b1,mO,Kl];exact ⟨l1,pG,Sl,yL,Sk,rU,yM,CL,rfl,eQ,k1,k3,k4,k5⟩
end
section
open Go Go.W
structure Rel (ns:List Nd) (fK out:List Nat) (ts:List (Nd×Nat)) (i k:Nat):Prop where
 len:ts.length=out.length
 nd:∀ (j x:Nat),out[j]? = some x→∃ nd b,ts[j]? = some (nd,b)∧nd.kind=(ak ns x).kind∧nd.num=(ak ns x).num∧nd.args.length=(ak ns x).args.length ∧
  ∀ (t:Nat) (a a0:Int),nd.args[t]? = some a→(ak ns x).args[t]? = some a0→if j < i∨(j=i∧t < k) then a=num ns fK a0 else (0≤a∧a < ns.length∧over ns a.toNat=over ns a0.toNat)
theorem ac9 (ns:List Nd) (fK:List Nat):Rel ns fK [] [] 0 0:=⟨rfl,fun j x h=>by simp at h⟩
theorem ada {ns:List Nd} (hw:WF ns) {fK out:List Nat} {ts:List (Nd×Nat)} {i k:Nat} (h:Rel ns fK out ts i k) (hi:i≤out.length) (kj:i=out.length→k=0) {e x b:Nat}
   (he:e < ns.length) (ho:over ns e=x) (xe:ind ns e=true→ind ns x=true):Rel ns fK (out++[x]) (ts++[(ak ns e,b)]) i k:=by
 refine ⟨by simp [h.len],?_⟩;intro j y hy;rcases Nat.lt_or_ge j out.length with hj | hj
 ·rw [List.getElem?_append_left hj] at hy;obtain ⟨nd,b',h1,h2⟩:=h.nd j y hy;exact ⟨nd,b',by rw [List.getElem?_append_left (by rw [h.len];exact hj)];exact h1,h2⟩
 ·have ji:j=out.length:=by
   have:=(List.getElem?_eq_some_iff.1 hy).1;simp at this;omega
  subst ji;have hyx:y=x:=by simpa using hy.symm
  subst hyx;obtain ⟨s1,s2,s3⟩:=ac1 hw he ho xe;have hl:(ak ns e).args.length=(ak ns y).args.length:=by have:=congrArg List.length s3;simpa using this
  refine ⟨ak ns e,b,by rw [← h.len];simp,s1,s2,hl,?_⟩;intro t a a0 ha lZ
  rw [if_neg (by
   rintro (hh | ⟨hh,hk⟩)
   ·omega
   ·have:=kj hh.symm;omega)]
  have ct:=(jh hw he).2;have en:a∈(ak ns e).args:=List.mem_of_getElem? ha;have:=(List.all_eq_true.1 ct) a en;simp at this;refine ⟨this.1,this.2,?_⟩;have h3:=congrArg (fun l=>l[t]?) s3;simp [ha,lZ] at h3;exact h3
theorem adb {ns:List Nd} {fK out:List Nat} {ts:List (Nd×Nat)} {i k x:Nat} (h:Rel ns fK out ts i k) (U:out[i]? = some x) (hk:(ak ns x).args.length≤k):Rel ns fK out ts (i+1) 0:=by
 refine ⟨h.len,?_⟩;intro j y hy;obtain ⟨nd,b,h1,h2,h3,h4,h5⟩:=h.nd j y hy;refine ⟨nd,b,h1,h2,h3,h4,?_⟩;intro t a a0 ha lZ;have:=h5 t a a0 ha lZ;by_cases mG:j=i
 ·subst mG;rw [U] at hy;cases hy;have ht:t < (ak ns x).args.length:=(List.getElem?_eq_some_iff.1 lZ).1;rw [if_pos (.inr ⟨rfl,by omega⟩)] at this;rw [if_pos (.inl (by omega))];exact this
 ·by_cases ah:j < i
  ·rw [if_pos (.inl ah)] at this;rw [if_pos (.inl (by omega))];exact this
  ·rw [if_neg (by omega)] at this;rw [if_neg (by omega)];exact this
theorem ade {ns:List Nd} {fK out:List Nat} {ts:List (Nd×Nat)} {i k x b:Nat} {nd:Nd} {a0:Int} (h:Rel ns fK out ts i k) (U:out[i]? = some x) (ht:ts[i]? = some (nd,b)) (lZ:(ak ns x).args[k]? = some a0) :
   Rel ns fK out (ts.set i (⟨nd.kind,nd.num,nd.args.set k (num ns fK a0)⟩,b)) i (k+1):=by
 refine ⟨by simp [h.len],?_⟩;intro j y hy;obtain ⟨nd',b',h1,h2,h3,h4,h5⟩:=h.nd j y hy;by_cases mG:i=j
 ·subst mG;rw [U] at hy;cases hy;rw [ht] at h1;cases h1;have hi:i < ts.length:=(List.getElem?_eq_some_iff.1 ht).1;refine ⟨⟨nd.kind,nd.num,nd.args.set k (num ns fK a0)⟩,b,by rw [List.getElem?_set,if_pos rfl,if_pos hi],h2,h3,by simpa using h4,?_⟩;intro t a a1 ha nI;simp only [List.getElem?_set] at ha
  split at ha
  ·rename_i jg;subst jg;rw [if_pos (.inr ⟨rfl,by omega⟩)]
   split at ha
   ·rw [lZ] at nI;cases nI;exact (Option.some.inj ha).symm
   ·cases ha
  ·rename_i jg;have:=h5 t a a1 ha nI;by_cases iJ:t < k
   ·rw [if_pos (.inr ⟨rfl,iJ⟩)] at this;rw [if_pos (.inr ⟨rfl,by omega⟩)];exact this
   ·rw [if_neg (by omega)] at this;rw [if_neg (by omega)];exact this
 ·refine ⟨nd',b',by rw [List.getElem?_set,if_neg mG];exact h1,h2,h3,h4,?_⟩;intro t a a1 ha nI;have:=h5 t a a1 ha nI;by_cases ah:j < i
  ·rw [if_pos (.inl ah)] at this;rw [if_pos (.inl ah)];exact this
  ·rw [if_neg (by omega)] at this;rw [if_neg (by omega)];exact this
theorem adf {ns:List Nd} {fK:List Nat} {ts:List (Nd×Nat)} {i:Nat} (h:Rel ns fK fK ts i 0) (hi:fK.length≤i):ts.map Prod.fst=fK.map (FI ns fK):=by
 apply List.ext_getElem?;intro j;rcases Nat.lt_or_ge j fK.length with hj | hj
 ·obtain ⟨nd,b,h1,h2,h3,h4,h5⟩:=h.nd j fK[j] (by simp [hj]);simp only [List.getElem?_map,h1,Option.map_some,List.getElem?_eq_getElem hj]
  congr 1
  have:nd.args=(ak ns fK[j]).args.map (num ns fK):=by
   apply List.ext_getElem?;intro t;rcases Nat.lt_or_ge t nd.args.length with ht | ht
   ·have e1:nd.args[t]? = some nd.args[t]:=List.getElem?_eq_getElem ht;have e2:(ak ns fK[j]).args[t]? = some ((ak ns fK[j]).args[t]'(by omega)):=List.getElem?_eq_getElem (by omega);have:=h5 t _ _ e1 e2;rw [if_pos (.inl (by omega))] at this;rw [e1,List.getElem?_map,e2,Option.map_some,this]
   ·rw [List.getElem?_eq_none ht,List.getElem?_eq_none (by simp;omega)]
  obtain ⟨k1,n1,a1⟩:=nd;simp only [FI];simp only at h2 h3 this;rw [h2,h3,this]
 ·rw [List.getElem?_eq_none (by simp [h.len];exact hj),List.getElem?_eq_none (by simpa using hj)]
theorem Su (ns:List Nd) (a b:List Int) (out:List Nat):meets ns out (a++b)=meets ns (meets ns out a) b:=by simp [meets]
theorem FM (ns:List Nd) (l:List Int) (out:List Nat) {k:Nat} {a:Int} (h:l[k]? = some a):meets ns out (l.take (k+1))=fQ ns (meets ns out (l.take k)) a.toNat:=by
 obtain ⟨hk,rfl⟩:=List.getElem?_eq_some_iff.1 h;rw [List.take_succ_eq_append_getElem hk,Su];rfl
theorem Sv (ns:List Nd) (l:List Int) (out:List Nat) (k:Nat):meets ns out (l.take k) <+: meets ns out l:=by
 conv=>rhs;rw [← List.take_append_drop k l,Su]
 exact FJ ns _ _
theorem adg (ns:List Nd) (out:List Nat) {p q:Nat} (h:over ns p=over ns q):fQ ns out p=fQ ns out q:=by simp [fQ,h]
end
section
open Go Go.W
def adh (Ta Tc:Nat) (a:Nat) (size times:Int) (F:Nat→Prop) (w:World) (ns:List Nd) (roots:List Int) (r:Value) (w':World):Prop:=
 (bJ ns.length roots=false→r = .tuple #[.slice none 0 0,I 202]∧Mod (fun _=>False) w w') ∧
 (bJ ns.length roots=true→∃ v fp F',r = .tuple #[v,I 0]∧ao w' 3 1 v ((mM ns roots).map I) (mM ns roots).length fp ∧
  kg Ta Tc w' a size (IntKind.i64.wrap (times+1)) (jB ns roots) F'∧Grow F F' w w'∧∀ b,fp=some b→w.heap.size≤b∧¬ F' b)
theorem MW.adi {w w':World} {X S:Nat→Prop} {bm bo bd:Nat} {cf to pa:Value} {n:Nat} {l md path:List Int} {ts:List (Nd×Nat)} {fx fj:Option Nat} (h:MW w X bm bo bd cf to pa n l md path ts fx fj)
   (hm:Mod S w w') (hs:∀ b,S b→X b):MW w' X bm bo bd cf to pa n l md path ts fx fj:=
 ⟨hm.at h.cells (fun hh=>h.X1.1 (hs _ hh)),hm.at h.over (fun hh=>h.X1.2.1 (hs _ hh)),hm.at h.AH (fun hh=>h.X1.2.2 (hs _ hh)),h.path.mod hm (fun b hb hh=>h.X2 b hb (hs _ hh)),
  h.to.mod hm (fun b hb hh=>h.X3 b hb (hs _ hh)) (fun t ht hh=>h.X4 t ht (hs _ hh)),h.od,h.po,h.pd,h.tr,h.X1,h.X2,h.X3,h.X4,fun b hb=>Nat.lt_of_lt_of_le (h.X5 b hb) hm.size⟩
theorem adj (f:Int→Int) (l:List Int) (z:Value) (k:Nat) (hk:k < l.length) :
   (((l.take k).map f).map I++List.replicate (l.length - k) z).set k (I (f l[k]))=((l.take (k+1)).map f).map I++List.replicate (l.length - (k+1)) z:=by
 have h1:(((l.take k).map f).map I).length=k:=by simp;omega
 rw [List.set_append,if_neg (by omega),h1,Nat.sub_self,show l.length - k=(l.length - (k+1))+1 by omega,List.replicate_succ,List.set_cons_zero,List.take_succ_eq_append_getElem hk];simp only [List.map_append,List.map_cons,List.map_nil,List.append_assoc,List.cons_append,List.nil_append]
theorem Ks {w:World} {to:Value} {ts:List (Nd×Nat)} {fx:Option Nat} (h:CK w to ts fx) {i b:Nat} {nd:Nd} (hi:ts[i]? = some (nd,b)) :
   ∃ tb tc,to = .slice (some ⟨tb,0,none⟩) ts.length tc∧w.cell? ⟨tb,i*3+2,none⟩=some (.slice (some ⟨b,0,none⟩) nd.args.length nd.args.length)∧w.heap[b]? = some (.cells (nd.args.map I).toArray 3 (0,0)):=by
 obtain ⟨ah,he⟩:=List.getElem?_eq_some_iff.1 hi;obtain ⟨tb,tc,cg,rfl,rfl,h3,_,_⟩:=h.own.pos (by omega);refine ⟨tb,tc,rfl,?_,?_⟩
 ·have:=tM h3 (i:=i) (k:=2) (by simpa using ah) (by omega);rw [this];simp [nc,rT,he]
 ·have:=h.row _ (List.getElem_mem ah);rw [he] at this;exact this
theorem Sw {α β:Type} (f:α→β) (l:List α) (i:Nat) (y x:α) (U:l[i]? = some x) (h:f y=f x):(l.set i y).map f=l.map f:=by
 apply List.ext_getElem?;intro j;simp only [List.getElem?_map,List.getElem?_set]
 split
 ·rename_i eA;subst eA;rw [if_pos (List.getElem?_eq_some_iff.1 U).1,U];simp [h]
 ·rfl
theorem MW.set {w w':World} {X:Nat→Prop} {bm bo bd:Nat} {cf to pa:Value} {n:Nat} {l md path:List Int} {ts:List (Nd×Nat)} {fx fj:Option Nat} (h:MW w X bm bo bd cf to pa n l md path ts fx fj)
   {i b:Nat} {nd:Nd} (hi:ts[i]? = some (nd,b)) {xs:List Int} (hl:xs.length=nd.args.length) (hm:Mod (· = b) w w') (hb:w'.heap[b]? = some (.cells (xs.map I).toArray 3 (0,0))) :
   MW w' X bm bo bd cf to pa n l md path (ts.set i (⟨nd.kind,nd.num,xs⟩,b)) fx fj:=by
 have en:=List.mem_of_getElem? hi;obtain ⟨ah,he⟩:=List.getElem?_eq_some_iff.1 hi;have eL:=h.to.row _ en;have FN:=h.tr _ en;have adk:(ts.set i (⟨nd.kind,nd.num,xs⟩,b)).map Prod.snd=ts.map Prod.snd:=Sw _ _ _ _ _ hi rfl;have FE:flat ((ts.set i (⟨nd.kind,nd.num,xs⟩,b)).map rT)=flat (ts.map rT):=by
  simp only [flat,List.flatMap_map];have:(ts.set i (⟨nd.kind,nd.num,xs⟩,b)).map (fun t=>nc (rT t))=ts.map (fun t=>nc (rT t)):=Sw _ _ _ _ _ hi (by simp [nc,rT,hl]);rw [List.flatMap_def,List.flatMap_def,this]
 have mP:∀ t,t∈ts.set i (⟨nd.kind,nd.num,xs⟩,b)→t=(⟨nd.kind,nd.num,xs⟩,b)∨(t∈ts∧t.2≠b):=by
  intro t ht;obtain ⟨j,hj⟩:=List.getElem?_of_mem ht;rw [List.getElem?_set] at hj
  split at hj
  ·first
    | exact .inl (Option.some.inj hj).symm
    | (split at hj
       ·exact .inl (Option.some.inj hj).symm
       ·cases hj)
  ·rename_i eA;refine .inr ⟨List.mem_of_getElem? hj,fun hh=>?_⟩;obtain ⟨ji,yP⟩:=List.getElem?_eq_some_iff.1 hj;have h1:(ts.map Prod.snd)[i]'(by simpa using ah)=(ts.map Prod.snd)[j]'(by simpa using ji):=by simp [he,yP,hh]
   exact eA ((List.getElem_inj h.to.nodup).1 h1)
 refine ⟨hm.at h.cells (fun hh=>by subst hh;exact mH eL h.cells (by omega)),hm.at h.over (fun hh=>FN.1 hh.symm),hm.at h.AH (fun hh=>FN.2.1 hh.symm),h.path.mod hm (fun b' cj hh=>FN.2.2 (by rw [cj,hh])),
  ⟨?_,?_,by rw [adk];exact h.to.nodup⟩,h.od,h.po,h.pd,?_,h.X1,h.X2,h.X3,?_,fun b hb=>Nat.lt_of_lt_of_le (h.X5 b hb) hm.size⟩
 ·rw [FE]
  simpa using h.to.own.mod hm (fun b' cj hh=>im h.to.own cj (hh ▸ eL) (by omega))
 ·intro t ht;rcases mP t ht with rfl | ⟨h1,h2⟩
  ·exact hb
  ·exact hm.at (h.to.row t h1) h2
 ·intro t ht;rcases mP t ht with rfl | ⟨h1,h2⟩
  ·exact FN
  ·exact h.tr t h1
 ·intro t ht;rcases mP t ht with rfl | ⟨h1,h2⟩
  ·have:=h.X4 _ en;exact this
  ·exact h.X4 t h1
def CI (ns:List Nd) (fK:List Nat) (w w':World) (bm bo bd bu:Nat) (cf:Value) (out:List Nat) (i k:Nat) (bi:Option Nat) (us:List Value):Prop:=
 ∃ l md path to pa ts fx fj,MW w' (fun b=>b < w.heap.size∨b=bu) bm bo bd cf to pa ns.length l md path ts fx fj∧KI ns l∧MI ns l md out∧Rel ns fK out ts i k ∧
  (∀ b,bi=some b→∃ nd,ts[i]? = some (nd,b))∧Mod (fun _=>False) w w'∧w'.heap[bu]? = some (.cells us.toArray 3 (0,0))∧w.heap.size≤bu
theorem Sx {ns:List Nd} (hw:WF ns) (hn:ns.length≤1048576) {fK:List Nat} {w w':World} {bm bo bd bu:Nat} {cf:Value} {out:List Nat} {i k:Nat} {bi:Option Nat} {us:List Value} {F:Nat→Prop}
   (bt:qy 277 w cf ns F) (h:CI ns fK w w' bm bo bd bu cf out i k bi us) (hi:i≤out.length) (kj:i=out.length→k=0) {p:Nat} (hp:p < ns.length) (qB:fQ ns out p <+: fK) :
   aK Tryz.prog 241 [.pointer (some ⟨bm,0,none⟩),I p] w' (fun r w2=>r=I (fK.idxOf (over ns p):Nat)∧CI ns fK w w2 bm bo bd bu cf (fQ ns out p) i k bi us):=by
 obtain ⟨l,md,path,to,pa,ts,fx,fj,h1,h2,h3,h4,h5,h6,h7,h8⟩:=h;have hF:∀ b,F b→b < w.heap.size:=by obtain ⟨_,_,_,_,_,_,h⟩:=bt;exact h
 refine (ac3 ns hw hn w' _ bm bo bd cf to pa l md path ts fx fj F out (bt.mod h6 (fun _ _ h=>h)) (fun b hb=>.inl (hF b hb)) h1 h2 h3 h4.len p hp).mono ?_;rintro r w2 ⟨l',pG,AD,yL,CF,rU,yM,AE,rfl,k1,k2,k3,k4,k5⟩;refine ⟨by rw [Sd qB (Sb ns out p)],l',pG,AD,yL,CF,rU,yM,AE,k3,k1,k2,?_,?_,h6.step k4 (fun b hb ah=>hb (.inl ah)),k4.at h7 (fun hh=>hh (.inr rfl)),h8⟩
 ·rcases k5 with ⟨rfl,e⟩ | ⟨e,b,rfl,e1,e2,e3,e4⟩
  ·rw [e];exact h4
  ·rw [e1];exact ada hw h4 hi kj e2 e3 e4
 ·intro b hb;obtain ⟨nd,bQ⟩:=h5 b hb;rcases k5 with ⟨rfl,e⟩ | ⟨e,b,rfl,e1,e2,e3,e4⟩
  ·exact ⟨nd,bQ⟩
  ·exact ⟨nd,by rw [List.getElem?_append_left (List.getElem?_eq_some_iff.1 bQ).1];exact bQ⟩
theorem Sy (a:Nat) (size times:Int) (ns:List Nd) (F:Nat→Prop) (w:World) (v:Value) (roots:List Int) (h:kg 205 277 w a size times ns F) (hn:ns.length≤1048576) (hw:WF ns) (U:Ints w v roots) :
   aK Tryz.prog 232 [.pointer (some ⟨a,0,none⟩),v] w (adh 205 277 a size times F w ns roots):=by
 have hh:=h.has;have iH:=U;obtain ⟨va,vc,rfl,rW,_⟩:=iH;refine ab6.calls rfl ?_;unfold J5;(try simp only [go_sem,simprocAttr]);refine aq (by rfl) ?_;refine (Az a ns.length _ roots w hh U).mono ?_;rintro r _ ⟨rfl,rfl⟩;(try simp only [go_sem,simprocAttr]);refine aY rfl (fun hc=>?_) (fun hc=>?_)
 ·have bz:bJ ns.length roots=false:=by simpa using hc
  (try simp only [go_sem,simprocAttr]);exact ⟨fun _=>⟨rfl,Mod.refl _ _⟩,fun h=>by rw [bz] at h;cases h⟩
 have bz:bJ ns.length roots=true:=by simpa using hc
 obtain ⟨cv,dY,ps,g1,g2,g3,g4,g5,g6,g7⟩:=id h;have Sz:a < w.heap.size:=lt_of_heap g1;have bt:qy 277 w cv ns F:=⟨dY,ps,g3,g4,g5,g6,g7⟩;obtain ⟨ca,cc,rfl,_,_⟩:=g3.val;(try simp only [go_sem,simprocAttr,cell_of g1])
 refine Fp (fun ρ w'=>∃ bo bd bm,ρ.get 0=some (.pointer (some ⟨a,0,none⟩))∧ρ.get 1=some (.slice va roots.length vc)∧ρ.get 6=some (.pointer (some ⟨bm,0,none⟩)) ∧
  w'.heap[bm]? = some (.cells #[.slice ca ns.length cc,.slice none 0 0,.slice (some ⟨bo,0,none⟩) ns.length ns.length,.slice (some ⟨bd,0,none⟩) ns.length ns.length,.slice none 0 0] 281 (0,0)) ∧
  w'.heap[bo]? = some (.cells (List.replicate ns.length (I 0)).toArray 3 (0,0))∧w'.heap[bd]? = some (.cells (List.replicate ns.length (I 0)).toArray 3 (0,0))∧bo≠bd∧w.heap.size≤bo∧w.heap.size≤bd∧w.heap.size≤bm ∧
  Mod (fun _=>False) w w') ?_ ?_
 ·rw [Fo];refine ⟨?_,?_⟩
  ·refine uS (n:=ns.length) rfl (by omega) (by omega) ?_;intro w1 ax ag cL;have ag:Mod (fun _=>False) w w1:=ag.dj;have cL:w1.heap.size=w.heap.size+1:=cL;(try simp only [go_sem,simprocAttr]);have ka:=ag.old a Sz (fun h=>h);refine ⟨by simp only [il,ka,and_self,implies_true],?_⟩;refine uS (n:=ns.length) rfl (by omega) (by omega) ?_;intro w2 aC ae dq;have yQ:=ae.old a (by omega) (fun h=>h);(try simp only [go_sem,simprocAttr]);refine ⟨by simp only [il,yQ,and_self,implies_true],?_⟩;refine cK rfl ?_;intro w3 aJ ab eP;(try simp only [go_sem,simprocAttr]);refine ⟨w.heap.size,w1.heap.size,w2.heap.size,?_⟩;have qC:=ae.trans ab;refine ⟨rfl,aJ,qC.at ax (fun h=>h),ab.at aC (fun h=>h),?_,?_,?_,?_,(ag.trans ae).trans ab⟩
   all_goals omega
  ·refine uS (n:=ns.length) rfl (by omega) (by omega) ?_;intro w1 ax ag cL;have ag:Mod (fun _=>False) w w1:=ag.dj;have cL:w1.heap.size=w.heap.size+1:=cL;(try simp only [go_sem,simprocAttr]);have ka:=ag.old a Sz (fun h=>h);refine ⟨by simp only [il,ka,and_self,implies_true],?_⟩;refine uS (n:=ns.length) rfl (by omega) (by omega) ?_;intro w2 aC ae dq;have yQ:=ae.old a (by omega) (fun h=>h);(try simp only [go_sem,simprocAttr]);refine ⟨by simp only [il,yQ,and_self,implies_true],?_⟩;refine cK rfl ?_;intro w3 aJ ab eP;(try simp only [go_sem,simprocAttr]);refine ⟨w1.heap.size,w.heap.size,w2.heap.size,?_⟩;have qC:=ae.trans ab;refine ⟨rfl,aJ,ab.at aC (fun h=>h),qC.at ax (fun h=>h),?_,?_,?_,?_,(ag.trans ae).trans ab⟩
   all_goals omega
 rintro ρ w3 ⟨bo,bd,bm,r0,r1,r6,m1,m2,m3,mod,mo,md,mm,ab⟩;(try simp only [go_sem,simprocAttr,r0,r1,r6]);refine uS (n:=roots.length) rfl (by omega) (by omega) ?_;intro w4 aH ai eu;have SA:=ab.trans ai;have SA:=ab.trans ai;have adl:∀ (k:Nat) (hk:k < roots.length),0≤roots[k]∧roots[k] < ns.length:=fun k hk=>by
  have:=(List.all_eq_true.1 bz) roots[k] (List.getElem_mem hk)
  simpa using this
 have SB:w.heap.size≤w3.heap.size:=ab.size;have SC:List.replicate ns.length (I 0)=(List.replicate ns.length (0:Int)).map I:=by simp
 have bj:∀ b o,w3.heap[b]? = some o→b≠w3.heap.size:=fun b o h=>by have:=lt_of_heap h;omega
 have adm:CI ns (iX ns roots) w w4 bm bo bd w3.heap.size (.slice ca ns.length cc) [] 0 0 none (List.replicate roots.length (I 0)):=by
  refine ⟨List.replicate ns.length 0,List.replicate ns.length 0,[],.slice none 0 0,.slice none 0 0,[],none,none,?_,acL ns,acX ns _,ac9 ns _,(fun b h=>by cases h),SA,aH,SB⟩;have n1:=bj _ _ m1;have n2:=bj _ _ m2;have n3:=bj _ _ m3;refine ⟨ai.at m1 (fun h=>h),by rw [← SC];exact ai.at m2 (fun h=>h),by rw [← SC];exact ai.at m3 (fun h=>h),ao.nil _ _ _,⟨ao.nil _ _ _,(fun t h=>by cases h),List.nodup_nil⟩,mod,(fun h=>by cases h),(fun h=>by cases h),(fun t h=>by cases h),?_,(fun b h=>by cases h),(fun b h=>by cases h),(fun t h=>by cases h),?_⟩
  ·omega
  ·intro b hb;omega
 (try simp only [go_sem,simprocAttr])
 refine dA (fun m ρ w'=>∃ k:Nat,m=roots.length - k∧k≤roots.length∧CI ns (iX ns roots) w w' bm bo bd w3.heap.size (.slice ca ns.length cc) (meets ns [] (roots.take k)) 0 0 none (((roots.take k).map (num ns (iX ns roots))).map I++List.replicate (roots.length - k) (I 0)) ∧
  ρ=[(0,.pointer (some ⟨a,0,none⟩)),(6,.pointer (some ⟨bm,0,none⟩)),(7,.slice (some ⟨w3.heap.size,0,none⟩) roots.length roots.length),(39,.slice va roots.length vc),(40,I roots.length),(41,I k)]) roots.length
  ⟨0,rfl,by omega,by simpa [meets] using adm,rfl⟩ ?_
 rintro m ρ w5 ⟨k,rfl,hk,AJ,rfl⟩;unfold RF;(try simp only [go_sem,simprocAttr]);refine aY rfl (fun ah=>?_) (fun ah=>?_)
 ·have nH:k < roots.length:=by simpa using ah
  have FO:Ints w5 (.slice va roots.length vc) roots:=by
   obtain ⟨_,_,_,_,_,_,_,_,_,_,_,_,_,hm,_⟩:=AJ;exact U.mod hm (fun _ _ h=>h)
  obtain ⟨_,_,hve,_,mL⟩:=id FO;cases hve;obtain ⟨ad,rfl,ep⟩:=mL k nH;have b1:(0:Int)≤k∧(k:Int) < roots.length:=by omega
  have hr:=adl k nH;have FP:roots[k]=((roots[k].toNat:Nat):Int):=by omega
  rw [FP] at ep;(try simp only [go_sem,simprocAttr,an,bq,b1,ep]);have qB:fQ ns (meets ns [] (roots.take k)) roots[k].toNat <+: iX ns roots:=by
   rw [← FM ns roots [] (a:=roots[k]) (by simp [nH])];exact (Sv ns roots [] (k+1)).trans (Sc ns _ _ _)
  refine aq (by rfl) ?_;refine (Sx hw hn bt AJ (by omega) (fun _=>rfl) (by omega) qB).mono ?_;rintro r w6 ⟨rfl,l,md,path,to,pa,ts,fx,fj,q1,q2,q3,q4,q5,q6,q7,q8⟩;(try simp only [go_sem,simprocAttr,an,bq,b1]);refine bY (off:=k) rfl rfl q7 rfl (by simp;omega) ?_;intro w7 cm aX mN;have wY:IntKind.i64.wrap ((k:Int)+1)=((k+1:Nat):Int):=by rw [cy]<;>omega
  (try simp only [go_sem,simprocAttr,wY]);refine ⟨_,?_,k+1,rfl,by omega,⟨l,md,path,to,pa,ts,fx,fj,q1.adi aX (fun b hb=>.inr hb),q2,?_,?_,q5,q6.step aX (fun b hb ah=>by omega),?_,q8⟩,rfl⟩
  ·omega
  ·rw [FM ns roots [] (a:=roots[k]) (by simp [nH])];exact q3
  ·rw [FM ns roots [] (a:=roots[k]) (by simp [nH])];exact q4
  ·rw [cm]
   congr 3
   exact adj (num ns (iX ns roots)) roots (I 0) k nH
 ·have nH:k=roots.length:=by simp at ah;omega
  subst nH;(try simp only [go_sem,simprocAttr]);have adn:((roots.take roots.length).map (num ns (iX ns roots))).map I++List.replicate (roots.length - roots.length) (I 0)=(mM ns roots).map I:=by simp [mM]
  rw [adn,List.take_length] at AJ
  refine dA (fun m ρ w'=>∃ (i f:Nat) (out:List Nat),m=ns.length+1 - i∧f+i=ns.length+1∧i≤out.length∧reach ns f i out=iX ns roots ∧
   CI ns (iX ns roots) w w' bm bo bd w3.heap.size (.slice ca ns.length cc) out i 0 none ((mM ns roots).map I) ∧
   ρ=[(0,.pointer (some ⟨a,0,none⟩)),(6,.pointer (some ⟨bm,0,none⟩)),(7,.slice (some ⟨w3.heap.size,0,none⟩) roots.length roots.length),(10,I i)]) (ns.length+1)
   ⟨0,ns.length+1,_,rfl,rfl,Nat.zero_le _,rfl,AJ,rfl⟩ ?_
  rintro m ρ w6 ⟨i,f,out,rfl,SD,hio,CN,ado,rfl⟩;unfold RH;obtain ⟨l,pG,path,to,pa,ts,fx,fj,q1,q2,q3,q4,q5,q6,q7,q8⟩:=id ado;obtain ⟨ta,tc,rfl,_,_⟩:=q1.to.own.val;have aoN:=CJ q3.met;(try simp only [go_sem,simprocAttr,an,bq,cell_of q1.cells]);refine aY rfl (fun ah=>?_) (fun ah=>?_)
  ·have nH:i < ts.length:=by simpa using ah
   have ve:i < out.length:=by rw [← q4.len];exact nH
   have Kt:out[i]? = some out[i]:=by simp [ve]
   obtain ⟨nd,b,t1,t2,t3,t4,t5⟩:=q4.nd i out[i] Kt;obtain ⟨tb,tc',Aj,adp,aoO⟩:=Ks q1.to t1;cases Aj;have b1:(0:Int)≤i∧(i:Int) < ts.length:=by omega
   (try simp only [go_sem,simprocAttr,an,bq,cell_of q1.cells,b1,adp]);have aoP:nd.args.length=(ak ns out[i]).args.length:=t4;have hA8:nd.args.length≤8:=by
    rw [t4];have U:=q3.met.2 out[i] (List.getElem_mem ve);have hm:=(jh hw U.1).1;simp only [Nd.may,gU,decide_eq_true_eq] at hm;omega
   obtain ⟨f,rfl⟩:∃ f',f=f'+1:=⟨f - 1,by omega⟩;have qD:=acW ns f i out ve;rw [qD] at CN;have adq:meets ns out (ak ns out[i]).args <+: iX ns roots:=by rw [← CN];exact Sc ns _ _ _
   have FO:=out[i]
   refine dA (fun m ρ w'=>∃ k:Nat,m=nd.args.length - k∧k≤nd.args.length∧CI ns (iX ns roots) w w' bm bo bd w3.heap.size (.slice ca ns.length cc) (meets ns out ((ak ns out[i]).args.take k)) i k (some b) ((mM ns roots).map I) ∧
    ρ=[(0,.pointer (some ⟨a,0,none⟩)),(6,.pointer (some ⟨bm,0,none⟩)),(7,.slice (some ⟨w3.heap.size,0,none⟩) roots.length roots.length),(10,I i),(69,.slice (some ⟨b,0,none⟩) nd.args.length nd.args.length),(70,I nd.args.length),(71,I k)]) nd.args.length
    ⟨0,rfl,Nat.zero_le _,⟨l,pG,path,_,pa,ts,fx,fj,q1,q2,q3,q4,(fun b' cj=>by cases cj;exact ⟨nd,t1⟩),q6,q7,q8⟩,rfl⟩ ?_
   rintro m ρ w7 ⟨k,rfl,hk,FQ,rfl⟩;have SE:out <+: meets ns out ((ak ns out[i]).args.take k):=FJ ns _ _;have adr:=SE.length_le;have Ku:(meets ns out ((ak ns out[i]).args.take k))[i]? = some out[i]:=by
    obtain ⟨tl,pI⟩:=SE;rw [← pI,List.getElem?_append_left ve];exact Kt
   unfold RG;(try simp only [go_sem,simprocAttr]);refine aY rfl (fun pF=>?_) (fun pF=>?_)
   ·have ads:k < nd.args.length:=by simpa using pF
    obtain ⟨l2,SF,SG,SH,SI,SJ,SK,SL,u1,u2,u3,u4,u5,u6,u7,u8⟩:=id FQ;obtain ⟨SM,v1⟩:=u5 b rfl;obtain ⟨aoQ,SN,SO,v2,v3,v4,v5⟩:=u4.nd i out[i] Ku;rw [v1] at SO;cases SO;have adt:k < SM.args.length:=by omega
    have Kv:(ak ns out[i]).args[k]? = some ((ak ns out[i]).args[k]'(by omega)):=List.getElem?_eq_getElem (by omega);obtain ⟨a1,nI⟩:∃ a1,SM.args[k]? = some a1:=⟨_,List.getElem?_eq_getElem adt⟩;obtain ⟨a0,lZ⟩:∃ a0,(ak ns out[i]).args[k]? = some a0:=⟨_,Kv⟩;have SP:=v5 k a1 a0 nI lZ;rw [if_neg (by omega)] at SP;obtain ⟨r1',r2',SQ⟩:=SP;obtain ⟨_,_,_,_,adu⟩:=Ks u1.to v1;have gC:w7.cell? ⟨b,k,none⟩=some (I ((a1.toNat:Nat):Int)):=by
     rw [cell_of adu];have:((a1.toNat:Nat):Int)=a1:=by omega
     rw [this];simp [nI]
    have b2:(0:Int)≤k∧(k:Int) < nd.args.length:=by omega
    (try simp only [go_sem,simprocAttr,an,bq,b2,gC]);have mQ:fQ ns (meets ns out ((ak ns out[i]).args.take k)) a1.toNat=meets ns out ((ak ns out[i]).args.take (k+1)):=by
     rw [FM ns _ _ lZ];exact adg ns _ SQ
    refine aq (by rfl) ?_;refine (Sx hw hn bt FQ (by omega) (fun hh=>by omega) (by omega) (by rw [mQ];exact (Sv ns _ _ _).trans adq)).mono ?_;rintro r w8 ⟨rfl,SR⟩;rw [mQ] at SR;obtain ⟨l3,md3,adv,to3,pa3,Kw,adw,adx,x1,x2,x3,x4,x5,x6,x7,x8⟩:=SR;obtain ⟨FR,y1⟩:=x5 b rfl;obtain ⟨tb3,tc3,rfl,ady,adz⟩:=Ks x1.to y1;have SS:(meets ns out ((ak ns out[i]).args.take (k+1)))[i]? = some out[i]:=by
     obtain ⟨tl,pI⟩:=FJ ns ((ak ns out[i]).args.take (k+1)) out;rw [← pI,List.getElem?_append_left ve];exact Kt
    obtain ⟨aoR,b3',SU,y2,y3,y4,y5⟩:=x4.nd i out[i] SS;rw [y1] at SU;cases SU;have adA:i < Kw.length:=(List.getElem?_eq_some_iff.1 y1).1;have b3:(0:Int)≤i∧(i:Int) < Kw.length:=by omega
    have b4:(0:Int)≤k∧(k:Int) < FR.args.length:=by omega
    (try simp only [go_sem,simprocAttr,an,bq,cell_of x1.cells,b3,ady,b4]);refine bY (off:=k) rfl rfl adz rfl (by simp;omega) ?_;intro w9 lH dO CO;rw [map_set] at lH;have wY:IntKind.i64.wrap ((k:Int)+1)=((k+1:Nat):Int):=by rw [cy]<;>omega
    (try simp only [go_sem,simprocAttr,wY]);have jk:((iX ns roots).idxOf (over ns a1.toNat):Int)=num ns (iX ns roots) a0:=by simp [num,SQ]
    rw [jk] at lH;have hXb:=x1.X4 _ (List.mem_of_getElem? y1);have aoS:¬ (b < w.heap.size∨b=w3.heap.size):=hXb;refine ⟨_,?_,k+1,rfl,by omega,⟨l3,md3,adv,_,pa3,Kw.set i (⟨FR.kind,FR.num,FR.args.set k (num ns (iX ns roots) a0)⟩,b),adw,adx,x1.set y1 (by simp) dO lH,x2,x3,ade x4 SS y1 lZ,?_,x6.step dO (fun b' cj ah=>by omega),dO.at x7 (fun hh=>by omega),x8⟩,rfl⟩
    ·omega
    ·intro b' cj;cases cj;exact ⟨_,by rw [List.getElem?_set,if_pos rfl,if_pos adA]⟩
   ·have ads:k=nd.args.length:=by simp at pF;omega
    have AK:IntKind.i64.wrap ((i:Int)+1)=((i+1:Nat):Int):=by rw [cy]<;>omega
    (try simp only [go_sem,simprocAttr,AK]);have iJ:(ak ns out[i]).args.take k=(ak ns out[i]).args:=List.take_of_length_le (by omega);rw [iJ] at FQ Ku adr;obtain ⟨l2,SF,SG,SH,SI,SJ,SK,SL,u1,u2,u3,u4,u5,u6,u7,u8⟩:=FQ;refine ⟨_,?_,i+1,f,meets ns out (ak ns out[i]).args,rfl,by omega,by omega,CN,⟨l2,SF,SG,SH,SI,SJ,SK,SL,u1,u2,u3,adb u4 Ku (by omega),(fun b h=>by cases h),u6,u7,u8⟩,rfl⟩;omega
  ·have nH:¬ i < ts.length:=by simpa using ah
   have gB:out.length≤i:=by rw [← q4.len];omega
   rw [acV ns f i out gB] at CN;subst CN;have SW:=adf q4 gB;have g16:=q6.at g1 (fun h=>h);(try simp only [go_sem,simprocAttr,an,bq,cell_of q1.cells,cell_of g16]);refine bY (off:=1) rfl rfl g16 rfl (by simp) ?_;intro w7 cm aX mN;(try simp only [go_sem,simprocAttr,cell_of cm]);refine bY (off:=2) rfl rfl cm rfl (by simp) ?_;intro w8 eB ch xf;(try simp only [go_sem,simprocAttr]);refine ⟨fun h=>(by rw [bz] at h;cases h),fun _=>⟨_,some w3.heap.size,fun b=>b=a∨fx=some b∨∃ t∈ts,t.2=b,rfl,?_,?_,?_,?_⟩⟩
   ·have Kx:w3.heap.size≠a:=by omega
    have:=ao.fG (sz:=1) (n:=roots.length) (ch.at (aX.at q7 Kx) Kx) (by simp [mM]);have hl:(mM ns roots).length=roots.length:=by simp [mM]
    rw [hl];exact this
   ·have iT:ts.length=(jB ns roots).length:=by rw [jB,← SW];simp
    have SX:∀ b,fx=some b→¬ b=a:=fun b hb hh=>q1.X3 b hb (.inl (by omega))
    have SY:∀ t∈ts,¬ t.2=a:=fun t ht hh=>q1.X4 t ht (.inl (by omega))
    have xf:w8.heap.size=w6.heap.size:=xf.trans mN;have eL:∀ t∈ts,w8.heap[t.2]? = some (.cells (t.1.args.map I).toArray 3 (0,0)):=fun t ht=>ch.at (aX.at (q1.to.row t ht) (SY t ht)) (SY t ht)
    refine ⟨.slice ta ts.length tc,fx,ts.map rT,by simpa using eB,.inl rfl,?_,(fun b hb=>.inr (.inl hb)),?_,?_,?_⟩
    ·rw [← iT];exact (q1.to.own.mod aX SX).mod ch SX
    ·intro p hp;obtain ⟨t,ht,rfl⟩:=List.mem_map.1 hp;exact ⟨some t.2,ao.fG (eL t ht) (by simp [rT]),fun b hb=>.inr (.inr ⟨t,ht,by cases hb;rfl⟩)⟩
    ·rw [List.map_map,jB,← SW];rfl
    ·intro b hb;rcases hb with rfl | hb | ⟨t,ht,rfl⟩
     ·have:=q6.size;omega
     ·have:=q1.to.own.lt hb;omega
     ·exact lt_of_heap (eL t ht)
   ·refine ⟨((q6.az (fun _ h=>h.elim)).step aX (fun b hb _=>hb ▸ g2)).step ch (fun b hb _=>hb ▸ g2),?_⟩;rintro b (rfl | hb | ⟨t,ht,rfl⟩)
    ·exact .inl g2
    ·have:=q1.X3 b hb;exact .inr (by omega)
    ·have:=q1.X4 t ht;exact .inr (by omega)
   ·intro b hb;cases hb;refine ⟨SB,?_⟩;rintro (hh | hb | ⟨t,ht,hh⟩)
    ·omega
    ·exact q1.X3 _ hb (.inr rfl)
    ·exact q1.X4 t ht (.inr hh)
end
section
open Go Go.W
structure SZ where
 out:Option (List Int)
 err:Int
 ns:List Nd
 times:Int
def jl (size times:Int) (ns:List Nd) (n:Int) (roots:List Int):SZ:=
 if n < 0 then ⟨none,1,ns,times⟩ else if bJ ns.length roots=false then ⟨none,202,ns,times⟩ else if n≤size - ns.length then ⟨some roots,0,ns,times⟩
 else if n > size - (jB ns roots).length then ⟨none,201,jB ns roots,IntKind.i64.wrap (times+1)⟩ else ⟨some (mM ns roots),0,jB ns roots,IntKind.i64.wrap (times+1)⟩
def adB (Ta Tc:Nat) (a:Nat) (size:Int) (F:Nat→Prop) (w:World) (s:SZ) (r:Value) (w':World):Prop:=
 ∃ F',kg Ta Tc w' a size s.times s.ns F'∧Grow F F' w w'∧(s.out=none→r = .tuple #[.slice none 0 0,I s.err]) ∧
  (∀ l,s.out=some l→∃ v fp,r = .tuple #[v,I s.err]∧ao w' 3 1 v (l.map I) l.length fp∧∀ b,fp=some b→w.heap.size≤b∧¬ F' b)
theorem adC {ns:List Nd} (hw:WF ns) (roots:List Int) (ho:bJ ns.length roots=true):(jB ns roots).length≤ns.length:=by
 have key:∀ f i out,Met ns out→Met ns (reach ns f i out):=by
  intro f
  induction f with
  | zero=>intro i out h;exact h
  | succ f ih=>
   intro i out h;unfold reach
   split
   ·rename_i x U;exact ih _ _ (Se hw _ h (jh hw (h.2 x (List.mem_of_getElem? U)).1).2)
   ·exact h
 have:=CJ (key (ns.length+1) 0 _ (Se hw roots (R9 ns) ho))
 simpa [jB,iX] using this
theorem adD (a:Nat) (size times:Int) (ns:List Nd) (F:Nat→Prop) (w:World) (n:Int) (v:Value) (roots:List Int) (h:kg 205 277 w a size times ns F) (hn:ns.length≤1048576) (lq:0≤size) (hs:size≤1048576) (hw:WF ns) (U:Ints w v roots) :
   aK Tryz.prog 235 [.pointer (some ⟨a,0,none⟩),I n,v] w (adB 205 277 a size F w (jl size times ns n roots)):=by
 have iH:=U;obtain ⟨va,vc,rfl,rW,_⟩:=iH;have same:∀ w',Mod (fun _=>False) w w'→∃ F',kg 205 277 w' a size times ns F'∧Grow F F' w w':=fun w' hm=>
  ⟨F,h.mod hm (fun _ _ h=>h),hm.az (fun _ h=>h.elim),fun b hb=>.inl hb⟩
 refine ab8.calls rfl ?_;unfold J7;refine σ ?_;refine aY rfl (fun hc=>?_) (fun hc=>?_)
 ·have bz:n < 0:=by simpa using hc
  refine σ ?_;have e:jl size times ns n roots=⟨none,1,ns,times⟩:=by unfold jl;rw [if_pos bz]
  rw [e];exact ⟨F,h,⟨Mod.refl _ _,fun b hb=>.inl hb⟩,fun _=>rfl,fun l hl=>(by cases hl)⟩
 have cY:¬ n < 0:=by simpa using hc
 refine σ ?_;refine δ (by rfl) (Az a ns.length _ roots w h.has U) ?_;rintro r _ ⟨rfl,rfl⟩;refine σ ?_;refine aY rfl (fun hc=>?_) (fun hc=>?_)
 ·have bz:bJ ns.length roots=false:=by simpa using hc
  refine σ ?_;have e:jl size times ns n roots=⟨none,202,ns,times⟩:=by unfold jl;rw [if_neg cY,if_pos bz]
  rw [e];exact ⟨F,h,⟨Mod.refl _ _,fun b hb=>.inl hb⟩,fun _=>rfl,fun l hl=>(by cases hl)⟩
 have cB:bJ ns.length roots=true:=by simpa using hc
 obtain ⟨cv,dY,ps,g1,g2,g3,g4,g5,g6,g7⟩:=id h;obtain ⟨ca,cc,rfl,_,_⟩:=g3.val;have rI:IntKind.i64.wrap (size - (ns.length:Int))=size - ns.length:=by rw [cy]<;>omega
 simp only [go_sem,simprocAttr,cell_of g1,rI];refine aY rfl (fun hc=>?_) (fun hc=>?_)
 ·have bz:n≤size - ns.length:=by simpa using hc
  have e:jl size times ns n roots=⟨some roots,0,ns,times⟩:=by unfold jl;rw [if_neg cY,if_neg (by simp [cB]),if_pos bz]
  rw [e];refine σ ?_;refine δ (by rfl) (FA _ roots w.drew U) ?_;rintro r w2 ⟨b2,rfl,aC,hge,ae⟩;have ae:=ae.dj;have hge:w.heap.size≤b2:=hge;refine σ ?_;refine ⟨F,h.mod ae (fun _ _ h=>h),⟨ae.az (fun _ h=>h.elim),fun b hb=>.inl hb⟩,fun hh=>(by cases hh),fun l hl=>?_⟩;cases hl;exact ⟨_,some b2,rfl,ao.fG aC (by simp),fun b hb=>by cases hb;exact ⟨hge,fun hF=>by have:=g7 _ hF;omega⟩⟩
 have ey:¬ n≤size - ns.length:=by simpa using hc
 refine σ ?_;refine δ (by rfl) (Sy a size times ns F w.drew _ roots h hn hw U) ?_;rintro r w2 ⟨_,k2⟩;obtain ⟨v2,jT,F2,rfl,k3,k4,⟨k5,k6⟩,k7⟩:=k2 cB;have k5:Mod F w w2:=k5.dj;have k6:∀ b,F2 b→F b∨w.heap.size≤b:=k6;have k7:∀ b,jT=some b→w.heap.size≤b∧¬ F2 b:=k7;have ik:=adC hw roots cB;obtain ⟨cv2,aoT,ps2,j1,j2,j3,j4,j5,j6,j7⟩:=id k4;obtain ⟨ca2,cc2,rfl,_,_⟩:=j3.val;have vh:IntKind.i64.wrap (size - ((jB ns roots).length:Int))=size - (jB ns roots).length:=by rw [cy]<;>omega
 simp only [go_sem,simprocAttr,cell_of j1,vh];refine aY rfl (fun hc=>?_) (fun hc=>?_)
 ·have bz:n > size - (jB ns roots).length:=by simpa using hc
  have e:jl size times ns n roots=⟨none,201,jB ns roots,IntKind.i64.wrap (times+1)⟩:=by unfold jl;rw [if_neg cY,if_neg (by simp [cB]),if_neg ey,if_pos bz]
  rw [e];refine σ ?_;exact ⟨F2,k4,⟨k5.drew,k6⟩,fun _=>rfl,fun l hl=>(by cases hl)⟩
 ·have bz:¬ n > size - (jB ns roots).length:=by simpa using hc
  have e:jl size times ns n roots=⟨some (mM ns roots),0,jB ns roots,IntKind.i64.wrap (times+1)⟩:=by unfold jl;rw [if_neg cY,if_neg (by simp [cB]),if_neg ey,if_neg bz]
  rw [e];refine σ ?_;refine ⟨F2,k4,⟨k5.drew,k6⟩,fun hh=>(by cases hh),fun l hl=>?_⟩;cases hl;exact ⟨v2,jT,rfl,k3,k7⟩
end
section
open Go Go.W
theorem S0 (k n:Int) (v:Value) (xs:List Int) (w:World) (U:Ints w v xs) :
   aK Tryz.prog 193 [.agg #[I k,I n,v]] w fun r w'=>r = .bool (gU k n xs.length)∧Mod (fun _=>False) w w':=by
 obtain ⟨a,c,rfl,hl,_⟩:=U;refine abS.calls rfl ?_;unfold JR;refine σ ?_;refine cK rfl ?_;intro w1 hb hm _;have ah:=lt_of_heap hb;simp only [go_sem,simprocAttr,cell_of hb]
 repeat' (first | (refine aY rfl (fun h=>?_) (fun h=>?_)<;>simp only [go_sem,simprocAttr,cell_of hb,h]) | (refine uR rfl (fun h=>?_) (fun h=>?_)<;>simp only [go_sem,simprocAttr,cell_of hb,h]))
 all_goals (refine ⟨?_,hm⟩;congr 1;rw [Bool.eq_iff_iff];unfold gU;simp only [aL,aM,aN,an,aQ] at *;omega)
theorem sz3:gu Tryz.prog 3=some 1:=by kernel_rfl
theorem AL (v:Value) (xs:List Int) (w:World) (U:Ints w v xs) :
   aK Tryz.prog 39 [v] w fun r w'=>Mod (fun _=>False) w w'∧yF w w' r xs:=by
 have qp:=U;obtain ⟨a,c,rfl,hl,mL⟩:=U;refine abH.calls rfl ?_;unfold JG;cases a with
 | none=>
  have e:xs=[]:=by
   cases xs with
   | nil=>rfl
   | cons y l=>obtain ⟨ad,h,_⟩:=mL 0 (by simp);cases h
  subst e;simp only [go_sem,simprocAttr,Option.isNone_none];exact ⟨Mod.refl _ _,none,ao.nil _ _ _,fun b hb=>by cases hb⟩
 | some ad=>
  simp only [go_sem,simprocAttr,Option.isNone_some];refine Ft (t:=26) (el:=3) (n:=1) Tryz.underlying26 sz3 ?_;intro w1 ax ag cL;have jx:ao w1 3 1 (.slice (some ⟨w.heap.size,0,none⟩) 0 0) [] 0 (some w.heap.size):=ao.fG (xs:=[]) ax (by simp);obtain ⟨_,hr,hn⟩:=(qp.mod ag (fun _ _ h=>h)).rd;refine σ ?_;refine eH (m:=xs.length) (news:=xs.map I) rfl jx rfl (fun h=>by cases h) hr (pB xs) rfl (by omega) (by omega) ?_;intro v2 w2 jT dR ae eO;obtain ⟨va,vc,rfl,_,_⟩:=dR.val;refine σ ?_;refine ⟨ag.step ae (fun x U ah=>by cases U;omega),jT,by simpa using dR,fun b hb=>?_⟩;rcases eO b hb with h | h
  ·cases h;omega
  ·omega
theorem adE (v:Value) (xs:List Int) (w:World) (U:Ints w v xs) (f:FuncId) (fn:Func) (cap:Array Value) (p:Int→Bool) (oD:Tryz.prog.funcs[f]? = some fn) (uK:fn.body.isSome=true) (yA:(fn.name == "runtime.NumGoroutine")=false)
   (hf:∀ x∈xs,aK Tryz.prog f ([I x]++cap.toList) w fun r w'=>r = .bool (p x)∧w=w') :
   aK Tryz.prog 102 [v,.func (.func f) #[] cap] w fun r w'=>(∃ i:Int,r=I i∧(0≤i↔xs.any p=true))∧w=w':=by
 obtain ⟨a,c,rfl,hl,mL⟩:=U;refine abJ.calls rfl ?_;unfold JI;refine σ ?_
 refine dA (fun m ρ w'=>∃ k:Nat,m=xs.length - k∧k≤xs.length∧w=w'∧(xs.take k).any p=false ∧
  ρ=[(0,.slice a xs.length c),(1,.func (.func f) #[] cap),(7,I xs.length),(8,I k)]) xs.length ⟨0,rfl,by omega,rfl,by simp,rfl⟩ ?_
 rintro m ρ _ ⟨k,rfl,hk,rfl,df,rfl⟩;unfold Ru;refine σ ?_;refine aY rfl (fun h=>?_) (fun h=>?_)
 ·have ah:k < xs.length:=by simpa using h
  obtain ⟨ad,rfl,hc⟩:=mL k ah;have c1:(0:Int)≤k∧(k:Int) < xs.length:=by omega
  simp only [go_sem,simprocAttr,an,bq,c1,hc];refine Fs rfl (by rfl) oD uK yA ?_;refine (hf xs[k] (List.getElem_mem _)).mono ?_;rintro r _ ⟨rfl,rfl⟩;refine σ ?_;refine aY rfl (fun h2=>?_) (fun h2=>?_)
  ·refine σ ?_;refine ⟨_,rfl,fun _=>?_,fun _=>by omega⟩;exact List.any_eq_true.2 ⟨_,List.getElem_mem _,h2⟩
  ·have hw:IntKind.i64.wrap ((k:Int)+1)=((k+1:Nat):Int):=by rw [cy]<;>omega
   simp only [go_sem,simprocAttr,hw];refine ⟨_,?_,k+1,rfl,ah,?_,rfl⟩
   ·omega
   ·rw [List.take_succ_eq_append_getElem ah,List.any_append,df];simp [h2]
 ·have dX:k=xs.length:=by simp at h;omega
  subst dX;refine σ ?_;rw [List.take_length] at df;exact ⟨_,rfl,fun h=>by omega,fun h=>by rw [df] at h;cases h⟩
theorem Ky (v:Value) (xs:List Int) (w:World) (U:Ints w v xs) (f:FuncId) (fn:Func) (cap:Array Value) (p:Int→Bool) (oD:Tryz.prog.funcs[f]? = some fn) (uK:fn.body.isSome=true) (yA:(fn.name == "runtime.NumGoroutine")=false)
   (hf:∀ x∈xs,aK Tryz.prog f ([I x]++cap.toList) w fun r w'=>r = .bool (p x)∧w=w') :
   aK Tryz.prog 70 [v,.func (.func f) #[] cap] w fun r w'=>r = .bool (xs.any p)∧w=w':=by
 refine abI.calls rfl ?_;unfold JH;refine σ ?_;refine δ (by rfl) (adE v xs w U f fn cap p oD uK yA hf) ?_;rintro r _ ⟨⟨i,rfl,hi⟩,rfl⟩;refine σ ?_
 congr 1
 rw [Bool.eq_iff_iff,decide_eq_true_eq];exact hi
end
section
open Go Go.W
def kn (w:World) (ps:List (Nd×Value)) (fp:Nat→Option Nat) (F:Nat→Prop):Prop:=
 (∀ i (h:i < ps.length),ao w 3 1 ps[i].2 (ps[i].1.args.map I) ps[i].1.args.length (fp i)∧∀ b,fp i=some b→F b)∧∀ i j b,i < ps.length→j < ps.length→i≠j→fp i=some b→fp j≠some b
theorem adF {w:World} {ps:List (Nd×Value)} {fp:Nat→Option Nat} {F:Nat→Prop} (h:kn w ps fp F):ly w ps F:=by
 intro p hp;obtain ⟨i,hi,rfl⟩:=List.getElem_of_mem hp;exact ⟨fp i,h.1 i hi⟩
theorem jC {w w':World} {ps:List (Nd×Value)} {fp:Nat→Option Nat} {F S:Nat→Prop} (h:kn w ps fp F) (hm:Mod S w w') (hd:∀ i b,i < ps.length→fp i=some b→¬ S b):kn w' ps fp F:=
 ⟨fun i hi=>⟨(h.1 i hi).1.mod hm (fun b hb=>hd i b hi hb),(h.1 i hi).2⟩,h.2⟩
theorem Kz {w:World} {ps:List (Nd×Value)} {fp:Nat→Option Nat} {F F':Nat→Prop} (h:kn w ps fp F) (hf:∀ b,F b→F' b):kn w ps fp F':=
 ⟨fun i hi=>⟨(h.1 i hi).1,fun b hb=>hf b ((h.1 i hi).2 b hb)⟩,h.2⟩
theorem S1 (w:World) (F:Nat→Prop):kn w [] (fun _=>none) F:=⟨fun i hi=>absurd hi (by simp),fun i j b hi=>absurd hi (by simp)⟩
theorem S2 {w:World} {ps:List (Nd×Value)} {fp:Nat→Option Nat} {F:Nat→Prop} (h:kn w ps fp F) {nd:Nd} {v:Value} {f:Option Nat} (ho:ao w 3 1 v (nd.args.map I) nd.args.length f) (hF:∀ b,f=some b→F b) (hn:∀ i b,i < ps.length→fp i=some b→f≠some b) :
   kn w (ps++[(nd,v)]) (fun i=>if i < ps.length then fp i else f) F:=by
 refine ⟨fun i hi=>?_,fun i j b hi hj eA h1 h2=>?_⟩
 ·by_cases jD:i < ps.length
  ·rw [List.getElem_append_left jD];simp only [if_pos jD];exact h.1 i jD
  ·have e:i=ps.length:=by simp at hi;omega
   subst e;simp only [List.getElem_concat_length,Nat.lt_irrefl,if_false];exact ⟨ho,hF⟩
 ·simp only [List.length_append,List.length_cons,List.length_nil] at hi hj;simp only at h1 h2;by_cases jD:i < ps.length
  ·rw [if_pos jD] at h1;by_cases jE:j < ps.length
   ·rw [if_pos jE] at h2;exact h.2 i j b jD jE eA h1 h2
   ·rw [if_neg jE] at h2;exact hn i b jD h1 h2
  ·rw [if_neg jD] at h1;by_cases jE:j < ps.length
   ·rw [if_pos jE] at h2;exact hn j b jE h2 h1
   ·omega
theorem adG {w:World} {ps:List (Nd×Value)} {fp:Nat→Option Nat} {F:Nat→Prop} (h:kn w ps fp F) {k:Nat} {nd:Nd} {v:Value} {f:Option Nat} (ho:ao w 3 1 v (nd.args.map I) nd.args.length f) (hF:∀ b,f=some b→F b) (hn:∀ i b,i < ps.length→i≠k→fp i=some b→f≠some b) :
   kn w (ps.set k (nd,v)) (fun i=>if i=k then f else fp i) F:=by
 refine ⟨fun i hi=>?_,fun i j b hi hj eA h1 h2=>?_⟩
 ·have bO:i < ps.length:=by simpa using hi
  rw [List.getElem_set];by_cases kj:k=i
  ·rw [if_pos kj];simp only [kj.symm,if_true];exact ⟨ho,hF⟩
  ·have adH:¬ i=k:=fun hh=>kj hh.symm
   rw [if_neg kj];simp only [if_neg adH];exact h.1 i bO
 ·have bO:i < ps.length:=by simpa using hi
  have qx:j < ps.length:=by simpa using hj
  simp only at h1 h2;by_cases kj:i=k
  ·rw [if_pos kj] at h1;rw [if_neg (by omega)] at h2;exact hn j b qx (by omega) h2 h1
  ·rw [if_neg kj] at h1;by_cases oE:j=k
   ·rw [if_pos oE] at h2;exact hn i b bO kj h1 h2
   ·rw [if_neg oE] at h2;exact h.2 i j b bO qx eA h1 h2
def kL (Tc:Nat) (w:World) (cf:Value) (ns:List Nd) (F:Nat→Prop):Prop:=
 ∃ dY ps fp,ao w Tc 3 cf (flat ps) ns.length dY∧(∀ b,dY=some b→F b)∧kn w ps fp F∧ps.map Prod.fst=ns∧∀ b,F b→b < w.heap.size
theorem AM {Tc:Nat} {w:World} {cf:Value} {ns:List Nd} {F:Nat→Prop} (h:kL Tc w cf ns F):qy Tc w cf ns F:=by
 obtain ⟨dY,ps,fp,h1,h2,h3,h4,h5⟩:=h;exact ⟨dY,ps,h1,h2,adF h3,h4,h5⟩
theorem rX {Tc:Nat} {w w':World} {cf:Value} {ns:List Nd} {F S:Nat→Prop} (h:kL Tc w cf ns F) (hm:Mod S w w') (hd:∀ b,F b→¬ S b):kL Tc w' cf ns F:=by
 obtain ⟨dY,ps,fp,h1,h2,h3,h4,h5⟩:=h;exact ⟨dY,ps,fp,h1.mod hm (fun b hb=>hd b (h2 b hb)),h2,jC h3 hm (fun i b hi hb=>hd b ((h3.1 i hi).2 b hb)),h4,fun b hb=>Nat.lt_of_lt_of_le (h5 b hb) hm.size⟩
theorem CP {Tc:Nat} {w:World} {cf:Value} {ns:List Nd} {F:Nat→Prop} (h:kL Tc w cf ns F):∃ a c,cf = .slice a ns.length c:=by
 obtain ⟨dY,ps,fp,h1,_⟩:=h;obtain ⟨a,c,e,_⟩:=h1.val;exact ⟨a,c,e⟩
def yR (ns:List Nd) (old:Nat) (ld:List (Int×Int)):Prop:=
 (ld.map (fun q=>q.1)).Nodup∧∀ k:Int,k∈ld.map (fun q=>q.1)↔∃ p:Nat,k=p∧p < old∧∃ a∈(ak ns p).args,(old:Int)≤a
def jm (w:World) (a:Nat) (size bp:Int) (old:Nat) (times:Int) (ns:List Nd) (F:Nat→Prop):Prop:=
 ∃ cv mb ld,w.heap[a]? = some (.cells #[I size,I bp,cv,I old,.map (some mb),I times] 202 (0,0))∧F a∧kL 104 w cv ns F∧gi w mb ld∧F mb∧yR ns old ld
theorem kM {w w':World} {a:Nat} {size bp:Int} {old:Nat} {times:Int} {ns:List Nd} {F S:Nat→Prop} (h:jm w a size bp old times ns F) (hm:Mod S w w') (hd:∀ b,F b→¬ S b):jm w' a size bp old times ns F:=by
 obtain ⟨cv,mb,ld,h1,h2,h3,h4,h5,h6⟩:=h;exact ⟨cv,mb,ld,hm.at h1 (hd a h2),h2,rX h3 hm hd,dT h4 hm (hd mb h5),h5,h6⟩
theorem AN {w:World} {a:Nat} {size bp:Int} {old:Nat} {times:Int} {ns:List Nd} {F:Nat→Prop} (h:jm w a size bp old times ns F):∀ b,F b→b < w.heap.size:=by
 obtain ⟨cv,mb,ld,h1,h2,⟨_,_,_,_,_,_,_,h3⟩,h4,h5,h6⟩:=h;exact h3
def yS (w:World) (a n old:Nat):Prop:=∃ c0 c1 ba c c4 c5,w.heap[a]? = some (.cells #[c0,c1,.slice ba n c,I old,c4,c5] 202 (0,0))
theorem xg {w:World} {a:Nat} {size bp:Int} {old:Nat} {times:Int} {ns:List Nd} {F:Nat→Prop} (h:jm w a size bp old times ns F):yS w a ns.length old:=by
 obtain ⟨cv,mb,ld,h1,h2,h3,h4⟩:=h;obtain ⟨x,c,rfl⟩:=CP h3;exact ⟨_,_,x,c,_,_,h1⟩
theorem adI {w w':World} {a n old:Nat} {S:Nat→Prop} (h:yS w a n old) (hm:Mod S w w') (ha:¬ S a):yS w' a n old:=by
 obtain ⟨c0,c1,ba,c,c4,c5,h1⟩:=h;exact ⟨c0,c1,ba,c,c4,c5,hm.at h1 ha⟩
theorem S3:Tryz.f198.body.isSome=true∧(Tryz.f198.name == "runtime.NumGoroutine")=false:=⟨by kernel_rfl,by kernel_rfl⟩
theorem S4:Tryz.f197.body.isSome=true∧(Tryz.f197.name == "runtime.NumGoroutine")=false:=⟨by kernel_rfl,by kernel_rfl⟩
theorem adJ (w:World) (a n old bx:Nat) (x:Int) (h:yS w a n old) (hb:w.heap[bx]? = some (.cells #[.pointer (some ⟨a,0,none⟩)] 169 (0,0))) :
   aK Tryz.prog 198 [I x,.pointer (some ⟨bx,0,none⟩)] w fun r w'=>r = .bool (decide (x < 0)||decide (x≥n))∧w=w':=by
 obtain ⟨c0,c1,ba,c,c4,c5,h1⟩:=h;refine abX.calls rfl ?_;unfold JW;refine σ ?_;refine uR rfl (fun hg=>?_) (fun hg=>?_)
 ·simp only [go_sem,simprocAttr,hg];simp
 ·simp only [go_sem,simprocAttr,hg,cell_of hb,cell_of h1];simp
theorem adK (w:World) (a n old bx:Nat) (x:Int) (h:yS w a n old) (hb:w.heap[bx]? = some (.cells #[.pointer (some ⟨a,0,none⟩)] 169 (0,0))) :
   aK Tryz.prog 197 [I x,.pointer (some ⟨bx,0,none⟩)] w fun r w'=>r = .bool (decide (x≥old))∧w=w':=by
 obtain ⟨c0,c1,ba,c,c4,c5,h1⟩:=h;refine abW.calls rfl ?_;unfold JV;simp only [go_sem,simprocAttr,cell_of hb,cell_of h1]
theorem AO (w:World) (a n old:Nat) (l:Value) (xs:List Int) (h:yS w a n old) (U:Ints w l xs) :
   aK Tryz.prog 194 [.pointer (some ⟨a,0,none⟩),l] w fun r w'=>r = .bool (bJ n xs)∧Mod (fun _=>False) w w':=by
 have iH:=U;obtain ⟨va,vc,rfl,_,_⟩:=iH;refine abT.calls rfl ?_;unfold JS;refine σ ?_;refine cK rfl ?_;intro w1 ax ag cL;have ax:w1.heap[w.heap.size]? = some (.cells #[.pointer (some ⟨a,0,none⟩)] 169 (0,0)):=ax;have h1:=adI h ag (fun h=>h);refine σ ?_;refine δ (by rfl) (Ky _ xs w1 (U.mod ag (fun _ _ h=>h)) 198 Tryz.f198 #[.pointer (some ⟨w.heap.size,0,none⟩)] (fun x=>decide (x < 0)||decide (x≥n)) Tryz.func198 S3.1 S3.2 (fun x _=>adJ w1 a n old w.heap.size x h1 ax)) ?_;rintro q _ ⟨rfl,rfl⟩;refine σ ?_;refine ⟨?_,ag⟩
 congr 1
 unfold bJ;rw [Bool.eq_iff_iff];simp [List.any_eq_true,List.all_eq_true]
theorem adL (size bp:Int) (w:World) :
   aK Tryz.prog 107 [I size,I bp] w fun r w'=>(1≤size∧size≤1048576∧1≤bp∧bp≤size→∃ a F,r = .tuple #[.pointer (some ⟨a,0,none⟩),I 0]∧jm w' a size bp 0 0 [] F∧Mod (fun _=>False) w w'∧(∀ x,F x→w.heap.size≤x)) ∧
    (¬ (1≤size∧size≤1048576∧1≤bp∧bp≤size)→r = .tuple #[.pointer none,I 210]∧w=w'):=by
 refine abK.calls rfl ?_;unfold JJ;by_cases g:1≤size∧size≤1048576∧1≤bp∧bp≤size
 ·have e1:decide (size < 1)=false:=by simp;omega
  have e2:decide (size > 1048576)=false:=by simp;omega
  have e3:decide (bp < 1)=false:=by simp;omega
  have e4:decide (bp > size)=false:=by simp;omega
  simp only [go_sem,simprocAttr,e1,e2,e3,e4];refine Ap ?_;intro w1 ax ag cL;refine σ ?_;refine cK rfl ?_;intro w2 aC ae dq;have aC:w2.heap[w1.heap.size]? = some (.cells #[I size,I bp,.slice none 0 0,I 0,.map (some w.heap.size),I 0] 202 (0,0)):=aC;refine σ ?_;refine ⟨fun _=>⟨w1.heap.size,fun x=>x=w1.heap.size∨x=w.heap.size,rfl,⟨_,_,[],aC,.inl rfl,⟨none,[],_,ao.nil _ _ _,(fun b hb=>by cases hb),S1 _ _,rfl,fun b hb=>by omega⟩,dT ax ae (fun h=>h),.inr rfl,⟨by simp,fun k=>⟨fun h=>by simp at h,fun ⟨p,_,hp,_⟩=>absurd hp (by omega)⟩⟩⟩,ag.trans ae,fun x U=>by omega⟩,fun hh=>absurd g hh⟩
 ·refine (fun h=>h) ?_;by_cases a1:size < 1
  ·have e1:decide (size < 1)=true:=by simp;omega
   simp only [go_sem,simprocAttr,e1];exact ⟨fun hh=>absurd hh g,fun _=>trivial⟩
  have e1:decide (size < 1)=false:=by simp;omega
  by_cases a2:size > 1048576
  ·have e2:decide (size > 1048576)=true:=by simp;omega
   simp only [go_sem,simprocAttr,e1,e2];exact ⟨fun hh=>absurd hh g,fun _=>trivial⟩
  have e2:decide (size > 1048576)=false:=by simp;omega
  by_cases a3:bp < 1
  ·have e3:decide (bp < 1)=true:=by simp;omega
   simp only [go_sem,simprocAttr,e1,e2,e3];exact ⟨fun hh=>absurd hh g,fun _=>trivial⟩
  have e3:decide (bp < 1)=false:=by simp;omega
  have e4:decide (bp > size)=true:=by simp;omega
  simp only [go_sem,simprocAttr,e1,e2,e3,e4];exact ⟨fun hh=>absurd hh g,fun _=>trivial⟩
theorem adM (w:World) (a:Nat) (size bp:Int) (old:Nat) (times:Int) (ns:List Nd) (F:Nat→Prop) (h:jm w a size bp old times ns F):aK Tryz.prog 192 [.pointer (some ⟨a,0,none⟩)] w fun r w'=>r=I ns.length∧w=w':=by
 obtain ⟨c0,c1,ba,c,c4,c5,h1⟩:=xg h;refine abR.calls rfl ?_;unfold JQ;simp only [go_sem,simprocAttr,cell_of h1]
end
section
open Go Go.W
theorem tO {w:World} {T sz n b:Nat} {v:Value} {xs:List Value} {fp:Option Nat} (h:ao w T sz v xs n fp) (hb:fp=some b):∃ cs,w.heap[b]? = some (.cells cs T (0,0)):=by
 rcases h.2 with ⟨_,_,h⟩ | ⟨b',c,cg,_,h,hh,_⟩
 ·rw [h] at hb;cases hb
 ·rw [h] at hb;cases hb;exact ⟨_,hh⟩
theorem tP {w:World} {T sz n T' sz' n' b:Nat} {v v':Value} {xs xs':List Value} {fp gx:Option Nat} (h:ao w T sz v xs n fp) (h':ao w T' sz' v' xs' n' gx) (bj:T≠T') (hb:fp=some b):gx≠some b:=by
 obtain ⟨cs,hc⟩:=tO h hb;exact jA h' hc (fun e=>bj e.symm)
def nJ (size:Int) (ns:List Nd) (nd:Nd):Int×Int×List Nd:=
 if nd.may=false then (0,1,ns) else if bJ ns.length nd.args=false then (0,212,ns) else if (ns.length:Int)≥size then (0,211,ns) else (ns.length,0,ns++[nd])
theorem adN {ns:List Nd} {old:Nat} {ld:List (Int×Int)} (h:yR ns old ld) (ho:old≤ns.length) (nd:Nd):yR (ns++[nd]) old ld:=by
 refine ⟨h.1,fun k=>(h.2 k).trans ⟨fun ⟨p,h1,h2,h3⟩=>⟨p,h1,h2,?_⟩,fun ⟨p,h1,h2,h3⟩=>⟨p,h1,h2,?_⟩⟩⟩
 ·simpa [ak,List.getElem?_append_left (show p < ns.length by omega)] using h3
 ·simpa [ak,List.getElem?_append_left (show p < ns.length by omega)] using h3
theorem adO (w:World) (a:Nat) (size bp:Int) (old:Nat) (times:Int) (ns:List Nd) (nd:Nd) (v:Value) (F:Nat→Prop) (h:jm w a size bp old times ns F) (ho:old≤ns.length) (hn:ns.length≤1048576) (iH:Ints w v nd.args) :
   aK Tryz.prog 186 [.pointer (some ⟨a,0,none⟩),.agg #[I nd.kind,I nd.num,v]] w fun r w'=>r = .tuple #[I (nJ size ns nd).1,I (nJ size ns nd).2.1]∧∃ F',jm w' a size bp old times (nJ size ns nd).2.2 F'∧Grow F F' w w':=by
 have U:=iH;obtain ⟨va,vc,rfl,hl,_⟩:=iH;refine abM.calls rfl ?_;unfold JL;refine σ ?_;refine cK rfl ?_;intro w1 ax ag cL;have ax:w1.heap[w.heap.size]? = some (.cells #[I nd.kind,I nd.num,.slice va nd.args.length vc] 104 (0,0)):=ax;have h1:=kM h ag (fun _ _ h=>h);have fJ:=U.mod ag (fun _ _ h=>h);have hd:cH w1 3 (.pointer (some ⟨w.heap.size,0,none⟩))=some (.agg #[I nd.kind,I nd.num,.slice va nd.args.length vc]):=dM ax (off:=0) (n:=3) (by simp);have same:∀ w2,Mod (fun _=>False) w1 w2→∃ F',jm w2 a size bp old times ns F'∧Grow F F' w w2:=fun w2 ae=>
  ⟨F,kM h1 ae (fun _ _ h=>h),(ag.trans ae).az (fun _ h=>h.elim),fun b hb=>.inl hb⟩
 simp only [go_sem,simprocAttr,hd];refine δ (by rfl) (S0 nd.kind nd.num _ nd.args w1 fJ) ?_;rintro r w2 ⟨rfl,ae⟩;have aC:=ae.at ax (fun h=>h);refine σ ?_;refine aY rfl (fun hc=>?_) (fun hc=>?_)
 ·refine σ ?_;have bz:nd.may=false:=by simpa [Nd.may] using hc
  exact ⟨by simp [nJ,bz],by simpa [nJ,bz] using same w2 ae⟩
 have cY:nd.may=true:=by simpa [Nd.may] using hc
 have fZ:=fJ.mod ae (fun _ _ h=>h);have h2:=kM h1 ae (fun _ _ h=>h);simp only [go_sem,simprocAttr,cell_of aC];refine δ (by rfl) (AO w2 a ns.length old _ nd.args (xg h2) fZ) ?_;rintro r w3 ⟨rfl,ab⟩;have qC:=ae.trans ab;refine σ ?_;refine aY rfl (fun hc=>?_) (fun hc=>?_)
 ·refine σ ?_;have bz:bJ ns.length nd.args=false:=by simpa using hc
  exact ⟨by simp [nJ,bz,cY],by simpa [nJ,bz,cY] using same w3 qC⟩
 have cB:bJ ns.length nd.args=true:=by simpa using hc
 have h3:=kM h2 ab (fun _ _ h=>h);have S5:=h3;obtain ⟨cv,mb,ld,g1,g2,g3,g4,g5,g6⟩:=h3;obtain ⟨ca,cc,rfl⟩:=CP g3;simp only [go_sem,simprocAttr,cell_of g1];have FT:Mod (fun _=>False) w3 w3.drew:=⟨Nat.le_refl _,fun _ _ _=>rfl,rfl,rfl,rfl⟩;refine aY rfl (fun hc=>?_) (fun hc=>?_)
 ·refine σ ?_;have bz:(ns.length:Int)≥size:=by simpa using hc
  exact ⟨by simp [nJ,bz,cY,cB],by simpa [nJ,bz,cY,cB] using same w3.drew (qC.trans FT)⟩
 have ey:¬ (ns.length:Int)≥size:=by simpa using hc
 have aJ:=(ab.trans FT).at aC (fun h=>h);have wU:=fZ.mod (ab.trans FT) (fun _ _ h=>h);simp only [go_sem,simprocAttr,cell_of aJ,cell_of (ab.at aC (fun h=>h))];refine δ (by rfl) (AL _ nd.args w3.drew wU) ?_;rintro q w4 ⟨ai,f4,o4,n4⟩;have adP:=FT.trans ai;obtain ⟨rY,rZ,rfl,_,_⟩:=o4.val;have aH:=ai.at aJ (fun h=>h);refine σ ?_;refine bY (off:=2) rfl rfl aH rfl (by simp) ?_;intro w5 bZ aB fP;have bZ:w5.heap[w.heap.size]? = some (.cells #[I nd.kind,I nd.num,.slice rY nd.args.length rZ] 104 (0,0)):=bZ;have lw:=lt_of_heap ax;have s2:=ae.size;have s3:=ab.size;have s4:=ai.size;have eD:=AN h;have KA:∀ b,F b→¬ b=w.heap.size:=fun b hb hh=>by have:=eD b hb;omega
 have eI:Mod (fun x=>x=w.heap.size) w3 w5:=(adP.az (fun _ h=>h.elim)).step aB (fun x U _=>U);have ga:=eI.at g1 (KA a g2);have gc:=rX g3 eI KA;have gm:=dT g4 eI (KA mb g5);have o5:=o4.mod aB (fun b hb hh=>by have:=n4 b hb;have:w3.drew.heap.size=w3.heap.size:=rfl;omega);have hd5:cH w5.drew 3 (.pointer (some ⟨w.heap.size,0,none⟩))=some (.agg #[I nd.kind,I nd.num,.slice rY nd.args.length rZ]):=dM (w:=w5.drew) bZ (off:=0) (n:=3) (by simp);simp only [go_sem,simprocAttr,cell_of ga,hd5];have jn:Mod (fun _=>False) w5 w5.drew:=⟨Nat.le_refl _,fun _ _ _=>rfl,rfl,rfl,rfl⟩;refine cd (by rfl) (by refine σ ?_;rfl) ?_;intro w6 cN aD mK;have vi:=jn.trans aD;have xh:Mod (fun x=>x=w.heap.size) w3 w6:=eI.step vi (fun _ h _=>h.elim);have S6:=vi.at ga (fun h=>h);refine σ ?_;refine ⟨aD.old _ (lt_of_heap ga) (fun h=>h),?_⟩;have o6:=o5.mod vi (fun _ _ h=>h);obtain ⟨dY,ps,fp,c1,c2,c3,c4,c5⟩:=gc;have AP:=c1.mod vi (fun _ _ h=>h);have S7:=jC c3 vi (fun _ _ _ _ h=>h);have jw:ps.length=ns.length:=by rw [← c4];simp
 refine eH (m:=1) (news:=nc (nd,.slice rY nd.args.length rZ)) rfl AP rfl (fun h=>by cases h) (j9 cN) (by simp [nc,Value.oneCell']) rfl (by omega) (by omega) ?_;intro v7 w7 KB qE aX sb;have bj:dY≠some a:=jA AP S6 (by decide);have CQ:=aX.at S6 bj;obtain ⟨AQ,AR,rfl,_⟩:=qE.val;have S8:=jC S7 aX (fun i b hi hb hh=>tP (S7.1 i hi).1 AP (by decide) hb hh);have o7:=o6.mod aX (fun b hb hh=>tP o6 AP (by decide) hb hh);refine σ ?_;refine bY (off:=2) rfl rfl CQ rfl (by simp) ?_;intro w8 eB ch xf;have eB:w8.heap[a]? = some (.cells #[I size,I bp,.slice AQ (ns.length+1) AR,I old,.map (some mb),I times] 202 (0,0)):=eB;have hw:IntKind.i64.wrap (((ns.length+1:Nat):Int) - 1)=ns.length:=by rw [cy]<;>omega
 simp only [go_sem,simprocAttr,cell_of eB,hw];have hn7:KB≠some a:=jA qE CQ (by decide);have c38:=jC S8 ch (fun i b hi hb hh=>jA (S8.1 i hi).1 CQ (by decide) (by rw [hb,hh]));have o8:=o7.mod ch (fun b hb hh=>jA o7 CQ (by decide) (by rw [hb,hh]));have s5:w5.heap.size=w4.heap.size:=fP;have s6:=vi.size;have s7:=aX.size;have s8:=ch.size;have S9:=dT gm vi (fun h=>h)
 have Tb:=dT S9 aX (fun hh=>by
  obtain ⟨es,c,q2,_⟩:=S9;obtain ⟨cs,q3⟩:=tO AP hh
  rw [q2] at q3;cases q3)
 have gm8:=dT Tb ch (fun hh=>by
  obtain ⟨es,c,q2,_⟩:=Tb
  rw [hh] at q2;rw [CQ] at q2;cases q2)
 have df:Mod F w w8:=((((((ag.az (fun _ h=>h.elim)).step ae (fun _ h _=>h.elim)).step ab (fun _ h _=>h.elim)).step eI (fun x U ah=>by omega)).step vi (fun _ h _=>h.elim)).step aX (fun i h _=>c2 i h)).step ch (fun i h _=>h ▸ g2);have Cx:nJ size ns nd=((ns.length:Int),0,ns++[nd]):=by
  unfold nJ;rw [if_neg (by simp [cY]),if_neg (by simp [cB]),if_neg ey]
 have w30:w3.drew.heap.size=w3.heap.size:=rfl;refine ⟨by rw [Cx],fun b=>F b∨f4=some b∨KB=some b,?_,df,?_⟩
 ·rw [Cx];refine ⟨_,mb,ld,eB,.inl g2,⟨KB,ps++[(nd,.slice rY nd.args.length rZ)],_,?_,fun b hb=>.inr (.inr hb),S2 (Kz c38 (fun b hb=>.inl hb)) o8 (fun b hb=>.inr (.inl hb)) ?_,by simp [c4],?_⟩,gm8,.inl g5,adN g6 ho nd⟩
  ·rw [wS,FB]
   simpa using qE.mod ch (fun b hb hh=>hn7 (by rw [hb,hh]))
  ·intro i b hi hb hh;have:=eD b ((c3.1 i hi).2 b hb);have:=n4 b hh;omega
  ·intro b hb;rcases hb with hb | hb | hb
   ·have:=eD b hb;omega
   ·have:=o8.lt hb;omega
   ·have:=qE.lt hb;omega
 ·intro b hb;rcases hb with hb | hb | hb
  ·exact .inl hb
  ·have:=n4 b hb;exact .inr (by omega)
  ·rcases sb b hb with h | h
   ·exact .inl (c2 b h)
   ·exact .inr (by omega)
end
section
open Go Go.W
def CR (ns:List Nd) (at':Int):Nd×Int:=if 0≤at'∧at' < ns.length then (ak ns at'.toNat,0) else ({ kind:=0,num:=0,args:=[]},212)
def adQ (w:World) (s:Nd×Int) (r:Value) (w':World):Prop:=
 Mod (fun _=>False) w w'∧∃ v fp,r = .tuple #[.agg #[I s.1.kind,I s.1.num,v],I s.2]∧ao w' 3 1 v (s.1.args.map I) s.1.args.length fp∧∀ b,fp=some b→w.heap.size≤b
theorem Te {w:World} {bc i:Nat} {k n:Int} {v:Value} (h0:w.cell? ⟨bc,i,none⟩=some (I k)) (h1:w.cell? ⟨bc,i+1,none⟩=some (I n)) (h2:w.cell? ⟨bc,i+2,none⟩=some v):cH w 3 (.pointer (some ⟨bc,i,none⟩))=some (.agg #[I k,I n,v]):=by
 simp [cH,jv,dB,h0,h1,h2]
theorem adR (w:World) (a:Nat) (size bp:Int) (old:Nat) (times:Int) (ns:List Nd) (at':Int) (F:Nat→Prop) (h:jm w a size bp old times ns F) (dL:∀ nd∈ns,nd.args.length≤8) :
   aK Tryz.prog 189 [.pointer (some ⟨a,0,none⟩),I at'] w (adQ w (CR ns at')):=by
 refine abO.calls rfl ?_;unfold JN;refine σ ?_;refine dk ?_;intro w1 ax ag cL;have ax:w1.heap[w.heap.size]? = some (.cells #[I 0,I 0,.slice none 0 0] 104 (0,0)):=ax;refine σ ?_;refine cd (by rfl) (by refine σ ?_;rfl) ?_;intro w2 aC ae dq;have dG:=ag.trans ae;have h2:=kM h dG (fun _ _ h=>h);have U:Ints w2 (.slice (some ⟨w1.heap.size,0,none⟩) 1 1) [at']:=FD (xs:=[at']) aC (by simp);refine σ ?_;refine δ (by rfl) (AO w2 a ns.length old _ [at'] (xg h2) U) ?_;rintro r w3 ⟨rfl,ab⟩;rw [Cy];have dZ:=dG.trans ab;have aJ:=(ae.trans ab).at ax (fun h=>h);have h3:=kM h2 ab (fun _ _ h=>h);refine σ ?_;refine aY rfl (fun hc=>?_) (fun hc=>?_)
 ·have bz:¬ (0≤at'∧at' < ns.length):=by simp at hc;omega
  refine σ ?_;refine cX rfl rfl aJ rfl rfl (by simp [Value.oneCell']) ?_;intro w4 aH ai eu;simp only [go_sem,simprocAttr,dM aH (off:=0) (n:=3) (by simp)];have e:CR ns at'=({ kind:=0,num:=0,args:=[]},212):=if_neg bz;rw [e];exact ⟨dZ.step ai (fun i hi ah=>by omega),_,none,rfl,ao.nil _ _ _,fun b hb=>by cases hb⟩
 ·have bz:0≤at'∧at' < ns.length:=by simpa using hc
  obtain ⟨i,rfl⟩:∃ i:Nat,at'=i:=⟨at'.toNat,by omega⟩;have hi:i < ns.length:=by omega
  have e:CR ns i=(ak ns i,0):=if_pos bz;rw [e];obtain ⟨cv,mb,ld,g1,g2,g3,g4,g5,g6⟩:=h3;obtain ⟨bc,cc,v,rfl,k0,k1,k2,kx,kb,_⟩:=yJ (AM g3) dL hi;have kl:=Te k0 k1 k2;obtain ⟨xa,xc,rfl,rW,_⟩:=id kx;simp only [go_sem,simprocAttr,an,bq,cell_of g1,bz,kl];refine dk ?_;intro w4 aH ai eu;have aH:w4.heap[w3.heap.size]? = some (.cells #[I 0,I 0,.slice none 0 0] 104 (0,0)):=aH;refine σ ?_;refine cX rfl rfl aH rfl rfl (by simp [Value.oneCell']) ?_;intro w5 bZ aB fP;have eI:Mod (fun _=>False) w3 w5:=ai.step aB (fun i hi ah=>by omega);have FO:=kx.mod eI (fun _ _ h=>h);simp only [go_sem,simprocAttr,cell_of bZ];refine δ (by rfl) (AL _ _ w5 FO) ?_;rintro q w6 ⟨aD,f6,o6,n6⟩;obtain ⟨xi,xj,rfl,_,_⟩:=o6.val;have cN:=aD.at bZ (fun h=>h);refine σ ?_;refine bY (off:=2) rfl rfl cN rfl (by simp) ?_;intro w7 cm aX mN;have cm:w7.heap[w3.heap.size]? = some (.cells #[I (ak ns i).kind,I (ak ns i).num,.slice xi (ak ns i).args.length xj] 104 (0,0)):=cm;have s3:=dZ.size;have s5:=eI.size;have s6:=aD.size;have lI:Mod (fun _=>False) w3 w7:=(eI.trans aD).step aX (fun x U ah=>by omega);have eB:=lI.at aJ (fun h=>h);have l1:=lt_of_heap aJ;simp only [go_sem,simprocAttr,dM cm (off:=0) (n:=3) (by simp)];refine cX rfl rfl eB rfl rfl (by simp [Value.oneCell']) ?_;intro w8 lH ch xf;simp only [go_sem,simprocAttr,dM lH (off:=0) (n:=3) (by simp)];have l4:=lt_of_heap aH;exact ⟨(dZ.trans lI).step ch (fun x U ah=>by omega),_,f6,rfl,(o6.mod aX (fun b hb hh=>by have:=n6 b hb;omega)).mod ch (fun b hb hh=>by have:=n6 b hb;omega),fun b hb=>by have:=n6 b hb;omega⟩
def qF (ns:List Nd) (at':Int) (nd:Nd):Int×List Nd:=
 if ¬ (0≤at'∧at' < ns.length) then (212,ns) else if nd.may=false then (1,ns) else if bJ ns.length nd.args=false then (212,ns) else (0,ns.set at'.toNat nd)
theorem adS {l:List (Int×Int)} (hn:(l.map (fun q=>q.1)).Nodup) (k:Int):((Ao l k).map (fun q=>q.1)).Nodup∧∀ x,x∈(Ao l k).map (fun q=>q.1)↔x∈l.map (fun q=>q.1)∧x≠k:=by
 unfold Ao;cases hI:l.findIdx? (fun p=>p.1 == k) with
 | none=>
  refine ⟨hn,fun x=>⟨fun U=>⟨U,fun he=>?_⟩,fun U=>U.1⟩⟩;rw [List.findIdx?_eq_none_iff] at hI;obtain ⟨q,hq,rfl⟩:=List.mem_map.1 U;have:=hI q hq;simp [he] at this
 | some i=>
  have h1:=List.findIdx?_eq_some_iff_getElem.1 hI;have hi:=h1.1;have hk:l[i].1=k:=by simpa using h1.2.1
  have e:(l.eraseIdx i).map (fun q=>q.1)=(l.map (fun q=>q.1)).eraseIdx i:=Go.ChangeMaps.map_eraseIdx _ _ _;rw [e];refine ⟨hn.sublist (List.eraseIdx_sublist _ _),fun x=>?_⟩;generalize hL:l.map (fun q=>q.1)=L at hn;have Tf:i < L.length:=by rw [← hL];simpa using hi
  have CS:L[i]=k:=by simp [← hL,hk]
  clear e hI h1 hk hL
  induction L generalizing i with
  | nil=>simp at Tf
  | cons y L ih=>
   rw [List.nodup_cons] at hn;cases i with
   | zero=>
    simp only [List.getElem_cons_zero] at CS;subst CS;simp only [List.eraseIdx_cons_zero,List.mem_cons];exact ⟨fun U=>⟨.inr U,fun he=>hn.1 (he ▸ U)⟩,fun ⟨U,bj⟩=>U.resolve_left bj⟩
   | succ i=>
    simp only [List.getElem_cons_succ] at CS;have jF:i < L.length:=by simpa using Tf
    have:=ih i (by omega) hn.2 jF CS;simp only [List.eraseIdx_cons_succ,List.mem_cons,this];refine ⟨fun U=>?_,fun ⟨U,bj⟩=>U.imp (fun h=>h) (fun h=>⟨h,bj⟩)⟩;rcases U with rfl | ⟨U,bj⟩
    ·exact ⟨.inl rfl,fun he=>hn.1 (by rw [he,← CS];exact List.getElem_mem _)⟩
    ·exact ⟨.inr U,bj⟩
theorem Th {l:List (Int×Int)} (hn:(l.map (fun q=>q.1)).Nodup) (k v:Int):((rJ l k v).map (fun q=>q.1)).Nodup∧∀ x,x∈(rJ l k v).map (fun q=>q.1)↔x∈l.map (fun q=>q.1)∨x=k:=by
 unfold rJ;cases hI:l.findIdx? (fun p=>p.1 == k) with
 | none=>
  rw [List.findIdx?_eq_none_iff] at hI;have gS:k∉l.map (fun q=>q.1):=by
   intro hk;obtain ⟨q,hq,he⟩:=List.mem_map.1 hk;have:=hI q hq;simp [he] at this
  refine ⟨?_,fun x=>by simp⟩;simp only [List.map_append,List.map_cons,List.map_nil];rw [List.nodup_append];exact ⟨hn,by simp,fun a ha b hb gT=>by simp at hb;exact gS (hb ▸ gT ▸ ha)⟩
 | some i=>
  have h1:=List.findIdx?_eq_some_iff_getElem.1 hI;have hk:l[i]'h1.1=(k,(l[i]'h1.1).2):=by
   have:(l[i]'h1.1).1=k:=by simpa using h1.2.1
   rw [← this]
  have e:(l.set i (k,v)).map (fun q=>q.1)=l.map (fun q=>q.1):=by
   rw [List.map_set];have h2:(l.map (fun q=>q.1))[i]'(by simpa using h1.1)=k:=by simp;simpa using h1.2.1
   have h3:=List.set_getElem_self (show i < (l.map (fun q=>q.1)).length by simpa using h1.1);rw [h2] at h3;exact h3
  rw [e];refine ⟨hn,fun x=>⟨.inl,fun U=>U.elim (fun h=>h) (fun h=>?_)⟩⟩;rw [h];exact List.mem_map.2 ⟨_,List.getElem_mem h1.1,by simpa using h1.2.1⟩
theorem xk {ns:List Nd} {i:Nat} {nd:Nd} (hi:i < ns.length) (p:Nat):ak (ns.set i nd) p=if p=i then nd else ak ns p:=by
 unfold ak;rw [List.getD_eq_getElem?_getD,List.getElem?_set];by_cases h:i=p
 ·subst h;simp [hi]
 ·rw [if_neg h,if_neg (fun hh=>h hh.symm),List.getD_eq_getElem?_getD]
theorem adT (w:World) (a:Nat) (size bp:Int) (old:Nat) (times:Int) (ns:List Nd) (at':Int) (nd:Nd) (v:Value) (F:Nat→Prop) (h:jm w a size bp old times ns F) (ho:old≤ns.length) (hn:ns.length≤1048576) (dL:∀ nd∈ns,nd.args.length≤8) (iH:Ints w v nd.args) :
   aK Tryz.prog 191 [.pointer (some ⟨a,0,none⟩),I at',.agg #[I nd.kind,I nd.num,v]] w fun r w'=>r=I (qF ns at' nd).1∧∃ F',jm w' a size bp old times (qF ns at' nd).2 F'∧Grow F F' w w':=by
 have U:=iH;obtain ⟨va,vc,rfl,hl,_⟩:=iH;refine abQ.calls rfl ?_;unfold JP;refine σ ?_;refine cK rfl ?_;intro w1 ax ag cL;have ax:w1.heap[w.heap.size]? = some (.cells #[.pointer (some ⟨a,0,none⟩)] 169 (0,0)):=ax;refine σ ?_;refine cK rfl ?_;intro w2 aC ae dq;have aC:w2.heap[w1.heap.size]? = some (.cells #[I nd.kind,I nd.num,.slice va nd.args.length vc] 104 (0,0)):=aC;have dC:=ae.at ax (fun h=>h);simp only [go_sem,simprocAttr,cell_of dC];refine cd (by rfl) (by refine σ ?_;rfl) ?_;intro w3 aJ ab eP;have dZ:=(ag.trans ae).trans ab;have h3:=kM h dZ (fun _ _ h=>h);have wU:Ints w3 (.slice (some ⟨w2.heap.size,0,none⟩) 1 1) [at']:=FD (xs:=[at']) aJ (by simp);have aoU:=U.mod dZ (fun _ _ h=>h);refine σ ?_;refine δ (by rfl) (AO w3 a ns.length old _ [at'] (xg h3) wU) ?_;rintro r w4 ⟨rfl,ai⟩;rw [Cy];have iY:=dZ.trans ai;have same:∀ w5,Mod (fun _=>False) w4 w5→∃ F',jm w5 a size bp old times ns F'∧Grow F F' w w5:=fun w5 aB=>
  ⟨F,kM h (iY.trans aB) (fun _ _ h=>h),(iY.trans aB).az (fun _ h=>h.elim),fun b hb=>.inl hb⟩
 refine σ ?_;refine aY rfl (fun hc=>?_) (fun hc=>?_)
 ·have bz:¬ (0≤at'∧at' < ns.length):=by simp at hc;omega
  refine σ ?_;have e:qF ns at' nd=(212,ns):=by unfold qF;rw [if_pos bz]
  rw [e];exact ⟨rfl,same w4 (Mod.refl _ _)⟩
 have bz:0≤at'∧at' < ns.length:=by simpa using hc
 obtain ⟨i,rfl⟩:∃ i:Nat,at'=i:=⟨at'.toNat,by omega⟩;have hi:i < ns.length:=by omega
 have lJ:=(ab.trans ai).at dC (fun h=>h);have vj:=(ab.trans ai).at aC (fun h=>h);have hd4:cH w4 3 (.pointer (some ⟨w1.heap.size,0,none⟩))=some (.agg #[I nd.kind,I nd.num,.slice va nd.args.length vc]):=dM vj (off:=0) (n:=3) (by simp);simp only [go_sem,simprocAttr,hd4];refine δ (by rfl) (S0 nd.kind nd.num _ nd.args w4 (U.mod iY (fun _ _ h=>h))) ?_;rintro r w5 ⟨rfl,aB⟩;have gX:=iY.trans aB;have l0:=aB.at lJ (fun h=>h);have xl:=aB.at vj (fun h=>h);refine σ ?_;refine aY rfl (fun hm=>?_) (fun hm=>?_)
 ·refine σ ?_;have iB:nd.may=false:=by simpa [Nd.may] using hm
  have e:qF ns i nd=(1,ns):=by unfold qF;rw [if_neg (by simpa using bz),if_pos iB]
  rw [e];exact ⟨rfl,same w5 aB⟩
 have oI:nd.may=true:=by simpa [Nd.may] using hm
 have h5:=kM h gX (fun _ _ h=>h);simp only [go_sem,simprocAttr,cell_of l0,cell_of xl];refine δ (by rfl) (AO w5 a ns.length old _ nd.args (xg h5) (U.mod gX (fun _ _ h=>h))) ?_;rintro r w6 ⟨rfl,aD⟩;have oL:=gX.trans aD;have yT:=aD.at l0 (fun h=>h);have vn:=aD.at xl (fun h=>h);refine σ ?_;refine aY rfl (fun dR=>?_) (fun dR=>?_)
 ·refine σ ?_;have nx:bJ ns.length nd.args=false:=by simpa using dR
  have e:qF ns i nd=(212,ns):=by unfold qF;rw [if_neg (by simpa using bz),if_neg (by simp [oI]),if_pos nx]
  rw [e];exact ⟨rfl,same w6 (aB.trans aD)⟩
 have jx:bJ ns.length nd.args=true:=by simpa using dR
 have e:qF ns i nd=(0,ns.set i nd):=by unfold qF;rw [if_neg (by simpa using bz),if_neg (by simp [oI]),if_neg (by simp [jx])];simp
 rw [e];simp only [go_sem,simprocAttr,cell_of vn];refine δ (by rfl) (AL _ nd.args w6 (U.mod oL (fun _ _ h=>h))) ?_;rintro q w7 ⟨aX,f7,o7,n7⟩;obtain ⟨AQ,AR,rfl,_,_⟩:=o7.val;have AS:=aX.at vn (fun h=>h);have vo:=aX.at yT (fun h=>h);have CT:=oL.trans aX;refine σ ?_;refine bY (off:=2) rfl rfl AS rfl (by simp) ?_;intro w8 eB ch xf;have eB:w8.heap[w1.heap.size]? = some (.cells #[I nd.kind,I nd.num,.slice AQ nd.args.length AR] 104 (0,0)):=eB;have Ti:=ch.at vo (by have:=lt_of_heap ax;omega);have s1:=ag.size;have s2:=ae.size;have s17:=CT.size;have eD:=AN h;have KC:Mod (fun _=>False) w w8:=CT.step ch (fun x U ah=>by omega);have h8:=kM h KC (fun _ _ h=>h);have s6:=oL.size;have s3:=dZ.size;have s4:=ai.size;have s5:=aB.size;have s66:=aD.size;have l2:=lt_of_heap aC;have o8:=o7.mod ch (fun b hb hh=>by have:=n7 b hb;omega);have aoV:=xg h8;obtain ⟨cv,mb,ld,g1,g2,g3,g4,g5,g6⟩:=h8;obtain ⟨dY,ps,fp,c1,c2,c3,c4,c5⟩:=g3;have jw:ps.length=ns.length:=by rw [← c4];simp
 obtain ⟨bc,cc,uY,rfl,rfl,gc,fH,lY⟩:=c1.pos (by omega);have bO:i < ps.length:=by omega
 have FE:=mJ ps;have yl:cH w8.drew 3 (.pointer (some ⟨w1.heap.size,0,none⟩))=some (.agg #[I nd.kind,I nd.num,.slice AQ nd.args.length AR]):=dM (w:=w8.drew) eB (off:=0) (n:=3) (by simp);have jn:Mod (fun _=>False) w8 w8.drew:=⟨Nat.le_refl _,fun _ _ _=>rfl,rfl,rfl,rfl⟩;have gcd:=jn.at gc (fun h=>h);simp only [go_sem,simprocAttr,an,bq,cell_of Ti,cell_of g1,yl,bz];refine Jr rfl rfl gcd rfl (by simp;omega) (by simp [Value.oneCell']) ?_;intro w9 lH dO CO;have bj:a≠bc:=fun hh=>mH g1 (hh ▸ gc) (by decide)
 have ii:=RO ps i (nd,.slice AQ nd.args.length AR) bO uY;have xm:Mod (fun x=>x=bc) w8 w9:=(jn.az (fun _ h=>h.elim)).step dO (fun x U _=>U);have KD:F bc:=c2 bc rfl;have KE:=xm.at Ti (fun hh=>by have:=eD bc KD;omega);have adU:=xm.at eB (fun hh=>by have:=eD bc KD;omega);have CU:=xm.at g1 bj;have o9:=o8.mod xm (fun b hb hh=>jA o8 gc (by decide) (by rw [hb,hh]))
 have FU:=dT g4 xm (fun hh=>by
  obtain ⟨es,c,q2,_⟩:=g4
  rw [hh,gc] at q2;cases q2)
 have d9:kL 104 w9 (.slice (some ⟨bc,0,none⟩) ns.length cc) (ns.set i nd) (fun b=>F b∨f7=some b):=by
  refine ⟨some bc,ps.set i (nd,.slice AQ nd.args.length AR),_,?_,(fun b hb=>.inl (c2 b hb)),adG (Kz (jC c3 xm (fun j b hj hb hh=>jA (c3.1 j hj).1 gc (by decide) (by rw [hb,hh]))) (fun b hb=>.inl hb)) o9 (fun b hb=>.inr hb) (fun j b hj oE hb hh=>?_),by rw [List.map_set,c4],fun b hb=>?_⟩
  ·refine ⟨by rw [mJ];simp;omega,.inr ⟨bc,cc,uY,by simp,rfl,?_,?_,by simpa using fH⟩⟩
   ·rw [← ii];exact lH
   ·rw [List.length_append,mJ,List.length_set,← mJ,← List.length_append];exact lY
  ·have:=eD b ((c3.1 j hj).2 b hb);have:=n7 b hh;omega
  ·have:=KC.size;have:=xm.size;rcases hb with hb | hb
   ·have:=eD b hb;omega
   ·exact o9.lt hb
 have KF:∀ b,(F b∨f7=some b)→F b∨w.heap.size≤b:=fun b hb=>hb.imp (fun h=>h) (fun h=>by have:=n7 b h;omega)
 have uT:Mod F w w9:=(KC.az (fun _ h=>h.elim)).step xm (fun x U _=>U ▸ KD);simp only [go_sem,simprocAttr,cell_of KE,cell_of CU];refine aY rfl (fun ah=>?_) (fun ah=>?_)
 ·have nH:i < old:=by simpa using ah
  simp only [go_sem,simprocAttr,cell_of KE,cell_of CU];refine abm (t:=200) (kt:=3) (et:=3) rfl rfl rfl Tryz.underlying200 Tryz.underlying3 FU ?_;intro eX KG dU KH;have ko:a≠mb:=fun hh=>by
   obtain ⟨es,c,q2,_⟩:=FU;rw [← hh,CU] at q2;cases q2
  have FV:=dU.at CU ko;have Tj:=dU.at KE (fun hh=>by have:=eD mb g5;omega);have adV:=dU.at adU (fun hh=>by have:=eD mb g5;omega);have KJ:∀ b cs T,w9.heap[b]? = some (.cells cs T (0,0))→b≠mb:=fun b cs T hb hh=>by
   obtain ⟨es,c,q2,_⟩:=FU;rw [← hh,hb] at q2;cases q2
  have d10:kL 104 eX (.slice (some ⟨bc,0,none⟩) ns.length cc) (ns.set i nd) (fun b=>F b∨f7=some b):=by
   obtain ⟨dY,ps,fp,q1,q2,q3,q4,q5⟩:=d9;refine ⟨dY,ps,fp,q1.mod dU (fun b hb=>?_),q2,jC q3 dU (fun j b hj hb=>?_),q4,fun b hb=>by rw [KH];exact q5 b hb⟩
   ·obtain ⟨cs,q6⟩:=tO q1 hb;exact KJ b cs _ q6
   ·obtain ⟨cs,q6⟩:=tO (q3.1 j hj).1 hb;exact KJ b cs _ q6
  have o10:=o9.mod dU (fun b hb=>by obtain ⟨cs,q6⟩:=tO o9 hb;exact KJ b cs _ q6);have adW:nd.args.length≤17592186044416:=hl;have adX:=(o10.ints adW).1;obtain ⟨k1,k2⟩:=adS g6.1 (i:Int);have Tk:Mod F w eX:=uT.step dU (fun x U _=>U ▸ g5);simp only [go_sem,simprocAttr,cell_of adV];refine aq (by rfl) ?_;have adY:yS eX a ns.length old:=⟨_,_,_,_,_,_,FV⟩;refine (Ky _ nd.args eX adX 197 Tryz.f197 #[.pointer (some ⟨w.heap.size,0,none⟩)] (fun x=>decide (x≥old)) Tryz.func197 S4.1 S4.2 (fun x _=>adK eX a ns.length old w.heap.size x adY Tj)).mono ?_;rintro q _ ⟨rfl,rfl⟩;refine σ ?_;have Tl:(nd.args.any (fun x=>decide (x≥(old:Int)))=true)↔∃ x∈nd.args,(old:Int)≤x:=by simp [List.any_eq_true]
  refine aY rfl (fun hq=>?_) (fun hq=>?_)
  ·simp only [go_sem,simprocAttr,cell_of Tj,cell_of FV];refine Fq (t:=200) (kt:=3) (et:=3) rfl rfl rfl Tryz.underlying200 Tryz.underlying3 KG ?_;intro jU adZ iq CV;refine σ ?_;have Tm:∀ b cs T,eX.heap[b]? = some (.cells cs T (0,0))→b≠mb:=fun b cs T hb hh=>by
    obtain ⟨es,c,q2,_⟩:=KG;rw [← hh,hb] at q2;cases q2
   obtain ⟨k3,k4⟩:=Th k1 (i:Int) 1;refine ⟨fun b=>F b∨f7=some b,⟨_,mb,_,iq.at FV ko,.inl g2,?_,adZ,.inl g5,k3,fun k=>?_⟩,Tk.step iq (fun x U _=>U ▸ g5),KF⟩
   ·obtain ⟨dY,ps,fp,q1,q2,q3,q4,q5⟩:=d10;refine ⟨dY,ps,fp,q1.mod iq (fun b hb=>?_),q2,jC q3 iq (fun j b hj hb=>?_),q4,fun b hb=>by rw [CV];exact q5 b hb⟩
    ·obtain ⟨cs,q6⟩:=tO q1 hb;exact Tm b cs _ q6
    ·obtain ⟨cs,q6⟩:=tO (q3.1 j hj).1 hb;exact Tm b cs _ q6
   ·rw [k4,k2,g6.2];constructor
    ·rintro (⟨⟨p,rfl,hp,iU⟩,CW⟩ | rfl)
     ·exact ⟨p,rfl,hp,by rw [xk hi,if_neg (fun hh=>CW (by rw [hh]))];exact iU⟩
     ·exact ⟨i,rfl,nH,by rw [xk hi,if_pos rfl];exact Tl.1 hq⟩
    ·rintro ⟨p,rfl,hp,iU⟩;by_cases se:p=i
     ·exact .inr (by rw [se])
     ·rw [xk hi,if_neg se] at iU;exact .inl ⟨⟨p,rfl,hp,iU⟩,by omega⟩
  ·refine σ ?_;refine ⟨fun b=>F b∨f7=some b,⟨_,mb,_,FV,.inl g2,d10,KG,.inl g5,k1,fun k=>?_⟩,Tk,KF⟩;rw [k2,g6.2];constructor
   ·rintro ⟨⟨p,rfl,hp,iU⟩,CW⟩;exact ⟨p,rfl,hp,by rw [xk hi,if_neg (fun hh=>CW (by rw [hh]))];exact iU⟩
   ·rintro ⟨p,rfl,hp,iU⟩;by_cases se:p=i
    ·rw [se,xk hi,if_pos rfl] at iU;rw [Tl.2 iU] at hq;cases hq
    ·rw [xk hi,if_neg se] at iU;exact ⟨⟨p,rfl,hp,iU⟩,by omega⟩
 ·have nH:¬ i < old:=by simpa using ah
  refine σ ?_;refine ⟨fun b=>F b∨f7=some b,⟨_,mb,ld,CU,.inl g2,d9,FU,.inl g5,g6.1,fun k=>?_⟩,uT,KF⟩;rw [g6.2];constructor
  ·rintro ⟨p,rfl,hp,iU⟩;exact ⟨p,rfl,hp,by rw [xk hi,if_neg (by omega)];exact iU⟩
  ·rintro ⟨p,rfl,hp,iU⟩;rw [xk hi,if_neg (by omega)] at iU;exact ⟨p,rfl,hp,iU⟩
end
section
open Go Go.W
def FW (m:Int) (xs:List Int):Prop:=m∈xs∧∀ y∈xs,m≤y
theorem ad0 (v:Value) (xs:List Int) (w:World) (U:Ints w v xs) (bj:xs≠[]):aK Tryz.prog 213 [v] w fun r w'=>(∃ m,r=I m∧FW m xs)∧w=w':=by
 have iH:=U;obtain ⟨a,c,rfl,hl,mL⟩:=U;have gv:0 < xs.length:=by cases xs with | nil=>exact absurd rfl bj | cons y l=>simp
 refine ab4.calls rfl ?_;unfold J3;obtain ⟨ad,rfl,h0⟩:=mL 0 gv;rw [add_zero'] at h0;have e1:decide ((xs.length:Int) < 1)=false:=by simp;omega
 have c1:(0:Int)≤0∧(0:Int) < xs.length:=by omega
 simp only [go_sem,simprocAttr,an,bq,e1,c1,h0];refine dA (fun m ρ w'=>∃ (k:Nat) (q:Int),m=xs.length - k∧1≤k∧k≤xs.length∧w=w'∧FW q (xs.take k)∧ρ=[(0,.slice (some ad) xs.length c),(3,I q),(4,I k)]) (xs.length - 1)
  ⟨1,xs[0],rfl,Nat.le_refl _,gv,rfl,?_,rfl⟩ ?_
 ·have e:xs.take 1=[xs[0]]:=by rw [List.take_succ_eq_append_getElem gv];simp
  rw [e];exact ⟨by simp,fun y hy=>by simp at hy;omega⟩
 rintro m ρ _ ⟨k,q,rfl,eQ,hk,rfl,hq,rfl⟩;unfold RE;refine σ ?_;refine aY rfl (fun h=>?_) (fun h=>?_)
 ·have ah:k < xs.length:=by simpa using h
  obtain ⟨nE,he,hc⟩:=mL k ah;cases he;have c2:(0:Int)≤k∧(k:Int) < xs.length:=by omega
  have hw:IntKind.i64.wrap ((k:Int)+1)=((k+1:Nat):Int):=by rw [cy]<;>omega
  simp only [go_sem,simprocAttr,an,bq,c2,hc,hw];refine ⟨_,?_,k+1,_,rfl,by omega,ah,?_,rfl⟩
  ·omega
  ·rw [List.take_succ_eq_append_getElem ah];obtain ⟨q1,q2⟩:=hq;by_cases Tn:xs[k] < q
   ·rw [if_pos Tn];refine ⟨List.mem_append_right _ (by simp),fun y hy=>?_⟩;rcases List.mem_append.1 hy with hy | hy
    ·have:=q2 y hy;omega
    ·simp at hy;omega
   ·rw [if_neg Tn];refine ⟨List.mem_append_left _ q1,fun y hy=>?_⟩;rcases List.mem_append.1 hy with hy | hy
    ·exact q2 y hy
    ·simp at hy;omega
 ·have dX:k=xs.length:=by simp at h;omega
  subst dX;rw [List.take_length] at hq;refine σ ?_;exact ⟨_,rfl,hq⟩
theorem ad1 (pv v:Value) (xs:List Int) (w:World) (U:Ints w v xs) (bj:xs≠[]):aK Tryz.prog 209 [pv,v] w fun r w'=>(∃ m,r=I m∧FW m xs)∧w=w':=by
 refine ab3.calls rfl ?_;unfold J2;refine σ ?_;refine δ (by rfl) (ad0 v xs w U bj) ?_;rintro q _ ⟨⟨m,rfl,hm⟩,rfl⟩;refine σ ?_;exact ⟨_,rfl,hm⟩
structure qG (ns:List Nd) (l:List Int) (R:List (Int×Int)):Prop where
 len:l.length=ns.length
 val:∀ i,i < ns.length→l.getD i 0 = -1∨l.getD i 0=over ns i
 nd:(R.map (fun q=>q.1)).Nodup
 ring:∀ k:Int,k∈R.map (fun q=>q.1)↔∃ i,i < ns.length∧k=over ns i∧l.getD i 0 ≠ -1∧ind ns (over ns i)=true
theorem To {ns:List Nd} (hw:WF ns) {l:List Int} {R:List (Int×Int)} (h:qG ns l R) {q p:Nat} (hq:q < ns.length) (hp:p < ns.length) (he:over ns q=over ns p) (hk:l.getD p 0 ≠ -1∨ind ns (over ns p)=false):qG ns (l.set q (over ns p:Nat)) R:=by
 have nK:q < l.length:=by rw [h.len];exact hq
 refine ⟨by simpa using h.len,fun i hi=>?_,h.nd,fun k=>?_⟩
 ·rw [lG l q i _ nK]
  split
  ·rename_i e;subst e;exact .inr (by rw [he])
  ·exact h.val i hi
 ·rw [h.ring];constructor
  ·rintro ⟨i,h1,h2,h3,h4⟩;refine ⟨i,h1,h2,?_,h4⟩;rw [lG l q i _ nK]
   split
   ·omega
   ·exact h3
  ·rintro ⟨i,h1,h2,h3,h4⟩;rw [lG l q i _ nK] at h3
   split at h3
   ·rename_i e;subst e;rcases hk with hk | hk
    ·exact ⟨p,hp,by rw [h2,he],hk,by rw [← he];exact h4⟩
    ·rw [he,hk] at h4;cases h4
   ·exact ⟨i,h1,h2,h3,h4⟩
theorem ad4 {ns:List Nd} (hw:WF ns) {l:List Int} {R:List (Int×Int)} (h:qG ns l R) {p:Nat} (hp:p < ns.length) (he:over ns p=p) (hi:ind ns p=true):qG ns (l.set p (p:Nat)) (rJ R p 1):=by
 have nK:p < l.length:=by rw [h.len];exact hp
 obtain ⟨k1,k2⟩:=Th h.nd (p:Int) 1;refine ⟨by simpa using h.len,fun i hi=>?_,k1,fun k=>?_⟩
 ·rw [lG l p i _ nK]
  split
  ·rename_i e;subst e;exact .inr (by rw [he])
  ·exact h.val i hi
 ·rw [k2,h.ring];constructor
  ·rintro (⟨i,h1,h2,h3,h4⟩ | rfl)
   ·refine ⟨i,h1,h2,?_,h4⟩;rw [lG l p i _ nK]
    split
    ·omega
    ·exact h3
   ·refine ⟨p,hp,by rw [he],?_,by rw [he];exact hi⟩;rw [lG l p p _ nK,if_pos rfl];omega
  ·rintro ⟨i,h1,h2,h3,h4⟩;rw [lG l p i _ nK] at h3
   split at h3
   ·rename_i e;subst e;exact .inr (by rw [h2,he])
   ·exact .inl ⟨i,h1,h2,h3,h4⟩
theorem Tp {f:Nat→Nat} {c d:Nat} (h:fit f d c=c):∀ t,fit f (d*t) c=c:=by
 intro t
 induction t with
 | zero=>rfl
 | succ t ih=>rw [Nat.mul_succ,kh,h,ih]
theorem ad5 {f:Nat→Nat} {n x j k:Nat} (hf:∀ x,x < n→f x < n) (U:x < n) (oE:j < k) (hc:fit f k x=fit f j x) {m:Int} (hm:FW m (((List.range k).map (fun i=>(fit f i x:Int))).drop j)):m=(ov f n x:Nat):=by
 have en:∀ y:Int,y∈((List.range k).map (fun i=>(fit f i x:Int))).drop j↔∃ i,j≤i∧i < k∧y=(fit f i x:Nat):=by
  intro y;rw [List.mem_iff_getElem?];constructor
  ·rintro ⟨i,hi⟩;rw [List.getElem?_drop,List.getElem?_map] at hi;cases hr:(List.range k)[j+i]? with
   | none=>rw [hr] at hi;cases hi
   | some t=>
    rw [hr] at hi;have ht:j+i < k∧t=j+i:=by
     have:=List.getElem?_eq_some_iff.1 hr;obtain ⟨h1,h2⟩:=this;simp at h1 h2;exact ⟨h1,h2.symm⟩
    simp only [Option.map_some,Option.some.injEq] at hi;exact ⟨j+i,by omega,ht.1,by rw [← hi,ht.2]⟩
  ·rintro ⟨i,h1,h2,rfl⟩;refine ⟨i - j,?_⟩;rw [List.getElem?_drop,List.getElem?_map,show j+(i - j)=i by omega,List.getElem?_range h2];rfl
 obtain ⟨ag,ae⟩:=hm;obtain ⟨i,rV,jF,rfl⟩:=(en m).1 ag;have hd:fit f (k - j) (fit f j x)=fit f j x:=by rw [← kh,show k - j+j=k by omega,hc]
 have h1:ov f n x≤fit f i x:=by
  have rR:1≤k - j:=by omega
  have hmul:=Nat.mul_le_mul_right n rR;have:=CA hf U (i+(k - j)*n) (by omega);have e:fit f (i+(k - j)*n) x=fit f i x:=by
   rw [show i+(k - j)*n=(i - j)+((k - j)*n+j) by omega,kh,kh f ((k - j)*n) j,Tp hd,← kh]
   congr 1;omega
  rwa [e] at this
 have h2:(fit f i x:Int)≤(ov f n x:Nat):=by
  obtain ⟨M,_,hM⟩:=oJ f n (fit f j x);rw [wV hf U j] at hM;refine ae _ ((en _).2 ⟨j+(M+n) % (k - j),by omega,by have:=Nat.mod_lt (M+n) (show 0 < k - j by omega);omega,?_⟩);rw [hM];have e:fit f (M+n) (fit f j x)=fit f ((M+n) % (k - j)) (fit f j x):=by
   conv=>lhs;rw [← Nat.mod_add_div (M+n) (k - j)]
   rw [kh,Tp hd]
  rw [e,← kh]
  congr 2;omega
 omega
def qH (g:Nat→Nat) (k:Nat):List (Int×Int):=(List.range k).map fun j=>((g j:Int),(j:Int))
theorem Tq (g:Nat→Nat) (k:Nat):qH g (k+1)=qH g k++[((g k:Int),(k:Int))]:=by simp [qH,List.range_succ]
theorem ad6 {g:Nat→Nat} {k:Nat} {c:Nat} (h:∀ j,j < k→g j≠c):nG (qH g k) c=none∧∀ v,rJ (qH g k) c v=qH g k++[((c:Int),v)]:=by
 have hf:(qH g k).findIdx? (fun p=>p.1 == (c:Int))=none:=by
  rw [List.findIdx?_eq_none_iff];intro q hq;obtain ⟨j,hj,rfl⟩:=List.mem_map.1 hq;have:=h j (List.mem_range.1 hj);simp;omega
 refine ⟨by rw [Jt,hf];rfl,fun v=>by unfold rJ;rw [hf]⟩
theorem ad7 {g:Nat→Nat}:∀ (k:Nat),(∀ i j,i < k→j < k→g i=g j→i=j)→∀ j,j < k→nG (qH g k) (g j)=some (j:Int):=by
 intro k
 induction k with
 | zero=>intro _ j hj;omega
 | succ k ih=>
  intro hd j hj;rw [Tq];unfold nG;rw [List.find?_append];by_cases oE:j < k
  ·have:=ih (fun i j hi hj=>hd i j (by omega) (by omega)) j oE;unfold nG at this;cases hq:(qH g k).find? (fun p=>p.1 == (g j:Int)) with
   | none=>rw [hq] at this;cases this
   | some q=>rw [hq] at this;simpa using this
  ·have e:j=k:=by omega
   subst e;have hn:(qH g j).find? (fun p=>p.1 == (g j:Int))=none:=by
    rw [List.find?_eq_none];intro q hq;obtain ⟨i,hi,rfl⟩:=List.mem_map.1 hq;have bO:=List.mem_range.1 hi;have:g i≠g j:=fun hh=>by have:=hd i j (by omega) (by omega) hh;omega
    simp;omega
   rw [hn];simp
end
section
open Go Go.W
theorem KK {P:Program} {N id:Nat} {a:IR} {next:Env→World→Prop} {Q:gI} {ρ:Env} {w:World} (j8:Env→World→Prop) (h:cM P N a (jz id (lv j8 Q)) ρ w) (hk:∀ ρ w,j8 ρ w→next ρ w):cM P N a (jz id (lv next Q)) ρ w:=
 yy a _ _ (Am (Al hk (fun _ _ _ h=>h))) ρ w h
def tQ (g:Nat→Nat) (k:Nat):List Int:=(List.range k).map fun i=>(g i:Int)
theorem ad8 (g:Nat→Nat) (k:Nat):tQ g (k+1)=tQ g k++[(g k:Int)]:=by simp [tQ,List.range_succ]
theorem ad9 (g:Nat→Nat) (k:Nat):(tQ g k).length=k:=by simp [tQ]
theorem aea {w:World} {va:Option Addr} {n vc:Nat} {xs:List Int} {q:Int} (h:Ints w (.slice va n vc) xs) (U:xs=[q]):∃ ad,va=some ad∧w.cell? ad=some (I q):=by
 subst U;obtain ⟨xb,xd,ev,_,mL⟩:=h;obtain ⟨ad,h1,ep⟩:=mL 0 (by simp);cases ev;rw [add_zero'] at ep;exact ⟨ad,h1,ep⟩
theorem KL {w:World} {T n:Nat} {v:Value} {xs:List Value} {fp:Option Nat} (h:ao w T 1 v xs n fp) {i:Nat} (hi:i < n) {u:Value} (hu:xs[i]? = some u):∃ b c,v = .slice (some ⟨b,0,none⟩) n c∧w.cell? ⟨b,i,none⟩=some u:=by
 have hl:=h.1;obtain ⟨b,c,cg,hv,_,hb,_,_⟩:=h.pos (by omega);refine ⟨b,c,hv,?_⟩;rw [cell_of hb,List.getElem?_toArray,List.getElem?_append_left (by omega)];exact hu
theorem aeb {w:World} {xs:List Int} {fp:Option Nat} {a:Option Addr} {c j:Nat} (h:ao w 3 1 (.slice a xs.length c) (xs.map I) xs.length fp) (hj:j < xs.length) (hl:xs.length≤17592186044416) :
   Ints w (.slice (if c=j then a else a.map (fun x=>x.add j)) (xs.length - j) (c - j)) (xs.drop j):=by
 obtain ⟨b,c',cg,he,_,hb,hc,lY⟩:=h.pos (by omega);cases he;have hcj:¬ c=j:=by omega
 rw [if_neg hcj];refine ⟨_,c - j,by rw [List.length_drop];rfl,by rw [List.length_drop];omega,fun i hi=>⟨_,rfl,?_⟩⟩;rw [List.length_drop] at hi;show w.cell? ((Addr.add ⟨b,0,none⟩ j).add i)=_;rw [dB,dB,cell_of hb];rw [List.getElem?_toArray,List.getElem?_append_left (by simp;omega)];simp [Nat.mul_one,show j+i < xs.length by omega]
def aec (ns:List Nd) (w:World) (bo br:Nat) (l:List Int) (p:Nat) (w':World):Prop:=
 ∃ l' R',qG ns l' R'∧l'.getD p 0=over ns p∧(∀ i,i < ns.length→l.getD i 0 ≠ -1→l'.getD i 0 ≠ -1)∧w'.heap[bo]? = some (.cells (l'.map I).toArray 3 (0,0))∧gi w' br R'∧Mod (fun x=>x=bo∨x=br) w w'
theorem aed (ns:List Nd) (hw:WF ns) (hn:ns.length≤1048576) (w:World) (a bo br:Nat) (c0 c1 cv c3 c4 c5:Value) (l:List Int) (R:List (Int×Int)) (F:Nat→Prop)
   (ha:w.heap[a]? = some (.cells #[c0,c1,cv,c3,c4,c5] 202 (0,0))) (bt:qy 104 w cv ns F) (hb:w.heap[bo]? = some (.cells (l.map I).toArray 3 (0,0))) (hr:gi w br R) (ct:qG ns l R) (KM:∀ x,F x→x≠bo∧x≠br) (p:Nat) (hp:p < ns.length) :
   aK Tryz.prog 205 [.pointer (some ⟨a,0,none⟩),I p,.agg #[.slice (some ⟨bo,0,none⟩) ns.length ns.length,.map (some br)]] w fun r w'=>aec ns w bo br l p w':=by
 have dL:=CC hw;have hf:=fu hw;have ah:∀ j,fit (ay ns) j p < ns.length:=fun j=>yH hf j hp
 have lb:=lt_of_heap hb;obtain ⟨jQ,crs,wM,_⟩:=id hr;have lr:=lt_of_heap wM;refine ab2.calls rfl ?_;unfold J1;refine σ ?_;refine cK rfl ?_;intro w1 ax ag cL;have ax:w1.heap[w.heap.size]? = some (.cells #[.slice (some ⟨bo,0,none⟩) ns.length ns.length,.map (some br)] 246 (0,0)):=ax;refine σ ?_;refine Ap ?_;intro w2 aC ae dq;have dC:=ae.at ax (fun h=>h);refine σ ?_
 refine KK (fun ρ w'=>∃ (k pf:Nat) (l1:List Int) (R1:List (Int×Int)) (v:Value) (fp:Option Nat),k≤ns.length∧pf < ns.length∧qG ns l1 R1∧l1.getD pf 0=over ns p∧over ns pf=over ns p∧(k=0→pf=p)∧(∀ i,i < ns.length→l.getD i 0 ≠ -1→l1.getD i 0 ≠ -1) ∧
     w'.heap[bo]? = some (.cells (l1.map I).toArray 3 (0,0))∧gi w' br R1∧Mod (fun x=>x=bo∨x=br) w w'∧w'.heap[w.heap.size]? = some (.cells #[.slice (some ⟨bo,0,none⟩) ns.length ns.length,.map (some br)] 246 (0,0)) ∧
     ao w' 3 1 v ((tQ (fun i=>fit (ay ns) i p) k).map I) k fp∧(∀ b,fp=some b→w.heap.size < b) ∧
     ρ.get 1=some (I pf)∧ρ.get 5=some (.pointer (some ⟨w.heap.size,0,none⟩))∧ρ.get 7=some v) ?_ ?_
 ·refine dA (fun m ρ w' => ∃ (k : Nat) (v : Value) (fp : Option Nat), m = ns.length - k ∧ k ≤ ns.length ∧ (∀ j, j < k → ind ns (fit (ay ns) j p) = true ∧ l.getD (fit (ay ns) j p) 0 = -1) ∧ (∀ i j, i < k → j < k → fit (ay ns) i p = fit (ay ns) j p → i = j) ∧
      Mod (fun _=>False) w w'∧w'.heap[w.heap.size]? = some (.cells #[.slice (some ⟨bo,0,none⟩) ns.length ns.length,.map (some br)] 246 (0,0))∧gi w' w1.heap.size (qH (fun i=>fit (ay ns) i p) k) ∧
      ao w' 3 1 v ((tQ (fun i=>fit (ay ns) i p) k).map I) k fp∧(∀ b,fp=some b→w1.heap.size < b) ∧
      ρ=[(0,.pointer (some ⟨a,0,none⟩)),(1,I (fit (ay ns) k p:Nat)),(5,.pointer (some ⟨w.heap.size,0,none⟩)),(6,.map (some w1.heap.size)),(7,v)]) ns.length
   ⟨0,_,none,rfl,Nat.zero_le _,(fun j hj=>by omega),(fun i j hi=>by omega),ag.trans ae,dC,aC,ao.nil _ _ _,(fun b hb=>by cases hb),rfl⟩ ?_
  rintro m ρ w3 ⟨k,v,fp,rfl,hk,AG,KN,ab,aJ,Aa,gY,kq,rfl⟩;have xn:=ab.at hb (fun h=>h);have AT:=dT hr ab (fun h=>h);have ha3:=ab.at ha (fun h=>h);have xo:=bt.mod ab (fun _ _ h=>h);obtain ⟨bc,cc,nv,rfl,d0,d1,d2,dx,db,_⟩:=yJ xo dL (ah k);have U:=u9 xn (i:=fit (ay ns) k p) (by rw [ct.len];exact ah k);have b1:(0:Int)≤(fit (ay ns) k p:Nat)∧((fit (ay ns) k p:Nat):Int) < ns.length:=by have:=ah k;omega
  have ki:over ns (fit (ay ns) k p)=over ns p:=wV hf hp k;obtain ⟨va,vc,rfl,_,_⟩:=gY.val;unfold RC;simp only [go_sem,simprocAttr,an,bq,cell_of aJ,b1,U];refine aY rfl (fun hc=>?_) (fun hc=>?_)
  ·have bz:l.getD (fit (ay ns) k p) 0 = -1:=by
    have h1:l.getD (fit (ay ns) k p) 0 < 0:=by simpa using hc
    rcases ct.val _ (ah k) with h | h
    ·exact h
    ·omega
   simp only [go_sem,simprocAttr,an,bq,cell_of ha3,b1,d0];refine aY rfl (fun hi=>?_) (fun hi=>?_)
   ·have bO:ind ns (fit (ay ns) k p)=false:=by simpa [ind] using hi
    simp only [go_sem,simprocAttr,an,bq,cell_of aJ,b1];refine bY (off:=fit (ay ns) k p) rfl rfl xn rfl (by simp;rw [ct.len];exact ah k) ?_;intro w4 aH ai eu;rw [map_set] at aH;have KO:over ns (fit (ay ns) k p)=fit (ay ns) k p:=AB (oK bO);have aee:qG ns (l.set (fit (ay ns) k p) (fit (ay ns) k p:Nat)) R:=by
     have:=To hw ct (ah k) (ah k) rfl (.inr (by rw [KO];exact bO))
     rwa [KO] at this
    have bj:bo≠br:=fun hh=>by rw [hh,wM] at hb;cases hb
    refine σ ?_;refine ⟨k,fit (ay ns) k p,_,R,_,fp,hk,ah k,aee,?_,ki,(fun h=>by subst h;rfl),fun i jF h=>?_,aH,dT AT ai (fun hh=>bj hh.symm),(ab.az (fun _ h=>h.elim)).step ai (fun x U _=>.inl U),ai.at aJ (fun hh=>by omega),gY.mod ai (fun b hb hh=>by have:=kq b hb;have:=ag.size;omega),fun b hb=>by have:=kq b hb;omega,rfl,rfl⟩
    ·rw [lG _ _ _ _ (by rw [ct.len];exact ah k),if_pos rfl,← ki,KO]
    ·rw [lG _ _ _ _ (by rw [ct.len];exact ah k)]
     split
     ·omega
     ·exact h
   ·have bO:ind ns (fit (ay ns) k p)=true:=by simpa [ind] using hi
    obtain ⟨q',hq',Tr,gV⟩:=qw hw (ah k) bO;by_cases CX:∃ j,j < k∧fit (ay ns) j p=fit (ay ns) k p
    ·obtain ⟨j,oE,yP⟩:=CX;have aef:nG (qH (fun i=>fit (ay ns) i p) k) (fit (ay ns) k p:Nat)=some (j:Int):=by
      rw [← yP];exact ad7 k KN j oE
     refine σ ?_;refine Ju (t:=200) (kt:=3) (et:=3) rfl rfl Tryz.underlying200 Tryz.underlying3 (Tryz.zeroValue3 _) Aa ?_;rw [aef];have b2:(0:Int)≤j∧(j:Int)≤k:=by omega
     have kr:=ad9 (fun i=>fit (ay ns) i p) k;simp only [go_sem,simprocAttr,an,bq,Option.getD_some,Option.isSome_some,b2];have FX:=aeb (xs:=tQ (fun i=>fit (ay ns) i p) k) (a:=va) (c:=vc) (j:=j) (by rw [kr];exact gY) (by rw [kr];exact oE) (by rw [kr];omega);rw [kr] at FX;have aeg:(tQ (fun i=>fit (ay ns) i p) k).drop j≠[]:=fun hh=>by
      have:=congrArg List.length hh;rw [List.length_drop,kr] at this;simp at this;omega
     refine δ (by rfl) (ad1 _ _ _ w3 FX aeg) ?_;rintro q _ ⟨⟨mm,rfl,tH⟩,rfl⟩;have Ts:mm=(over ns p:Nat):=ad5 hf hp oE yP.symm tH;have AU:over ns p < ns.length:=qv hf hp;have Tt:over ns (over ns p)=over ns p:=rP hf hp;have I8:ind ns (over ns p)=true:=by
      have h1:=List.mem_of_mem_drop tH.1;obtain ⟨i,pJ,FY⟩:=List.mem_map.1 h1;have FZ:=List.mem_range.1 pJ;have vq:((fit (ay ns) i p:Nat):Int)=mm:=FY;have:over ns p=fit (ay ns) i p:=by rw [Ts] at vq;omega
      rw [this];exact (AG i FZ).1
     subst Ts;simp only [go_sem,simprocAttr,cell_of aJ];refine Fq (t:=200) (kt:=3) (et:=3) rfl rfl rfl Tryz.underlying200 Tryz.underlying3 AT ?_;intro w4 aeh ai eu;have bj:bo≠br:=fun hh=>by rw [hh,wM] at hb;cases hb
     have CY:=ai.at xn bj;have aH:=ai.at aJ (fun hh=>by omega);have b3:(0:Int)≤(over ns p:Nat)∧((over ns p:Nat):Int) < ns.length:=by omega
     simp only [go_sem,simprocAttr,an,bq,cell_of aH,b3];refine bY (off:=over ns p) rfl rfl CY rfl (by simp;rw [ct.len];exact AU) ?_;intro w5 bZ aB fP;rw [map_set] at bZ;refine σ ?_;have s1:=ag.size;have s3:=ab.size;have CZ:Mod (fun x=>x=bo∨x=br) w3 w5:=(ai.az (S':=fun x=>x=bo∨x=br) (fun x U=>.inr U)).step aB (fun x U _=>.inl U);refine ⟨k,over ns p,_,_,_,fp,hk,AU,ad4 hw ct AU Tt I8,?_,Tt,(fun h=>by omega),fun i jF h=>?_,bZ,dT aeh aB (fun hh=>bj hh.symm),(ab.az (fun _ h=>h.elim)).trans CZ,CZ.at aJ (fun hh=>by omega),gY.mod CZ (fun b hb hh=>by have:=kq b hb;omega),fun b hb=>by have:=kq b hb;omega,rfl,rfl⟩
     ·rw [lG _ _ _ _ (by rw [ct.len];exact AU),if_pos rfl]
     ·rw [lG _ _ _ _ (by rw [ct.len];exact AU)]
      split
      ·omega
      ·exact h
    ·have yU:=ad6 (g:=fun i=>fit (ay ns) i p) (k:=k) (c:=fit (ay ns) k p) (fun j hj hh=>CX ⟨j,hj,hh⟩);refine σ ?_;refine Ju (t:=200) (kt:=3) (et:=3) rfl rfl Tryz.underlying200 Tryz.underlying3 (Tryz.zeroValue3 _) Aa ?_;rw [yU.1];simp only [go_sem,simprocAttr,an,bq,Option.getD_none,Option.isSome_none];refine Fq (t:=200) (kt:=3) (et:=3) rfl rfl rfl Tryz.underlying200 Tryz.underlying3 Aa ?_;intro w4 Tu ai eu;rw [yU.2,← Tq (fun i=>fit (ay ns) i p) k] at Tu;have s1:=ag.size;have s3:=ab.size;have lm:=(by obtain ⟨es,c,h,_⟩:=Aa;exact lt_of_heap h:w1.heap.size < w3.heap.size);have eh:Mod (fun _=>False) w w4:=ab.step ai (fun x U ah=>by omega);have aH:=ai.at aJ (fun hh=>by omega);have KP:=gY.mod ai (fun b hb hh=>by have:=kq b hb;omega);refine σ ?_;refine cd (by rfl) (by refine σ ?_;rfl) ?_;intro w5 bZ aB fP;have aei:=KP.mod aB (fun _ _ h=>h);refine σ ?_;refine eH (m:=1) (news:=[I (fit (ay ns) k p:Nat)]) rfl aei rfl (fun h=>by cases h) (j9 bZ) (by simp [Value.oneCell']) rfl (by omega) (by omega) ?_;intro v6 w6 xp gK aD iu;obtain ⟨xi,xj,rfl,_,_⟩:=gK.val;have s4:=ai.size;have s5:=aB.size;have s6:=aD.size;have gE:Mod (fun _=>False) w w6:=(eh.trans aB).step aD (fun x U ah=>by have:=kq x U;omega);have KQ:=gE.at ha (fun h=>h);obtain ⟨bc',yK,nv',xq,e0,e1,e2,ex,eb,_⟩:=yJ (bt.mod gE (fun _ _ h=>h)) dL (ah k);cases xq;obtain ⟨xa,xc,rfl,_,_⟩:=id ex;obtain ⟨ad,rfl,ep⟩:=aea ex Tr;have jG:(ak ns (fit (ay ns) k p)).args.length=1:=by rw [Tr];rfl
     have z3:(0:Int)≤0∧(0:Int) < ((1:Nat):Int):=by omega
     simp only [go_sem,simprocAttr,an,bq,cell_of KQ,b1,e2,jG,z3,ep];have eQ:k+1≤ns.length:=by
      have bQ:((List.range (k+1)).map (fun i=>fit (ay ns) i p)).Nodup:=by
       rw [List.range_succ,List.map_append,List.nodup_append];refine ⟨?_,by simp,fun x U y hy Aq=>?_⟩
       ·unfold List.Nodup;rw [List.pairwise_map];refine List.Pairwise.imp_of_mem ?_ (List.nodup_range (n:=k));intro i j hi hj eA hh;exact eA (KN i j (List.mem_range.1 hi) (List.mem_range.1 hj) hh)
       ·obtain ⟨i,hi,rfl⟩:=List.mem_map.1 U;simp at hy;exact CX ⟨i,List.mem_range.1 hi,by rw [Aq,hy]⟩
      have:=AA ns.length _ bQ (fun x U=>by obtain ⟨i,_,rfl⟩:=List.mem_map.1 U;exact ah i)
      simpa using this
     have aoW:∀ b,fp=some b→w1.heap.size < b:=kq;have cN:=aD.at (aB.at aH (fun h=>h)) (fun hh=>by have:=kq _ hh;omega);have KR:=dT (dT Tu aB (fun h=>h)) aD (fun hh=>by have:=kq _ hh;omega);refine ⟨_,?_,k+1,.slice xi (k+1) xj,xp,rfl,eQ,fun j hj=>?_,fun i j hi hj eA=>?_,gE,cN,KR,?_,fun b hb=>?_,?_⟩
     ·omega
     ·rcases Nat.lt_or_ge j k with h | h
      ·exact AG j h
      ·obtain rfl:j=k:=by omega
       exact ⟨bO,bz⟩
     ·rcases Nat.lt_or_ge i k with h1 | h1
      ·rcases Nat.lt_or_ge j k with h2 | h2
       ·exact KN i j h1 h2 eA
       ·obtain rfl:j=k:=by omega
        exact absurd ⟨i,h1,eA⟩ CX
      ·obtain rfl:i=k:=by omega
       rcases Nat.lt_or_ge j i with h2 | h2
       ·exact absurd ⟨j,h2,eA.symm⟩ CX
       ·omega
     ·rw [ad8,List.map_append];exact gK
     ·rcases iu b hb with h | h
      ·exact kq b h
      ·omega
     ·rw [qu,gV]
  ·have bz:l.getD (fit (ay ns) k p) 0 ≠ -1:=fun h=>by rw [h] at hc;simp at hc
   refine σ ?_;refine ⟨k,fit (ay ns) k p,l,R,_,fp,hk,ah k,ct,?_,ki,(fun h=>by subst h;rfl),fun i _ h=>h,xn,AT,ab.az (fun _ h=>h.elim),aJ,gY,fun b hb=>by have:=kq b hb;omega,rfl,rfl⟩;rcases ct.val _ (ah k) with h | h
   ·exact absurd h bz
   ·rw [h,ki]
 ·rintro ρ w3 ⟨k,pf,l1,R1,v,fp,hk,wZ,AV,tR,ki,oM,Km,xn,AT,hm,aJ,gY,kq,r1,r5,r7⟩;obtain ⟨va,vc,rfl,_,_⟩:=gY.val;simp only [go_sem,simprocAttr,r1,r5,r7];have KS:=lt_of_heap xn;have s1:=ag.size
  refine dA (fun m ρ w'=>∃ (t:Nat) (l2:List Int),m=k - t∧t≤k∧qG ns l2 R1∧l2.getD pf 0=over ns p∧(∀ j,j < t→l2.getD (fit (ay ns) j p) 0=over ns p)∧(∀ i,i < ns.length→l1.getD i 0 ≠ -1→l2.getD i 0 ≠ -1) ∧
      w'.heap[bo]? = some (.cells (l2.map I).toArray 3 (0,0))∧Mod (fun x=>x=bo) w3 w' ∧
      ρ=[(1,I pf),(5,.pointer (some ⟨w.heap.size,0,none⟩)),(71,.slice va k vc),(72,I k),(73,I t)]) k
   ⟨0,l1,rfl,Nat.zero_le _,AV,tR,(fun j hj=>by omega),(fun i _ h=>h),xn,Mod.refl _ _,rfl⟩ ?_
  rintro m ρ w4 ⟨t,l2,rfl,ht,sf,C0,mP,Tv,CY,ai,rfl⟩;unfold RD;have bj:bo≠br:=fun hh=>by rw [hh,wM] at hb;cases hb
  have KP:=gY.mod ai (fun b cj hh=>by have:=kq b cj;omega);have aH:=ai.at aJ (fun hh=>by omega);refine σ ?_;refine aY rfl (fun hc=>?_) (fun hc=>?_)
  ·have iJ:t < k:=by simpa using hc
   have b1:(0:Int)≤t∧(t:Int) < k:=by omega
   obtain ⟨bw,cw,ew,tw⟩:=KL KP iJ (u:=I (fit (ay ns) t p:Nat)) (by simp [tQ,iJ]);cases ew;have sg:IntKind.i64.wrap ((t:Int)+1)=((t+1:Nat):Int):=by rw [cy]<;>omega
   have b2:(0:Int)≤(fit (ay ns) t p:Nat)∧((fit (ay ns) t p:Nat):Int) < ns.length:=by have:=ah t;omega
   have b3:(0:Int)≤(pf:Nat)∧((pf:Nat):Int) < ns.length:=by omega
   have hxp:=u9 CY (i:=pf) (by rw [sf.len];exact wZ);have jn:Mod (fun _=>False) w4 w4.drew:=⟨Nat.le_refl _,fun _ _ _=>rfl,rfl,rfl,rfl⟩;simp only [go_sem,simprocAttr,an,bq,b1,tw,cell_of aH,b2,b3,hxp];refine bY (off:=fit (ay ns) t p) rfl rfl (jn.at CY (fun h=>h)) rfl (by simp;rw [sf.len];exact ah t) ?_;intro w5 bZ aB fP;rw [map_set,C0] at bZ;simp only [go_sem,simprocAttr,sg];have aej:over ns (fit (ay ns) t p)=over ns p:=wV hf hp t;have KT:qG ns (l2.set (fit (ay ns) t p) (over ns p:Nat)) R1:=by
    have:=To hw sf (ah t) wZ (by rw [aej,ki]) (.inl (by rw [C0];omega))
    rwa [ki] at this
   have nK:fit (ay ns) t p < l2.length:=by rw [sf.len];exact ah t
   refine ⟨_,?_,t+1,_,rfl,iJ,KT,?_,fun j hj=>?_,fun i hi h=>?_,bZ,ai.trans ((jn.az (fun _ h=>h.elim)).step aB (fun x U _=>U)),rfl⟩
   ·omega
   ·rw [lG _ _ _ _ nK]
    split
    ·rfl
    ·exact C0
   ·rw [lG _ _ _ _ nK]
    split
    ·rfl
    ·rename_i CW;rcases Nat.lt_or_ge j t with h | h
     ·exact mP j h
     ·obtain rfl:j=t:=by omega
      exact absurd rfl CW
   ·rw [lG _ _ _ _ nK]
    split
    ·omega
    ·exact Tv i hi h
  ·have iJ:t=k:=by simp at hc;omega
   subst iJ;refine σ ?_;refine ⟨l2,R1,sf,?_,fun i hi h=>Tv i hi (Km i hi h),CY,dT AT ai (fun hh=>bj hh.symm),hm.step ai (fun x U _=>.inl U)⟩;rcases Nat.eq_zero_or_pos t with h0 | h0
   ·have e:=oM h0;rw [e] at C0;exact C0
   ·exact mP 0 h0
end
section
open Go Go.W
structure KU (w:World) (bo br:Nat) (ns:List Nd) (R:List (Int×Int)):Prop where
 of:w.heap[bo]? = some (.cells (((List.range ns.length).map fun i=>(over ns i:Int)).map I).toArray 3 (0,0))
 ring:gi w br R
 nd:(R.map (fun q=>q.1)).Nodup
 keys:∀ k:Int,k∈R.map (fun q=>q.1)↔∃ i,i < ns.length∧k=over ns i∧ind ns (over ns i)=true
theorem aek {ns:List Nd} {l:List Int} (hl:l.length=ns.length) (h:∀ i,i < ns.length→l.getD i 0=over ns i):l=(List.range ns.length).map fun i=>(over ns i:Int):=by
 apply List.ext_getElem?;intro i;by_cases hi:i < ns.length
 ·have:=h i hi;rw [List.getD_eq_getElem?_getD,List.getElem?_eq_getElem (by omega)] at this;rw [List.getElem?_eq_getElem (by omega),List.getElem?_map,List.getElem?_range hi]
  simpa using this
 ·rw [List.getElem?_eq_none (by omega),List.getElem?_eq_none (by simp;omega)]
theorem KV (ns:List Nd) (hw:WF ns) (hn:ns.length≤1048576) (w:World) (a:Nat) (c0 c1 cv c3 c4 c5:Value) (F:Nat→Prop) (ha:w.heap[a]? = some (.cells #[c0,c1,cv,c3,c4,c5] 202 (0,0))) (bt:qy 104 w cv ns F) :
   aK Tryz.prog 199 [.pointer (some ⟨a,0,none⟩)] w fun r w'=>∃ bo br R,r = .agg #[.slice (some ⟨bo,0,none⟩) ns.length ns.length,.map (some br)]∧KU w' bo br ns R∧w.heap.size≤bo∧w.heap.size≤br∧bo≠br∧Mod (fun _=>False) w w':=by
 obtain ⟨_,_,Kg,_,_,_,eD⟩:=id bt;obtain ⟨ca,cc,rfl,_,_⟩:=Kg.val;refine abY.calls rfl ?_;unfold JX;refine σ ?_;refine dk ?_;intro w1 ax ag cL;have ax:w1.heap[w.heap.size]? = some (.cells #[.slice none 0 0,.map none] 246 (0,0)):=ax;have nI:=ag.at ha (fun h=>h);simp only [go_sem,simprocAttr,cell_of nI];refine uS (n:=ns.length) rfl (by omega) (by omega) ?_;intro w2 aC ae dq;have aC:w2.heap[w1.heap.size]? = some (.cells ((List.replicate ns.length (0:Int)).map I).toArray 3 (0,0)):=by simpa using aC
 refine σ ?_;refine Ap ?_;intro w3 aJ ab eP;refine σ ?_;refine dk ?_;intro w4 aH ai eu;have aH:w4.heap[w3.heap.size]? = some (.cells #[.slice none 0 0,.map none] 246 (0,0)):=aH;refine σ ?_;refine cX rfl rfl aH rfl rfl (by simp [Value.oneCell']) ?_;intro w5 bZ aB fP;have s1:=ag.size;have s2:=ae.size;have s3:=ab.size;have s4:=ai.size;have l2:=lt_of_heap aC;have nL:Mod (fun _=>False) w2 w5:=(ab.trans ai).step aB (fun x U ah=>by omega);have dH:Mod (fun _=>False) w w5:=(ag.trans ae).trans nL;have xl:=nL.at aC (fun h=>h);have ael:gi w5 w2.heap.size []:=dT (dT aJ ai (fun h=>h)) aB (by omega);have l0:=(ae.trans nL).at ax (fun h=>h);simp only [go_sem,simprocAttr,cell_of bZ]
 refine dA (fun m ρ w'=>∃ k:Nat,m=ns.length - k∧k≤ns.length∧w'.heap[w1.heap.size]? = some (.cells ((List.replicate k (-1:Int)++List.replicate (ns.length - k) 0).map I).toArray 3 (0,0))∧Mod (fun x=>x=w1.heap.size) w5 w'∧w'.heap.size=w5.heap.size ∧
     ρ=[(0,.pointer (some ⟨a,0,none⟩)),(2,.pointer (some ⟨w.heap.size,0,none⟩)),(3,.pointer (some ⟨w3.heap.size,0,none⟩)),(16,I ns.length),(17,I k)]) ns.length
  ⟨0,rfl,Nat.zero_le _,by simpa using xl,Mod.refl _ _,rfl,rfl⟩ ?_
 rintro m ρ w6 ⟨k,rfl,hk,cN,aD,mK,rfl⟩;have F0:=aD.at bZ (by omega);unfold Ry;refine σ ?_;refine aY rfl (fun hc=>?_) (fun hc=>?_)
 ·have dX:k < ns.length:=by simpa using hc
  have b1:(0:Int)≤k∧(k:Int) < ns.length:=by omega
  have sg:IntKind.i64.wrap ((k:Int)+1)=((k+1:Nat):Int):=by rw [cy]<;>omega
  simp only [go_sem,simprocAttr,an,bq,cell_of F0,b1];refine bY (off:=k) rfl rfl cN rfl (by simp;omega) ?_;intro w7 cm aX mN;rw [map_set] at cm;simp only [go_sem,simprocAttr,sg];refine ⟨_,?_,k+1,rfl,dX,?_,aD.trans aX,by omega,rfl⟩
  ·omega
  ·have e:(List.replicate k (-1:Int)++List.replicate (ns.length - k) 0).set k (-1)=List.replicate (k+1) (-1)++List.replicate (ns.length - (k+1)) 0:=by
    rw [List.set_append,if_neg (by simp),List.length_replicate,Nat.sub_self,show ns.length - k=(ns.length - (k+1))+1 by omega,List.replicate_succ,List.set_cons_zero,List.replicate_succ' (n:=k)];simp
   rw [e] at cm;exact cm
 have dX:k=ns.length:=by simp at hc;omega
 subst dX;rw [Nat.sub_self,List.replicate_zero,List.append_nil] at cN;have KR:=dT ael aD (by omega);have gE:Mod (fun _=>False) w w6:=dH.step aD (fun x U ah=>by omega);have KQ:=gE.at ha (fun h=>h);have aem:qG ns (List.replicate ns.length (-1)) []:=by
  refine ⟨by simp,fun i hi=>.inl (by simp [List.getElem?_replicate,hi]),by simp,fun k=>⟨fun h=>by simp at h,fun ⟨i,h1,_,h3,_⟩=>absurd (by simp [List.getElem?_replicate,h1]) h3⟩⟩
 simp only [go_sem,simprocAttr,cell_of KQ]
 refine dA (fun m ρ w'=>∃ (k:Nat) (l:List Int) (R:List (Int×Int)),m=ns.length - k∧k≤ns.length∧qG ns l R∧(∀ i,i < k→l.getD i 0=over ns i)∧w'.heap[w1.heap.size]? = some (.cells (l.map I).toArray 3 (0,0))∧gi w' w2.heap.size R ∧
     Mod (fun x=>x=w1.heap.size∨x=w2.heap.size) w6 w' ∧
     ρ=[(0,.pointer (some ⟨a,0,none⟩)),(2,.pointer (some ⟨w.heap.size,0,none⟩)),(3,.pointer (some ⟨w3.heap.size,0,none⟩)),(29,I ns.length),(30,I k)]) ns.length
  ⟨0,_,[],rfl,Nat.zero_le _,aem,(fun i hi=>by omega),cN,KR,Mod.refl _ _,rfl⟩ ?_
 rintro m ρ w7 ⟨k,l,R,rfl,hk,ct,df,cm,Tw,aX,rfl⟩;have Tx:=aX.at F0 (by omega);have jV:Mod (fun _=>False) w w7:=gE.step aX (fun x U ah=>by omega);unfold Rz;refine σ ?_;refine aY rfl (fun hc=>?_) (fun hc=>?_)
 ·have dX:k < ns.length:=by simpa using hc
  have sg:IntKind.i64.wrap ((k:Int)+1)=((k+1:Nat):Int):=by rw [cy]<;>omega
  simp only [go_sem,simprocAttr,dM Tx (off:=0) (n:=2) (by simp)];refine δ (by rfl) (aed ns hw hn w7 a w1.heap.size w2.heap.size c0 c1 _ c3 c4 c5 l R F (jV.at ha (fun h=>h)) (bt.mod jV (fun _ _ h=>h)) cm Tw ct (fun x U=>by have:=eD x U;omega) k dX) ?_;rintro q w8 ⟨l8,R8,Ty,xr,aen,eB,aeo,ch⟩;simp only [go_sem,simprocAttr,sg];refine ⟨_,?_,k+1,l8,R8,rfl,dX,Ty,fun i hi=>?_,eB,aeo,aX.trans ch,rfl⟩
  ·omega
  ·rcases Nat.lt_or_ge i k with h | h
   ·rcases Ty.val i (by omega) with h2 | h2
    ·exact absurd h2 (aen i (by omega) (by rw [df i h];omega))
    ·exact h2
   ·obtain rfl:i=k:=by omega
    exact xr
 ·have dX:k=ns.length:=by simp at hc;omega
  subst dX;have el:=aek ct.len df;have vo:=(aD.az (S':=fun x=>x=w1.heap.size∨x=w2.heap.size) (fun x U=>.inl U)).trans aX |>.at l0 (by omega);simp only [go_sem,simprocAttr,dM Tx (off:=0) (n:=2) (by simp)];refine cX rfl rfl vo rfl rfl (by simp [Value.oneCell']) ?_;intro w8 eB ch xf;simp only [go_sem,simprocAttr,dM eB (off:=0) (n:=2) (by simp)];refine ⟨_,_,R,rfl,⟨?_,dT Tw ch (by omega),ct.nd,fun k=>?_⟩,by omega,by omega,by omega,jV.step ch (fun x U ah=>by omega)⟩
  ·rw [← el];exact ch.at cm (by omega)
  ·rw [ct.ring];exact ⟨fun ⟨i,h1,h2,_,h4⟩=>⟨i,h1,h2,h4⟩,fun ⟨i,h1,h2,h4⟩=>⟨i,h1,h2,by rw [df i h1];omega,h4⟩⟩
end
section
open Go Go.W
def gj (ns:List Nd) (fr:Nat) (out:List Nat) (p:Nat):List Nat:=if over ns p < fr∨over ns p∈out then out else out++[over ns p]
def dm (ns:List Nd) (fr:Nat) (out:List Nat) (l:List Int):List Nat:=l.foldl (fun o (p:Int)=>gj ns fr o p.toNat) out
def dD (ns:List Nd) (fr:Nat) (out:List Nat) (p:Int):Int:=if over ns p.toNat < fr then over ns p.toNat else (fr+out.idxOf (over ns p.toNat):Nat)
def gZ (ns:List Nd) (fr:Nat):Nat→Nat→List Nat→List Nat
 | 0,_,out=>out
 | f+1,i,out=>match out[i]? with
  | some x=>gZ ns fr f (i+1) (dm ns fr out (ak ns x).args)
  | none=>out
def jW (ns:List Nd) (fr:Nat) (out:List Nat):Prop:=out.Nodup∧∀ x∈out,x < ns.length∧over ns x=x∧fr≤x
theorem yV (ns:List Nd) (fr:Nat):jW ns fr []:=⟨List.nodup_nil,fun x h=>by cases h⟩
theorem xt {ns:List Nd} {fr:Nat} {out:List Nat} (h:jW ns fr out):out.length≤ns.length:=AA _ _ h.1 (fun x U=>(h.2 x U).1)
theorem aep {ns:List Nd} (hw:WF ns) {fr:Nat} {out:List Nat} (h:jW ns fr out) {p:Nat} (hp:p < ns.length):jW ns fr (gj ns fr out p):=by
 unfold gj
 split
 ·exact h
 ·rename_i hn;refine ⟨?_,?_⟩
  ·rw [List.nodup_append];refine ⟨h.1,by simp,?_⟩;intro a ha b hb gT;simp at hb;exact hn (.inr (hb ▸ gT ▸ ha))
  ·intro x U;rcases List.mem_append.1 U with U | U
   ·exact h.2 x U
   ·simp at U;subst U;exact ⟨qv (fu hw) hp,rP (fu hw) hp,by omega⟩
theorem aeq (ns:List Nd) (fr:Nat) (out:List Nat) (p:Nat):out <+: gj ns fr out p:=by
 unfold gj;split
 ·exact List.prefix_rfl
 ·exact List.prefix_append _ _
theorem xu (ns:List Nd) (fr:Nat) (l:List Int):∀ out,out <+: dm ns fr out l:=by
 induction l with
 | nil=>intro out;exact List.prefix_rfl
 | cons a l ih=>intro out;exact (aeq ns fr out a.toNat).trans (ih _)
theorem C1 (ns:List Nd) (fr:Nat):∀ f i out,out <+: gZ ns fr f i out:=by
 intro f
 induction f with
 | zero=>intro i out;exact List.prefix_rfl
 | succ f ih=>
  intro i out;unfold gZ
  split
  ·exact (xu ns fr _ _).trans (ih _ _)
  ·exact List.prefix_rfl
theorem xv (ns:List Nd) (fr f i:Nat) (out:List Nat) (h:out.length≤i):gZ ns fr f i out=out:=by
 cases f with
 | zero=>rfl
 | succ f=>simp [gZ,List.getElem?_eq_none h]
theorem AW (ns:List Nd) (fr f i:Nat) (out:List Nat) (h:i < out.length):gZ ns fr (f+1) i out=gZ ns fr f (i+1) (dm ns fr out (ak ns out[i]).args):=by
 simp [gZ,h]
theorem qI {ns:List Nd} (hw:WF ns) {fr:Nat}:∀ (l:List Int) {out:List Nat},jW ns fr out→bJ ns.length l=true→jW ns fr (dm ns fr out l):=by
 intro l
 induction l with
 | nil=>intro out h _;exact h
 | cons a l ih=>
  intro out h ho;simp only [bJ,List.all_cons,Bool.and_eq_true,decide_eq_true_eq] at ho;exact ih (aep hw h (by omega)) (by simpa [bJ] using ho.2)
theorem aer (ns:List Nd) (fr:Nat) (out:List Nat) (p:Nat) (h:fr≤over ns p):over ns p∈gj ns fr out p:=by
 unfold gj;split
 ·rename_i hh;exact hh.resolve_left (by omega)
 ·simp
theorem C2 {ns:List Nd} {fr:Nat} {a b:List Nat} (h:a <+: b) {p:Int} (U:over ns p.toNat < fr∨over ns p.toNat∈a):dD ns fr b p=dD ns fr a p:=by
 unfold dD
 split
 ·rfl
 ·rename_i hn;rw [Sd h (U.resolve_left hn)]
theorem Tz (ns:List Nd) (fr:Nat) (out:List Nat) (p:Nat):over ns p < fr∨over ns p∈gj ns fr out p:=by
 rcases Nat.lt_or_ge (over ns p) fr with h | h
 ·exact .inl h
 ·exact .inr (aer ns fr out p h)
theorem aes {ns:List Nd} {fr:Nat} {out:List Nat} {p:Nat} (hn:¬ over ns p < fr) (gS:over ns p∉out):dD ns fr (gj ns fr out p) p=(fr+out.length:Nat):=by
 unfold dD gj;rw [Int.toNat_natCast,if_neg hn,if_neg (by simp [hn,gS]),List.idxOf_append,if_neg gS];simp
theorem C3 (ns:List Nd) (fr:Nat) (out:List Nat) (a:Int) (l:List Int):dm ns fr out (a::l)=dm ns fr (gj ns fr out a.toNat) l:=rfl
theorem aet (ns:List Nd) (fr:Nat) (l:List Int) (out:List Nat) {k:Nat} {a:Int} (h:l[k]? = some a):dm ns fr out (l.take (k+1))=gj ns fr (dm ns fr out (l.take k)) a.toNat:=by
 obtain ⟨hk,rfl⟩:=List.getElem?_eq_some_iff.1 h;rw [List.take_succ_eq_append_getElem hk];unfold dm;rw [List.foldl_append];rfl
theorem yW (ns:List Nd) (fr:Nat):∀ (l:List Int) (out:List Nat) (a:Int),a∈l→over ns a.toNat < fr∨over ns a.toNat∈dm ns fr out l:=by
 intro l
 induction l with
 | nil=>intro out a h;cases h
 | cons b l ih=>
  intro out a h;rw [C3];rcases List.mem_cons.1 h with rfl | h
  ·exact (Tz ns fr out a.toNat).imp (fun h=>h) (fun h=>(xu ns fr l _).subset h)
  ·exact ih _ a h
end
end Go.Proofs.YtnjobkbblhaliaaGreatDoor