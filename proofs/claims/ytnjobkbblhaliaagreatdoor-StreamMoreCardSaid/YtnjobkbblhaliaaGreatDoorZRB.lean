/- Texts that the last file stands on: IRA, S2, H1, H2, P1, H3, H4, P2, H5, P3, H6, H7, G1, G2, G3, G4, G5, G6, G7, P10. -/
import Derived.Test.YtnjobkbblhaliaaGreatDoorZRA
import Derived.KernelRfl
set_option linter.unusedSimpArgs false
set_option linter.unusedVariables false
set_option maxRecDepth 100000
namespace Go.Proofs.YtnjobkbblhaliaaGreatDoor
section
open Go Go.W Go.W.Z
def ID:IR:=z [] [0] <| .seq (z [.r (some 4) (.eq .slice false (.t 0) (.c (.slice none 0 0)))] [0,4] <| j 4 (z [.r (some 2) (.mv (.c (.slice none 0 0)))] [2] <| .ret) (.skip)) <| z [.e (some 5) (.raw ⟨(some 5),(.buildSlice 26 0 #[]),26, "slices.go:362",#[],none⟩),m 6 0,.e (some 7) (.ap 3 1 8 #[(i 0)] (.t 5) (.t 6)),m 2 7] [2] <| .ret
theorem Z8:Fits Tryz.prog 39 1 (bb Tryz.f39 ID) ID [.t 2] 8:=.m Tryz.f39 _
def IE:IR:=z [] [0,1] <| z [c 7 102 [0,1],bk 8 .geq 7 0,m 4 8] [4] <| .ret
theorem Z9:Fits Tryz.prog 70 2 (bb Tryz.f70 IE) IE [.t 4] 9:=.m Tryz.f70 _
def P6:IR:=z [bi 9 .lss 8 7] [0,1,7,8,9] <| .seq (j 9 (.skip) ((.exit 0))) <| .seq (.block 1 (z [m 5 8] [0,1,5,7,8] <| z [m 11 1,m 12 0,m 13 5,ia 14 1 12 13,l 15 14,.e (some 16) (.raw ⟨(some 16),(.call { callee:=(.value (.tmp 11)),args:=#[(.tmp 15)],argTypes:=#[3]}),4, "slices.go:109",#[⟨0,.data⟩,⟨4,.data⟩],none⟩)] [0,1,5,7,8,16] <| j 16 (z [m 4 5] [4] <| .ret) (.skip))) <| q [bk 18 .add 8 1,m 8 18] [0,1,7,8]
def IF:IR:=z [] [0,1] <| .seq (z [le 7 0,mk 8 0] [0,1,7,8] <| .block 0 (.loop P6)) <| z [mk 4 (-1)] [4] <| .ret
theorem Z':Fits Tryz.prog 102 2 (bb Tryz.f102 IF) IF [.t 4] 19:=.m Tryz.f102 _
def IG:IR:=z [] [0,1] <| .seq (z [bk 7 .lss 0 1,m' 7 false 9 0,bX 7 false 10 .gtr 9 1048576,u 11 7 10,m' 11 false 13 1,bX 11 false 14 .lss 13 1,u 15 11 14,m' 15 false 17 1,m' 15 false 18 0,eW 15 false 19 .gtr 17 18,u 20 15 19] [0,1,20] <| j 20 (z [.r (some 4) (.mv (.c (.pointer none))),mk 5 210] [4,5] <| .ret) (.skip)) <| z [m 21 0,m 22 1,.e (some 23) (.raw ⟨(some 23),(.makeMap 200 none),200, "gens.go:25",#[],none⟩),.r (some 24) (.bd #[(i 0),(i 0),(.slice none 0 0),(i 0),(.map none),(i 0)] [(0,1,(.t 21)),(1,1,(.t 22)),(4,1,(.t 23))]),.e (some 25) (.bx 202 (.t 24)),m 4 25,mk 5 0] [4,5] <| .ret
theorem aaa:Fits Tryz.prog 107 2 (bb Tryz.f107 IG) IG [.t 4,.t 5] 26:=.m Tryz.f107 _
def IH:IR:=z [] [0] <| .seq (z [bk 5 .lss 0 1,m' 5 false 7 0,bX 5 false 8 .gtr 7 1048576,u 9 5 8] [0,9] <| j 9 (z [.r (some 2) (.mv (.c (.pointer none))),mk 3 200] [2,3] <| .ret) (.skip)) <| z [.r (some 11) (.bd #[(i 0),(.slice none 0 0),(i 0)] [(0,1,(.t 0))]),.e (some 12) (.bx 205 (.t 11)),m 2 12,mk 3 0] [2,3] <| .ret
theorem aab:Fits Tryz.prog 108 1 (bb Tryz.f108 IH) IH [.t 2,.t 3] 13:=.m Tryz.f108 _
def II:IR:=z [.e (some 3) (.bx 104 (.t 1))] [0,3] <| .seq (.block 0 (z [ln 7 3 3,c 8 193 [7],no 9 8,m 6 9] [0,3,6] <| j 6 (z [mk 4 0,mk 5 1] [4,5] <| .ret) (z [f 12 2 3,l 13 12,c 14 194 [0,13],no 15 14,m 10 15] [0,3,10] <| j 10 (z [mk 4 0,mk 5 212] [4,5] <| .ret) (.seq (q' [m 17 0,n 18 17,f 19 2 18,l 20 19,le 21 20,m 22 0,n 23 22,f 24 0 23,l 25 24,bi 26 .geq 21 25,m 16 26] [0,3,16]) <| j 16 (z [mk 4 0,mk 5 211] [4,5] <| .ret) (.skip))))) <| z [f 27 2 3,l 28 27,c 29 39 [28],f 30 2 3,s 1 30 29] [0,3] <| .seq (.dr (r 0 31 (.mv (.t 0)) <| r 1 32 (.mv (.t 0)) <| r 2 33 (.nn (.t 32)) <| r 3 34 (.fa 2 (.t 33)) <| r 4 35 (.l1 (.t 34)) <| r 5 36 (.ln 3 (.t 3)) <| .e 6 none (some 37) (.bs 104 1 #[(i 0),(i 0),(.slice none 0 0)] [(0,3,(.t 36))]) [4] <| .e 7 none (some 38) (.ap 104 3 40 #[(i 0),(i 0),(.slice none 0 0)] (.t 35) (.t 37)) [] <| r 8 39 (.nn (.t 31)) <| r 9 40 (.fa 2 (.t 39)) <| .e 10 none none (.st 1 (.t 40) (.t 38)) [] <| .nil) [0]) <| z [n 42 0,f 43 2 42,l 44 43,le 45 44,bk 46 .sub 45 1,m 4 46,mk 5 0] [4,5] <| .ret
theorem aac:Fits Tryz.prog 186 2 (bb Tryz.f186 II) II [.t 4,.t 5] 47:=.m Tryz.f186 _
def IJ:IR:=z [] [0,1] <| .seq (z [c 8 194 [0,1],no 9 8] [0,1,9] <| j 9 (z [.r (some 4) (.mv (.c (.slice none 0 0))),mk 5 212] [4,5] <| .ret) (.skip)) <| z [c 12 195 [0,1],m 4 12,mk 5 0] [4,5] <| .ret
theorem aad:Fits Tryz.prog 187 2 (bb Tryz.f187 IJ) IJ [.t 4,.t 5] 13:=.m Tryz.f187 _
def IK:IR:=z [.e (some 4) (.al 104 (.agg #[(i 0),(i 0),(.slice none 0 0)]))] [0,1,4] <| .seq (z [.e (some 9) (.bs 3 1 #[(i 0)] [(0,1,(.t 1))]),c 10 194 [0,9],no 11 10] [0,1,4,11] <| j 11 (z [.r (some 12) (.bd #[(i 0),(i 0),(.slice none 0 0)] []),s 3 4 12,mk 5 212] [4,5] <| .ret) (.skip)) <| z [n 14 0,f 15 2 14,l 16 15,ia 18 3 16 1,ln 19 3 18,.e (some 6) (.al 104 (.agg #[(i 0),(i 0),(.slice none 0 0)])),s 3 6 19] [4,6] <| z [f 20 2 6,l 21 20,c 22 39 [21],f 23 2 6,s 1 23 22] [4,6] <| z [ln 24 3 6,s 3 4 24,mk 5 0] [4,5] <| .ret
theorem aae:Fits Tryz.prog 189 2 (bb Tryz.f189 IK) IK [.n 4 3,.t 5] 25:=.m Tryz.f189 _
def IL:IR:=z [] [0,1,2] <| .seq (z [bk 9 .lss 1 0] [0,1,2,9] <| j 9 (z [.r (some 6) (.mv (.c (.slice none 0 0))),mk 7 1] [6,7] <| .ret) (.skip)) <| .seq (z [c 12 194 [0,2],no 13 12] [0,1,2,13] <| j 13 (z [.r (some 6) (.mv (.c (.slice none 0 0))),mk 7 212] [6,7] <| .ret) (.skip)) <| .seq (.seq (q' [m 14 1,m 15 0,n 16 15,f 17 1 16,l 18 17,m 19 0,n 20 19,f 21 2 20,l 22 21,le 23 22,m 24 0,n 25 24,f 26 3 25,l 27 26,bi 28 .sub 23 27,bi 29 .sub 18 28,bi 30 .leq 14 29,m 31 30,m' 31 true 32 1,m' 31 true 33 0,n' 31 true 34 33,f' 31 true 35 0 34,l' 31 true 36 35,m' 31 true 37 0,n' 31 true 38 37,f' 31 true 39 2 38,l' 31 true 40 39,jF 31 true 41 40,eW 31 true 42 .sub 36 41,eW 31 true 43 .leq 32 42,a 44 31 43] [0,1,2,44]) <| j 44 (z [c 46 39 [2],m 6 46,mk 7 0] [6,7] <| .ret) (.skip)) <| z [c 49 196 [0,2],m 2 49] [0,1,2] <| .seq (.seq (q' [m 50 1,m 51 0,n 52 51,f 53 0 52,l 54 53,m 55 0,n 56 55,f 57 2 56,l 58 57,le 59 58,bi 60 .sub 54 59,bi 61 .gtr 50 60] [0,1,2,61]) <| j 61 (q [c 64 195 [0,2],m 2 64] [0,1,2]) (.skip)) <| .seq (.seq (q' [m 65 1,m 66 0,n 67 66,f 68 0 67,l 69 68,m 70 0,n 71 70,f 72 2 71,l 73 72,le 74 73,bi 75 .sub 69 74,bi 76 .gtr 65 75] [2,76]) <| j 76 (z [.r (some 6) (.mv (.c (.slice none 0 0))),mk 7 211] [6,7] <| .ret) (.skip)) <| z [m 6 2,mk 7 0] [6,7] <| .ret
theorem aaf:Fits Tryz.prog 190 3 (bb Tryz.f190 IL) IL [.t 6,.t 7] 78:=.m Tryz.f190 _
def IM:IR:=z [.e (some 3) (.bx 169 (.t 0)),.e (some 5) (.bx 104 (.t 2))] [1,3,5] <| .seq (.block 0 (z [l 8 3,.e (some 10) (.bs 3 1 #[(i 0)] [(0,1,(.t 1))]),c 11 194 [8,10],no 12 11,m 7 12] [1,3,5,7] <| j 7 (z [mk 6 212] [6] <| .ret) (z [ln 14 3 5,c 15 193 [14],no 16 15,m 13 16] [1,3,5,13] <| j 13 (z [mk 6 1] [6] <| .ret) (z [l 18 3,f 19 2 5,l 20 19,c 21 194 [18,20],no 22 21,m 17 22] [1,3,5,17] <| j 17 (z [mk 6 212] [6] <| .ret) (.skip))))) <| z [f 23 2 5,l 24 23,c 25 39 [24],f 26 2 5,s 1 26 25] [1,3,5] <| .seq (q' [l 27 3,n 28 27,f 29 2 28,l 30 29,m 31 1,ln 32 3 5,ia 33 3 30 31,s 3 33 32] [1,3,5]) <| .seq (z [l 35 3,n 36 35,f 37 3 36,l 38 37,bi 39 .lss 1 38] [1,3,5,39] <| j 39 (z [l 40 3,n 41 40,f 42 4 41,l 43 42,m 44 1,.e none (.raw ⟨none,(.call { callee:=(.builtin .delete),args:=#[(.tmp 43),(.tmp 44)],argTypes:=#[200,3]}),0, "gens.go:94",#[⟨3,.data⟩,⟨4,.data⟩],none⟩)] [1,3,5] <| z [f 45 2 5,l 46 45,.r (some 47) (.mf (.func 197) [] [(.t 3)]),c 48 70 [46,47]] [1,3,48] <| j 48 (q [l 49 3,n 50 49,f 51 4 50,l 52 51,m 53 1,.e none (.raw ⟨none,(.mapUpdate 200 (.tmp 52) (.tmp 53) (.const (i 1))),0, "gens.go:96",#[⟨3,.data⟩,⟨4,.data⟩,⟨0,.phase⟩,⟨1,.phase⟩,⟨2,.phase⟩,⟨3,.phase⟩,⟨4,.phase⟩],none⟩)] []) (.skip)) (.skip)) <| z [mk 6 0] [6] <| .ret
theorem aag:Fits Tryz.prog 191 3 (bb Tryz.f191 IM) IM [.t 6] 54:=.m Tryz.f191 _
def IN:IR:=z [] [0] <| z [n 4 0,f 5 2 4,l 6 5,le 7 6,m 2 7] [2] <| .ret
theorem aah:Fits Tryz.prog 192 1 (bb Tryz.f192 IN) IN [.t 2] 8:=.m Tryz.f192 _
def IP:IR:=z [.e (some 1) (.bx 104 (.t 0))] [1] <| z [mk 3 0] [1,3] <| .seq (z [f 4 0 1,l 5 4] [1,3,5] <| .block 0 (z [bk 7 .eql 5 1,m 6 7] [1,3,5,6] <| j 6 (.seq (z [f 8 1 1,l 9 8,bk 10 .lss 9 (-4611686018427387904),f' 10 false 12 1 1,l' 10 false 13 12,bX 10 false 14 .gtr 13 4611686018427387903,u 15 10 14] [1,15] <| j 15 (z [.r (some 2) (.mv (.c (.bool false)))] [2] <| .ret) (.skip)) <| z [f 16 2 1,l 17 16,le 18 17,bk 19 .eql 18 0,m 2 19] [2] <| .ret) (z [bk 21 .eql 5 2,m 20 21] [1,3,5,20] <| j 20 (z [f 22 1 1,l 23 22,bk 24 .geq 23 0,f' 24 true 26 2 1,l' 24 true 27 26,jF 24 true 28 27,bX 24 true 29 .leq 28 8,a 30 24 29,m 2 30] [2] <| .ret) (.seq (z [bk 32 .eql 5 4,m 31 32] [1,3,5,31] <| j 31 (.skip) (q [bk 33 .eql 5 8,m 31 33] [1,3,5,31])) <| j 31 (z [f 34 1 1,l 35 34,bk 36 .geq 35 0,f' 36 true 38 2 1,l' 36 true 39 38,jF 36 true 40 39,bX 36 true 41 .eql 40 0,a 42 36 41,m 2 42] [2] <| .ret) (z [bk 44 .eql 5 3,m 43 44] [1,3,5,43] <| j 43 (q [mk 3 2] [1,3]) (z [bk 46 .eql 5 5,m 45 46] [1,3,5,45] <| j 45 (q [mk 3 1] [1,3]) (.seq (z [bk 48 .eql 5 6,m 47 48] [1,3,5,47] <| j 47 (.skip) (q [bk 49 .eql 5 7,m 47 49] [1,3,47])) <| j 47 (.skip) (z [.r (some 2) (.mv (.c (.bool false)))] [2] <| .ret)))))))) <| z [f 50 1 1,l 51 50,bk 52 .eql 51 0,f' 52 true 54 2 1,l' 52 true 55 54,jF 52 true 56 55,m' 52 true 57 3,eW 52 true 58 .eql 56 57,a 59 52 58,m 2 59] [2] <| .ret
theorem aai:Fits Tryz.prog 193 1 (bb Tryz.f193 IP) IP [.t 2] 60:=.m Tryz.f193 _
def IQ:IR:=z [.e (some 2) (.bx 169 (.t 0))] [1,2] <| z [.r (some 6) (.mf (.func 198) [] [(.t 2)]),c 7 70 [1,6],no 8 7,m 4 8] [4] <| .ret
theorem aaj:Fits Tryz.prog 194 2 (bb Tryz.f194 IQ) IQ [.t 4] 9:=.m Tryz.f194 _
def IS:IR:=z [] [0,1] <| z [n 8 0,f 9 5 8,l 10 9,bk 11 .add 10 1,n 12 0,f 13 5 12,s 1 13 11] [0,1] <| z [m 14 0,m 15 0,c 16 199 [15],.e (some 17) (.raw ⟨(some 17),(.makeMap 200 none),200, "gens.go:221",#[],none⟩),.r (some 18) (.bd #[(.pointer none),(.slice none 0 0),(.map none),(i 0),(.map none),(.slice none 0 0)] [(0,1,(.t 14)),(1,2,(.t 16)),(4,1,(.t 17))]),.e (some 19) (.bx 249 (.t 18)),m 5 19] [0,1,5] <| z [c 22 200 [5,1],m 6 22] [0,5,6] <| z [c 25 201 [5],n 26 0,f 27 2 26,s 1 27 25] [0,6] <| z [n 30 0,f 31 2 30,l 32 31,le 33 32,n 34 0,f 35 3 34,s 1 35 33] [0,6] <| z [m 36 0,n 37 36,f 38 4 37,l 39 38,.e none (.raw ⟨none,(.call { callee:=(.builtin .clear),args:=#[(.tmp 39)],argTypes:=#[200]}),0, "gens.go:225",#[⟨3,.data⟩],none⟩)] [6] <| z [m 4 6] [4] <| .ret
theorem aak:Fits Tryz.prog 195 2 (bb Tryz.f195 IS) IS [.t 4] 41:=.m Tryz.f195 _
def P7:IR:=z [bi 57 .lss 56 55] [0,5,6,9,39,40,41,54,55,56,57] <| .seq (j 57 (.skip) ((.exit 2))) <| .seq (.block 3 (z [ia 59 1 54 56,l 60 59,m 10 56,m 11 60] [0,5,6,9,10,11,39,40,41,54,55,56] <| z [n 63 0,f 64 3 63,l 65 64,bi 66 .geq 11 65] [0,5,6,9,10,11,39,40,41,54,55,56,66] <| j 66 (.dr (r 0 67 (.mv (.t 9)) <| r 1 68 (.nn (.t 67)) <| r 2 69 (.fa 2 (.t 68)) <| r 3 70 (.l1 (.t 69)) <| r 4 71 (.mv (.t 10)) <| r 5 72 (.mv (.t 5)) <| r 6 73 (.mv (.t 11)) <| .e 7 none (some 74) (.call 204 [(.t 72),(.t 73)]) [3] <| r 8 75 (.ia 1 (.t 70) (.t 71)) <| .e 9 none none (.st 1 (.t 75) (.t 74)) [] <| .nil) [0,5,6,9,39,40,41,54,55,56]) (.skip))) <| q [bk 76 .add 56 1,m 56 76] [0,5,6,9,39,40,41,54,55,56]
def P8:IR:=z [bi 42 .lss 41 40] [0,5,6,39,40,41,42] <| .seq (j 42 (.skip) ((.exit 0))) <| .seq (.block 1 (z [ia 43 1 39 41,l 44 43,m 8 44] [0,5,6,8,39,40,41] <| z [n 46 0,f 47 2 46,l 48 47,ia 50 3 48 8,m 9 50] [0,5,6,9,39,40,41] <| z [n 52 9,f 53 2 52,l 54 53,le 55 54,mk 56 0] [0,5,6,9,39,40,41,54,55,56] <| .block 2 (.loop P7))) <| q [bk 77 .add 41 1,m 41 77] [0,5,6,39,40,41]
def P9:IR:=z [.e (some 84) (.raw ⟨(some 84),(.next (.tmp 83) false),0, "gens.go:206",#[],none⟩),ex 85 0 84] [0,5,6,83,85] <| .seq (j 85 (.skip) ((.exit 4))) <| .block 5 (z [.e (some 86) (.raw ⟨(some 86),(.entry (.tmp 83)),0, "gens.go:206",#[],none⟩),ex 87 0 86,m 12 87] [0,5,6,12,83] <| z [n 90 0,f 91 3 90,l 92 91,bi 93 .lss 12 92] [0,5,6,12,83,93] <| j 93 (q [n 95 0,f 96 2 95,l 97 96,ia 99 3 97 12,f 100 2 99,l 101 100,.r (some 103) (.ia 1 (.t 101) (k 0)),s 1 103 12] [0,5,6,83]) (.skip))
def IT:IR:=z [] [0,1] <| z [n 15 0,f 16 5 15,l 17 16,bk 18 .add 17 1,n 19 0,f 20 5 19,s 1 20 18] [0,1] <| .seq (.dr (r 0 21 (.mv (.t 0)) <| r 1 22 (.mv (.t 0)) <| r 3 24 (.mv (.t 0)) <| r 4 25 (.nn (.t 24)) <| r 5 26 (.fa 3 (.t 25)) <| r 6 27 (.l1 (.t 26)) <| .e2 2 (some 23) (.call 199 [(.t 22)]) [6] (.e 7 none (some 28) (.raw ⟨(some 28),(.makeMap 200 none),200, "gens.go:196",#[],none⟩) [6] <| r 8 29 (.bd #[(.pointer none),(.slice none 0 0),(.map none),(i 0),(.map none),(.slice none 0 0)] [(0,1,(.t 21)),(1,2,(.t 23)),(3,1,(.t 27)),(4,1,(.t 28))]) <| .e 9 none (some 30) (.bx 249 (.t 29)) [] <| r 10 5 (.mv (.t 30)) <| .nil) 7 (some 28) (.raw ⟨(some 28),(.makeMap 200 none),200, "gens.go:196",#[],none⟩) [6]
   (.e 2 none (some 23) (.call 199 [(.t 22)]) [6] <| r 8 29 (.bd #[(.pointer none),(.slice none 0 0),(.map none),(i 0),(.map none),(.slice none 0 0)] [(0,1,(.t 21)),(1,2,(.t 23)),(3,1,(.t 27)),(4,1,(.t 28))]) <| .e 9 none (some 30) (.bx 249 (.t 29)) [] <| r 10 5 (.mv (.t 30)) <| .nil)) [0,1,5]) <| z [c 33 200 [5,1],m 6 33] [0,5,6] <| .seq (z [n 35 0,f 36 4 35,l 37 36,c 38 203 [37],c 39 202 [38],le 40 39,mk 41 0] [0,5,6,39,40,41] <| .block 0 (.loop P8)) <| .seq (z [m 78 5,n 79 78,f 80 1 79,f 81 1 80,l 82 81,.e (some 83) (.raw ⟨(some 83),(.range 200 (.tmp 82)),0, "gens.go:206",#[⟨4,.data⟩],none⟩)] [0,5,6,83] <| .block 4 (.loop P9)) <| z [c 105 201 [5],m 13 105] [0,6,13] <| .seq (q' [m 106 0,m 107 0,n 108 107,f 109 2 108,l 110 109,m 111 0,n 112 111,f 113 3 112,l 114 113,m 115 0,n 116 115,f 117 3 116,l 118 117,.r (some 119) (.sl 3 (.t 110) none (some (.t 114)) (some (.t 118))),m 120 13,.e (some 121) (.ap 104 3 40 #[(i 0),(i 0),(.slice none 0 0)] (.t 119) (.t 120)),n 122 106,f 123 2 122,s 1 123 121] [0,6]) <| z [n 126 0,f 127 2 126,l 128 127,le 129 128,n 130 0,f 131 3 130,s 1 131 129] [0,6] <| z [m 132 0,n 133 132,f 134 4 133,l 135 134,.e none (.raw ⟨none,(.call { callee:=(.builtin .clear),args:=#[(.tmp 135)],argTypes:=#[200]}),0, "gens.go:214",#[⟨3,.data⟩],none⟩)] [6] <| z [m 4 6] [4] <| .ret
theorem aal:Fits Tryz.prog 196 2 (bb Tryz.f196 IT) IT [.t 4] 137:=.m Tryz.f196 _
def IU:IR:=z [] [0,1] <| z [l 5 1,n 6 5,f 7 3 6,l 8 7,bi 9 .geq 0 8,m 3 9] [3] <| .ret
theorem aam:Fits Tryz.prog 197 2 (bb Tryz.f197 IU) IU [.t 3] 10:=.m Tryz.f197 _
def IV:IR:=z [] [0,1] <| z [bk 5 .lss 0 0,m' 5 false 7 0,l' 5 false 8 1,n' 5 false 9 8,f' 5 false 10 2 9,l' 5 false 11 10,jF 5 false 12 11,eW 5 false 13 .geq 7 12,u 14 5 13,m 3 14] [3] <| .ret
theorem aan:Fits Tryz.prog 198 2 (bb Tryz.f198 IV) IV [.t 3] 15:=.m Tryz.f198 _
def P':IR:=z [bi 18 .lss 17 16] [0,2,3,16,17,18] <| .seq (j 18 (.skip) ((.exit 0))) <| .seq (.block 1 (z [m 4 17] [0,2,3,4,16,17] <| q [f 20 0 3,l 21 20,ia 23 1 21 4,.e none (.st 1 (.t 23) (k (-1)))] [0,2,3,16,17])) <| q [bk 24 .add 17 1,m 17 24] [0,2,3,16,17]
def Qa:IR:=z [bi 31 .lss 30 29] [0,2,3,29,30,31] <| .seq (j 31 (.skip) ((.exit 2))) <| .seq (.block 3 (z [m 5 30] [0,2,3,5,29,30] <| q [ln 35 2 3,c 36 205 [0,5,35]] [0,2,3,29,30])) <| q [bk 37 .add 30 1,m 30 37] [0,2,3,29,30]
def IW:IR:=z [.e (some 2) (.al 246 (.agg #[(.slice none 0 0),(.map none)]))] [0,2] <| z [m 6 0,n 7 6,f 8 2 7,l 9 8,le 10 9,.e (some 11) (.ms 3 1 8 #[(i 0)] (.t 10) (.t 10)),.e (some 12) (.raw ⟨(some 12),(.makeMap 200 none),200, "gens.go:110",#[],none⟩),.r (some 13) (.bd #[(.slice none 0 0),(.map none)] [(0,1,(.t 11)),(1,1,(.t 12))]),.e (some 3) (.al 246 (.agg #[(.slice none 0 0),(.map none)])),s 2 3 13] [0,2,3] <| .seq (z [f 14 0 3,l 15 14,le 16 15,mk 17 0] [0,2,3,16,17] <| .block 0 (.loop P')) <| .seq (z [n 26 0,f 27 2 26,l 28 27,le 29 28,mk 30 0] [0,2,3,29,30] <| .block 2 (.loop Qa)) <| z [ln 38 2 3,s 2 2 38] [2] <| .ret
theorem aao:Fits Tryz.prog 199 1 (bb Tryz.f199 IW) IW [.n 2 2] 39:=.m Tryz.f199 _
def Qb:IR:=z [bi 11 .lss 10 9] [0,5,8,9,10,11] <| .seq (j 11 (.skip) ((.exit 0))) <| .seq (.block 1 (z [ia 12 1 8 10,l 13 12,m 7 13] [0,5,7,8,9,10] <| q [c 17 204 [0,7],.e (some 18) (.bs 3 1 #[(i 0)] [(0,1,(.t 17))]),.e (some 19) (.ap 3 1 8 #[(i 0)] (.t 5) (.t 18)),m 5 19] [0,5,8,9,10])) <| q [bk 20 .add 10 1,m 10 20] [0,5,8,9,10]
def IX:IR:=z [] [0,1] <| z [.r (some 5) (.mv (.c (.slice none 0 0)))] [0,1,5] <| .seq (z [m 8 1,le 9 8,mk 10 0] [0,5,8,9,10] <| .block 0 (.loop Qb)) <| z [m 4 5] [4] <| .ret
theorem aap:Fits Tryz.prog 200 2 (bb Tryz.f200 IX) IX [.t 4] 22:=.m Tryz.f200 _
def Qc:IR:=.seq (z [n 8 0,f 9 5 8,l 10 9,le 11 10,bi 12 .lss 4 11] [0,3,4,12] <| j 12 (.skip) ((.exit 0))) <| .seq (.block 1 (.seq (.dr (r 0 15 (.mv (.t 0)) <| r 1 16 (.nn (.t 15)) <| r 2 17 (.fa 0 (.t 16)) <| r 3 18 (.l1 (.t 17)) <| r 4 19 (.nn (.t 18)) <| r 5 20 (.fa 2 (.t 19)) <| r 6 21 (.l1 (.t 20)) <| r 7 22 (.mv (.t 0)) <| r 8 23 (.nn (.t 22)) <| r 9 24 (.fa 5 (.t 23)) <| r 10 25 (.l1 (.t 24)) <| r 11 26 (.mv (.t 4)) <| r 12 27 (.ia 1 (.t 25) (.t 26)) <| r 13 28 (.l1 (.t 27)) <| r 14 29 (.ia 3 (.t 21) (.t 28)) <| r 15 30 (.ln 3 (.t 29)) <| .e 16 none (some 5) (.al 104 (.agg #[(i 0),(i 0),(.slice none 0 0)])) [3,6,10,13,15] <| .e 17 none none (.st 3 (.t 5) (.t 30)) [] <| .nil) [0,3,4,5]) <| z [f 32 2 5,l 33 32,c 34 200 [0,33],f 35 2 5,s 1 35 34] [0,3,4,5] <| q [ln 37 3 5,.e (some 38) (.bs 104 1 #[(i 0),(i 0),(.slice none 0 0)] [(0,3,(.t 37))]),.e (some 39) (.ap 104 3 40 #[(i 0),(i 0),(.slice none 0 0)] (.t 3) (.t 38)),m 3 39] [0,3,4])) <| q [bk 14 .add 4 1,m 4 14] [0,3,4]
def IY:IR:=z [] [0] <| z [.r (some 3) (.mv (.c (.slice none 0 0)))] [0,3] <| .seq (z [mk 4 0] [0,3,4] <| .block 0 (.loop Qc)) <| z [m 2 3] [2] <| .ret
theorem aaq:Fits Tryz.prog 201 1 (bb Tryz.f201 IY) IY [.t 2] 41:=.m Tryz.f201 _
def IZ:IR:=z [] [0,1] <| z [n 9 0,f 10 1 9,f 11 0 10,l 12 11,ia 14 1 12 1,l 15 14,m 5 15] [0,5] <| .seq (z [n 18 0,f 19 3 18,l 20 19,bi 21 .lss 5 20] [0,5,21] <| j 21 (z [m 4 5] [4] <| .ret) (.skip)) <| z [m 24 0,n 25 24,f 26 4 25,l 27 26,m 28 5,.e (some 29) (.raw ⟨(some 29),(.lookup 200 (.tmp 27) (.tmp 28) true),87, "gens.go:164",#[⟨3,.data⟩,⟨4,.data⟩],none⟩),m 23 29,ex 30 0 23,ex 31 1 23,m 6 30,m 7 31] [0,5,6,7] <| .seq (z [no 33 7] [0,5,6,33] <| j 33 (.seq (q' [m 34 0,n 35 34,f 36 3 35,l 37 36,m 38 0,n 39 38,f 40 5 39,l 41 40,le 42 41,bi 43 .add 37 42,m 6 43] [0,5,6]) <| z [m 44 0,n 45 44,f 46 4 45,l 47 46,m 48 5,m 49 6,.e none (.raw ⟨none,(.mapUpdate 200 (.tmp 47) (.tmp 48) (.tmp 49)),0, "gens.go:167",#[⟨3,.data⟩,⟨4,.data⟩,⟨5,.data⟩,⟨0,.phase⟩,⟨1,.phase⟩,⟨2,.phase⟩,⟨3,.phase⟩,⟨4,.phase⟩,⟨5,.phase⟩],none⟩)] [0,5,6] <| q [n 52 0,f 53 5 52,l 54 53,.e (some 56) (.bs 3 1 #[(i 0)] [(0,1,(.t 5))]),.e (some 57) (.ap 3 1 8 #[(i 0)] (.t 54) (.t 56)),n 58 0,f 59 5 58,s 1 59 57] [6]) (.skip)) <| z [m 4 6] [4] <| .ret
theorem aar:Fits Tryz.prog 204 2 (bb Tryz.f204 IZ) IZ [.t 4] 61:=.m Tryz.f204 _
def Qd:IR:=.seq (z [f 13 0 5,l 14 13,ia 16 1 14 1,l 17 16,bk 18 .lss 17 0] [0,1,5,6,7,18] <| j 18 (.skip) ((.exit 0))) <| .block 1 (.seq (z [n 20 0,f 21 2 20,l 22 21,ia 24 3 22 1,f 25 0 24,l 26 25,bk 27 .neq 26 5] [0,1,5,6,7,27] <| j 27 (z [f 28 0 5,l 29 28,ia 32 1 29 1,s 1 32 1] [1,5,7] <| (.exit 0)) (.skip)) <| .seq (z [m 34 6,m 35 1,.e (some 36) (.raw ⟨(some 36),(.lookup 200 (.tmp 34) (.tmp 35) true),87, "gens.go:129",#[⟨0,.data⟩,⟨1,.data⟩],none⟩),m 33 36,ex 37 0 33,ex 38 1 33,m 8 37,m 9 38] [0,1,5,6,7,8,9] <| z [m 39 9] [0,1,5,6,7,8,39] <| j 39 (z [.r (some 43) (.sl 1 (.t 7) (some (.t 8)) none none),c 44 209 [0,43],m 1 44] [1,5,7] <| z [f 45 1 5,l 46 45,m 47 1,.e none (.raw ⟨none,(.mapUpdate 200 (.tmp 46) (.tmp 47) (.const (i 1))),0, "gens.go:131",#[⟨1,.data⟩,⟨2,.data⟩,⟨0,.phase⟩,⟨1,.phase⟩,⟨2,.phase⟩],none⟩)] [1,5,7] <| z [f 48 0 5,l 49 48,ia 52 1 49 1,s 1 52 1] [1,5,7] <| (.exit 0)) (.skip)) <| z [m 53 6,m 54 1,m 55 7,le 56 55,.e none (.raw ⟨none,(.mapUpdate 200 (.tmp 53) (.tmp 54) (.tmp 56)),0, "gens.go:135",#[⟨0,.data⟩,⟨1,.data⟩,⟨3,.data⟩,⟨0,.phase⟩,⟨1,.phase⟩,⟨2,.phase⟩,⟨3,.phase⟩],none⟩)] [0,1,5,6,7] <| z [.e (some 59) (.bs 3 1 #[(i 0)] [(0,1,(.t 1))]),.e (some 60) (.ap 3 1 8 #[(i 0)] (.t 7) (.t 59)),m 7 60] [0,1,5,6,7] <| q [n 62 0,f 63 2 62,l 64 63,ia 66 3 64 1,f 67 2 66,l 68 67,.r (some 69) (.ia 1 (.t 68) (k 0)),l 70 69,m 1 70] [0,1,5,6,7])
def Qe:IR:=z [bi 74 .lss 73 72] [1,5,71,72,73,74] <| .seq (j 74 (.skip) ((.exit 2))) <| .seq (.block 3 (z [ia 75 1 71 73,l 76 75,m 11 76] [1,5,11,71,72,73] <| q' [f 77 0 5,l 78 77,m 79 11,f 80 0 5,l 81 80,m 82 1,ia 83 1 81 82,l 84 83,ia 85 1 78 79,s 1 85 84] [1,5,71,72,73])) <| q [bk 86 .add 73 1,m 73 86] [1,5,71,72,73]
def I0:IR:=z [.e (some 5) (.bx 246 (.t 2))] [0,1,5] <| z [.e (some 12) (.raw ⟨(some 12),(.makeMap 200 none),200, "gens.go:122",#[],none⟩),m 6 12] [0,1,5,6] <| z [.r (some 7) (.mv (.c (.slice none 0 0)))] [0,1,5,6,7] <| .seq (.block 0 (.loop Qd)) <| z [m 71 7,le 72 71,mk 73 0] [1,5,71,72,73] <| .block 2 (.loop Qe)
theorem aas:Fits Tryz.prog 205 3 (bb Tryz.f205 I0) I0 [] 87:=.m Tryz.f205 _
def I1:IR:=z [] [1] <| z [c 6 213 [1],m 4 6] [4] <| .ret
theorem aat:Fits Tryz.prog 209 2 (bb Tryz.f209 I1) I1 [.t 4] 7:=.m Tryz.f209 _
def Qf:IR:=.seq (z [le 14 0,bi 15 .lss 4 14] [0,3,4,15] <| j 15 (.skip) ((.exit 0))) <| .seq (.block 1 (q [ia 21 1 0 4,l 22 21,.r (some 23) (.mm false (.t 3) (.t 22)),m 3 23] [0,3,4])) <| q [bk 17 .add 4 1,m 4 17] [0,3,4]
def I3:IR:=z [] [0] <| .seq (z [le 6 0,bk 7 .lss 6 1] [0,7] <| j 7 (q [.r (some 8) (.mi 9 (.c (.string ⟨#[115,108,105,99,101,115,46,77,105,110,58,32,101,109,112,116,121,32,108,105,115,116]⟩))),.e none (.raw ⟨none,(.panic (.tmp 8)),0, "sort.go:67",#[⟨0,.data⟩],none⟩)] [0]) (.skip)) <| z [.r (some 10) (.ia 1 (.t 0) (k 0)),l 11 10,m 3 11] [0,3] <| .seq (z [mk 4 1] [0,3,4] <| .block 0 (.loop Qf)) <| z [m 2 3] [2] <| .ret
theorem aau:Fits Tryz.prog 213 1 (bb Tryz.f213 I3) I3 [.t 2] 25:=.m Tryz.f213 _
def I4:IR:=z [.e (some 3) (.bx 104 (.t 1))] [0,3] <| .seq (.block 0 (z [ln 7 3 3,c 8 238 [7],no 9 8,m 6 9] [0,3,6] <| j 6 (z [mk 4 0,mk 5 1] [4,5] <| .ret) (z [f 12 2 3,l 13 12,c 14 239 [0,13],no 15 14,m 10 15] [0,3,10] <| j 10 (z [mk 4 0,mk 5 202] [4,5] <| .ret) (.seq (q' [m 17 0,n 18 17,f 19 1 18,l 20 19,le 21 20,m 22 0,n 23 22,f 24 0 23,l 25 24,bi 26 .eql 21 25,m 16 26] [0,3,16]) <| j 16 (z [mk 4 0,mk 5 201] [4,5] <| .ret) (.skip))))) <| .seq (.dr (r 0 27 (.mv (.t 0)) <| r 1 28 (.mv (.t 0)) <| r 2 29 (.nn (.t 28)) <| r 3 30 (.fa 1 (.t 29)) <| r 4 31 (.l1 (.t 30)) <| r 5 32 (.ln 3 (.t 3)) <| .e 6 none (some 33) (.call 240 [(.t 32)]) [4] <| .e 7 none (some 34) (.bs 277 1 #[(i 0),(i 0),(.slice none 0 0)] [(0,3,(.t 33))]) [4] <| .e 8 none (some 35) (.ap 277 3 40 #[(i 0),(i 0),(.slice none 0 0)] (.t 31) (.t 34)) [] <| r 9 36 (.nn (.t 27)) <| r 10 37 (.fa 1 (.t 36)) <| .e 11 none none (.st 1 (.t 37) (.t 35)) [] <| .nil) [0]) <| z [n 39 0,f 40 1 39,l 41 40,le 42 41,bk 43 .sub 42 1,m 4 43,mk 5 0] [4,5] <| .ret
theorem aav:Fits Tryz.prog 231 2 (bb Tryz.f231 I4) I4 [.t 4,.t 5] 44:=.m Tryz.f231 _
def Qg:IR:=z [bi 42 .lss 41 40] [0,6,7,39,40,41,42] <| .seq (j 42 (.skip) ((.exit 0))) <| .seq (.block 1 (z [ia 44 1 39 41,l 45 44,m 8 41,m 9 45] [0,6,7,8,9,39,40,41] <| q [c 50 241 [6,9],ia 51 1 7 8,s 1 51 50] [0,6,7,39,40,41])) <| q [bk 52 .add 41 1,m 41 52] [0,6,7,39,40,41]
def Qh:IR:=z [bi 72 .lss 71 70] [0,6,7,10,69,70,71,72] <| .seq (j 72 (.skip) ((.exit 4))) <| .seq (.block 5 (z [ia 74 1 69 71,l 75 74,m 11 71,m 12 75] [0,6,7,10,11,12,69,70,71] <| z [c 78 241 [6,12],m 13 78] [0,6,7,10,11,13,69,70,71] <| q [n 80 6,f 81 1 80,l 82 81,ia 84 3 82 10,f 85 2 84,l 86 85,ia 89 1 86 11,s 1 89 13] [0,6,7,10,69,70,71])) <| q [bk 90 .add 71 1,m 71 90] [0,6,7,10,69,70,71]
def Qi:IR:=.seq (z [n 55 6,f 56 1 55,l 57 56,le 58 57,bi 59 .lss 10 58] [0,6,7,10,59] <| j 59 (.skip) ((.exit 2))) <| .seq (.block 3 (z [n 63 6,f 64 1 63,l 65 64,ia 67 3 65 10,f 68 2 67,l 69 68,le 70 69,mk 71 0] [0,6,7,10,69,70,71] <| .block 4 (.loop Qh))) <| q [bk 61 .add 10 1,m 10 61] [0,6,7,10]
def I5:IR:=z [] [0,1] <| .seq (z [c 16 239 [0,1],no 17 16] [0,1,17] <| j 17 (z [.r (some 4) (.mv (.c (.slice none 0 0))),mk 5 202] [4,5] <| .ret) (.skip)) <| .seq (.dr (r 0 18 (.mv (.t 0)) <| r 1 19 (.nn (.t 18)) <| r 2 20 (.fa 1 (.t 19)) <| r 3 21 (.l1 (.t 20)) <| r 4 22 (.mv (.t 0)) <| r 5 23 (.nn (.t 22)) <| r 6 24 (.fa 1 (.t 23)) <| r 7 25 (.l1 (.t 24)) <| r 8 26 (.len (.t 25)) <| r 10 28 (.mv (.t 0)) <| r 11 29 (.nn (.t 28)) <| r 12 30 (.fa 1 (.t 29)) <| r 13 31 (.l1 (.t 30)) <| r 14 32 (.len (.t 31)) <| .e2 9 (some 27) (.ms 3 1 8 #[(i 0)] (.t 26) (.t 26)) [3,13] (.e 15 none (some 33) (.ms 3 1 8 #[(i 0)] (.t 32) (.t 32)) [3,7] <| r 16 34 (.bd #[(.slice none 0 0),(.slice none 0 0),(.slice none 0 0),(.slice none 0 0),(.slice none 0 0)] [(0,1,(.t 21)),(2,1,(.t 27)),(3,1,(.t 33))]) <| .e 17 none (some 35) (.bx 281 (.t 34)) [] <| r 18 6 (.mv (.t 35)) <| .nil) 15 (some 33) (.ms 3 1 8 #[(i 0)] (.t 32) (.t 32)) [3,7]
   (.e 9 none (some 27) (.ms 3 1 8 #[(i 0)] (.t 26) (.t 26)) [3,13] <| r 16 34 (.bd #[(.slice none 0 0),(.slice none 0 0),(.slice none 0 0),(.slice none 0 0),(.slice none 0 0)] [(0,1,(.t 21)),(2,1,(.t 27)),(3,1,(.t 33))]) <| .e 17 none (some 35) (.bx 281 (.t 34)) [] <| r 18 6 (.mv (.t 35)) <| .nil)) [0,1,6]) <| z [le 37 1,.e (some 38) (.ms 3 1 8 #[(i 0)] (.t 37) (.t 37)),m 7 38] [0,1,6,7] <| .seq (z [m 39 1,le 40 39,mk 41 0] [0,6,7,39,40,41] <| .block 0 (.loop Qg)) <| .seq (z [mk 10 0] [0,6,7,10] <| .block 2 (.loop Qi)) <| z [n 93 6,f 94 1 93,l 95 94,n 96 0,f 97 1 96,s 1 97 95] [0,7] <| z [n 99 0,f 100 2 99,l 101 100,bk 102 .add 101 1,n 103 0,f 104 2 103,s 1 104 102] [7] <| z [m 4 7,mk 5 0] [4,5] <| .ret
theorem aaw:Fits Tryz.prog 232 2 (bb Tryz.f232 I5) I5 [.t 4,.t 5] 106:=.m Tryz.f232 _
def I6:IR:=z [.e (some 4) (.al 104 (.agg #[(i 0),(i 0),(.slice none 0 0)]))] [0,1,4] <| .seq (z [.e (some 9) (.bs 3 1 #[(i 0)] [(0,1,(.t 1))]),c 10 239 [0,9],no 11 10] [0,1,4,11] <| j 11 (z [.r (some 12) (.bd #[(i 0),(i 0),(.slice none 0 0)] []),s 3 4 12,mk 5 202] [4,5] <| .ret) (.skip)) <| z [n 14 0,f 15 1 14,l 16 15,ia 18 3 16 1,ln 19 3 18,.e (some 6) (.al 277 (.agg #[(i 0),(i 0),(.slice none 0 0)])),s 3 6 19] [4,6] <| .seq (.dr (r 0 20 (.fa 0 (.t 6)) <| r 1 21 (.fa 0 (.t 20)) <| r 2 22 (.l1 (.t 21)) <| r 3 23 (.fa 0 (.t 6)) <| r 4 24 (.fa 1 (.t 23)) <| r 5 25 (.l1 (.t 24)) <| r 6 26 (.fa 2 (.t 6)) <| r 7 27 (.l1 (.t 26)) <| .e 8 none (some 28) (.call 242 [(.t 27)]) [2,5] <| r 9 29 (.bd #[(i 0),(i 0),(.slice none 0 0)] [(0,1,(.t 22)),(1,1,(.t 25)),(2,1,(.t 28))]) <| .e 10 none none (.st 3 (.t 4) (.t 29)) [] <| r 11 5 (.mv (k 0)) <| .nil) [4,5]) <| .ret
theorem aax:Fits Tryz.prog 234 2 (bb Tryz.f234 I6) I6 [.n 4 3,.t 5] 30:=.m Tryz.f234 _
def I7:IR:=z [] [0,1,2] <| .seq (.block 0 (z [bk 10 .lss 1 0,m 8 10] [0,1,2,8] <| j 8 (z [.r (some 6) (.mv (.c (.slice none 0 0))),mk 7 1] [6,7] <| .ret) (z [c 14 239 [0,2],no 15 14,m 11 15] [0,1,2,11] <| j 11 (z [.r (some 6) (.mv (.c (.slice none 0 0))),mk 7 202] [6,7] <| .ret) (.seq (q' [m 17 1,m 18 0,n 19 18,f 20 0 19,l 21 20,m 22 0,n 23 22,f 24 1 23,l 25 24,le 26 25,bi 27 .sub 21 26,bi 28 .leq 17 27,m 16 28] [0,1,2,16]) <| j 16 (z [c 30 242 [2],m 6 30,mk 7 0] [6,7] <| .ret) (.skip))))) <| z [c 34 232 [0,2],ex 35 0 34,ex 36 1 34,m 2 35] [0,1,2] <| .seq (.seq (q' [m 37 1,m 38 0,n 39 38,f 40 0 39,l 41 40,m 42 0,n 43 42,f 44 1 43,l 45 44,le 46 45,bi 47 .sub 41 46,bi 48 .gtr 37 47] [2,48]) <| j 48 (z [.r (some 6) (.mv (.c (.slice none 0 0))),mk 7 201] [6,7] <| .ret) (.skip)) <| z [m 6 2,mk 7 0] [6,7] <| .ret
theorem aay:Fits Tryz.prog 235 3 (bb Tryz.f235 I7) I7 [.t 6,.t 7] 50:=.m Tryz.f235 _
def I8:IR:=z [.e (some 5) (.bx 104 (.t 2))] [0,1,5] <| .seq (.block 0 (z [.e (some 10) (.bs 3 1 #[(i 0)] [(0,1,(.t 1))]),c 11 239 [0,10],no 12 11,m 7 12] [0,1,5,7] <| j 7 (z [mk 6 202] [6] <| .ret) (z [ln 14 3 5,c 15 238 [14],no 16 15,m 13 16] [0,1,5,13] <| j 13 (z [mk 6 1] [6] <| .ret) (z [f 19 2 5,l 20 19,c 21 239 [0,20],no 22 21,m 17 22] [0,1,5,17] <| j 17 (z [mk 6 202] [6] <| .ret) (.skip))))) <| .seq (.seq (q' [f 23 2 5,l 24 23,le 25 24,bk 26 .eql 25 0,m 27 26,m' 27 true 28 0,n' 27 true 29 28,f' 27 true 30 1 29,l' 27 true 31 30,m' 27 true 32 1,mU 27 true 33 3 31 32,f' 27 true 34 0 33,xA 27 true 35 2 34,f' 27 true 36 0 5,l' 27 true 37 36,f' 27 true 38 1 5,l' 27 true 39 38,.gr 27 true (some 40) (.bd #[(i 0),(i 0)] [(0,1,(.t 37)),(1,1,(.t 39))]),.gr 27 true (some 41) (.oK false [(0,.int),(1,.int)] (.t 35) (.t 40)),a 42 27 41,m 43 42,m' 43 true 44 0,n' 43 true 45 44,f' 43 true 46 1 45,l' 43 true 47 46,m' 43 true 48 1,mU 43 true 49 3 47 48,f' 43 true 50 2 49,l' 43 true 51 50,jF 43 true 52 51,bX 43 true 53 .eql 52 0,a 54 43 53] [0,1,5,54]) <| j 54 (z [mk 6 0] [6] <| .ret) (.skip)) <| .seq (.dr (r 0 55 (.mv (.t 0)) <| r 1 56 (.nn (.t 55)) <| r 2 57 (.fa 1 (.t 56)) <| r 3 58 (.l1 (.t 57)) <| r 4 59 (.mv (.t 1)) <| r 5 60 (.ln 3 (.t 5)) <| .e 6 none (some 61) (.call 240 [(.t 60)]) [3] <| r 7 62 (.ia 3 (.t 58) (.t 59)) <| .e 8 none none (.st 3 (.t 62) (.t 61)) [] <| .nil) []) <| z [mk 6 0] [6] <| .ret
theorem aaz:Fits Tryz.prog 236 3 (bb Tryz.f236 I8) I8 [.t 6] 63:=.m Tryz.f236 _
def I9:IR:=z [] [0] <| z [n 4 0,f 5 1 4,l 6 5,le 7 6,m 2 7] [2] <| .ret
theorem aaA:Fits Tryz.prog 237 1 (bb Tryz.f237 I9) I9 [.t 2] 8:=.m Tryz.f237 _
def I':IR:=z [.e (some 1) (.bx 104 (.t 0))] [1] <| z [f 4 2 1,l 5 4,le 6 5,m 3 6] [1,3] <| .seq (z [f 7 0 1,l 8 7] [1,3,8] <| .block 0 (z [bk 10 .eql 8 1,m 9 10] [1,3,8,9] <| j 9 (z [bk 12 .eql 3 0,f' 12 true 14 1 1,l' 12 true 15 14,bX 12 true 16 .geq 15 (-4611686018427387904),a 17 12 16,f' 17 true 19 1 1,l' 17 true 20 19,bX 17 true 21 .leq 20 4611686018427387903,a 22 17 21,m 2 22] [2] <| .ret) (z [bk 24 .eql 8 2,m 23 24] [1,3,8,23] <| j 23 (z [bk 26 .leq 3 8,f' 26 true 28 1 1,l' 26 true 29 28,bX 26 true 30 .geq 29 0,a 31 26 30,m 2 31] [2] <| .ret) (z [bk 33 .eql 8 3,m 32 33] [1,3,8,32] <| j 32 (z [bk 35 .eql 3 2,f' 35 true 37 1 1,l' 35 true 38 37,bX 35 true 39 .eql 38 0,a 40 35 39,m 2 40] [2] <| .ret) (.seq (z [bk 42 .eql 8 4,m 41 42] [1,3,8,41] <| j 41 (.skip) (q [bk 43 .eql 8 8,m 41 43] [1,3,8,41])) <| j 41 (z [bk 45 .eql 3 0,f' 45 true 47 1 1,l' 45 true 48 47,bX 45 true 49 .geq 48 0,a 50 45 49,m 2 50] [2] <| .ret) (z [bk 52 .eql 8 5,m 51 52] [1,3,8,51] <| j 51 (z [bk 54 .eql 3 1,f' 54 true 56 1 1,l' 54 true 57 56,bX 54 true 58 .eql 57 0,a 59 54 58,m 2 59] [2] <| .ret) (.seq (z [bk 61 .eql 8 6,m 60 61] [1,3,8,60] <| j 60 (.skip) (q [bk 62 .eql 8 7,m 60 62] [1,3,60])) <| j 60 (z [bk 64 .eql 3 0,f' 64 true 66 1 1,l' 64 true 67 66,bX 64 true 68 .eql 67 0,a 69 64 68,m 2 69] [2] <| .ret) (.skip)))))))) <| z [.r (some 2) (.mv (.c (.bool false)))] [2] <| .ret
theorem aaB:Fits Tryz.prog 238 1 (bb Tryz.f238 I') I' [.t 2] 70:=.m Tryz.f238 _
def Qj:IR:=z [bi 10 .lss 9 8] [0,7,8,9,10] <| .seq (j 10 (.skip) ((.exit 0))) <| .seq (.block 1 (z [ia 11 1 7 9,l 12 11,m 6 12] [0,6,7,8,9] <| z [bk 14 .lss 6 0,m' 14 false 16 6,m' 14 false 17 0,n' 14 false 18 17,f' 14 false 19 1 18,l' 14 false 20 19,jF 14 false 21 20,eW 14 false 22 .geq 16 21,u 23 14 22] [0,7,8,9,23] <| j 23 (z [.r (some 4) (.mv (.c (.bool false)))] [4] <| .ret) (.skip))) <| q [bk 24 .add 9 1,m 9 24] [0,7,8,9]
def Ja:IR:=z [] [0,1] <| .seq (z [m 7 1,le 8 7,mk 9 0] [0,7,8,9] <| .block 0 (.loop Qj)) <| z [.r (some 4) (.mv (.c (.bool true)))] [4] <| .ret
theorem aaC:Fits Tryz.prog 239 2 (bb Tryz.f239 Ja) Ja [.t 4] 25:=.m Tryz.f239 _
def Jb:IR:=z [.e (some 1) (.bx 104 (.t 0)),.e (some 2) (.al 277 (.agg #[(i 0),(i 0),(.slice none 0 0)]))] [1,2] <| .seq (.dr (r 0 3 (.fa 0 (.t 1)) <| r 1 4 (.l1 (.t 3)) <| r 2 5 (.fa 1 (.t 1)) <| r 3 6 (.l1 (.t 5)) <| r 4 7 (.bd #[(i 0),(i 0)] [(0,1,(.t 4)),(1,1,(.t 6))]) <| r 5 8 (.fa 2 (.t 1)) <| r 6 9 (.l1 (.t 8)) <| .e 7 none (some 10) (.call 242 [(.t 9)]) [1,3] <| r 8 11 (.bd #[(i 0),(i 0),(.slice none 0 0)] [(0,2,(.t 7)),(2,1,(.t 10))]) <| .e 9 none none (.st 3 (.t 2) (.t 11)) [] <| .nil) [2]) <| .ret
theorem aaD:Fits Tryz.prog 240 1 (bb Tryz.f240 Jb) Jb [.n 2 3] 12:=.m Tryz.f240 _
def Jc:IR:=z [] [0,1] <| z [c 7 243 [0,1],m 1 7] [0,1] <| .seq (z [n 9 0,f 10 3 9,l 11 10,ia 13 1 11 1,l 14 13,bk 15 .eql 14 0] [0,1,15] <| j 15 (.seq (.dr (r 0 16 (.mv (.t 0)) <| r 1 17 (.mv (.t 0)) <| r 2 18 (.nn (.t 17)) <| r 3 19 (.fa 1 (.t 18)) <| r 4 20 (.l1 (.t 19)) <| r 5 21 (.mv (.t 0)) <| r 6 22 (.nn (.t 21)) <| r 7 23 (.fa 0 (.t 22)) <| r 8 24 (.l1 (.t 23)) <| r 9 25 (.mv (.t 1)) <| r 10 26 (.ia 3 (.t 24) (.t 25)) <| r 11 27 (.fa 0 (.t 26)) <| r 12 28 (.ln 2 (.t 27)) <| r 13 29 (.mv (.t 0)) <| r 14 30 (.nn (.t 29)) <| r 15 31 (.fa 0 (.t 30)) <| r 16 32 (.l1 (.t 31)) <| r 17 33 (.mv (.t 1)) <| r 18 34 (.ia 3 (.t 32) (.t 33)) <| r 19 35 (.fa 2 (.t 34)) <| r 20 36 (.l1 (.t 35)) <| .e 21 none (some 37) (.call 242 [(.t 36)]) [4,8,12] <| r 22 38 (.bd #[(i 0),(i 0),(.slice none 0 0)] [(0,2,(.t 28)),(2,1,(.t 37))]) <| .e 23 none (some 39) (.bs 277 1 #[(i 0),(i 0),(.slice none 0 0)] [(0,3,(.t 38))]) [4] <| .e 24 none (some 40) (.ap 277 3 40 #[(i 0),(i 0),(.slice none 0 0)] (.t 20) (.t 39)) [] <| r 25 41 (.nn (.t 16)) <| r 26 42 (.fa 1 (.t 41)) <| .e 27 none none (.st 1 (.t 42) (.t 40)) [] <| .nil) [0,1]) <| q' [m 43 0,n 44 43,f 45 3 44,l 46 45,m 47 1,m 48 0,n 49 48,f 50 1 49,l 51 50,le 52 51,ia 53 1 46 47,s 1 53 52] [0,1]) (.skip)) <| z [n 55 0,f 56 3 55,l 57 56,ia 59 1 57 1,l 60 59,bk 61 .sub 60 1,m 4 61] [4] <| .ret
theorem aaE:Fits Tryz.prog 241 2 (bb Tryz.f241 Jc) Jc [.t 4] 62:=.m Tryz.f241 _
def Jd:IR:=z [] [0] <| z [le 5 0,.e (some 6) (.ms 3 1 8 #[(i 0)] (.t 5) (.t 5)),m 3 6] [0,3] <| z [.e (some 9) (.cp 1 (.t 3) (.t 0))] [3] <| z [m 2 3] [2] <| .ret
theorem aaF:Fits Tryz.prog 242 1 (bb Tryz.f242 Jd) Jd [.t 2] 11:=.m Tryz.f242 _
def Qk:IR:=.seq (z [n 17 0,f 18 2 17,l 19 18,ia 21 1 19 1,l 22 21,bk 23 .eql 22 0,m' 23 true 25 0,n' 23 true 26 25,f' 23 true 27 0 26,l' 23 true 28 27,m' 23 true 29 1,mU 23 true 30 3 28 29,f' 23 true 31 0 30,f' 23 true 32 0 31,l' 23 true 33 32,bX 23 true 34 .eql 33 5,a 35 23 34] [0,1,35] <| j 35 (.skip) ((.exit 0))) <| .block 1 (z [n 37 0,f 38 2 37,l 39 38,ia 41 1 39 1,.e none (.st 1 (.t 41) (k (-1)))] [0,1] <| z [n 44 0,f 45 4 44,l 46 45,.e (some 48) (.bs 3 1 #[(i 0)] [(0,1,(.t 1))]),.e (some 49) (.ap 3 1 8 #[(i 0)] (.t 46) (.t 48)),n 50 0,f 51 4 50,s 1 51 49] [0,1] <| q [n 53 0,f 54 0 53,l 55 54,ia 57 3 55 1,f 58 2 57,l 59 58,.r (some 60) (.ia 1 (.t 59) (k 0)),l 61 60,m 1 61] [0,1])
def Ql:IR:=z [bi 93 .lss 92 91] [0,5,90,91,92,93] <| .seq (j 93 (.skip) ((.exit 2))) <| .seq (.block 3 (z [ia 94 1 90 92,l 95 94,m 7 95] [0,5,7,90,91,92] <| q [n 97 0,f 98 2 97,l 99 98,bk 102 .add 5 1,ia 103 1 99 7,s 1 103 102] [0,5,90,91,92])) <| q [bk 104 .add 92 1,m 92 104] [0,5,90,91,92]
def Je:IR:=z [] [0,1] <| z [n 10 0,f 11 4 10,l 12 11,.r (some 13) (.sl 1 (.t 12) none (some (k 0)) none),n 14 0,f 15 4 14,s 1 15 13] [0,1] <| .seq (.block 0 (.loop Qk)) <| z [m 5 1] [0,1,5] <| .seq (z [n 64 0,f 65 2 64,l 66 65,ia 68 1 66 1,l 69 68,bk 70 .gtr 69 0] [0,1,5,70] <| j 70 (q [n 72 0,f 73 2 72,l 74 73,ia 76 1 74 1,l 77 76,bk 78 .sub 77 1,m 5 78] [0,1,5]) (.skip)) <| z [n 80 0,f 81 2 80,l 82 81,bk 85 .add 5 1,ia 86 1 82 1,s 1 86 85] [0,5] <| .seq (z [n 88 0,f 89 4 88,l 90 89,le 91 90,mk 92 0] [0,5,90,91,92] <| .block 2 (.loop Ql)) <| z [m 4 5] [4] <| .ret
theorem aaG:Fits Tryz.prog 243 2 (bb Tryz.f243 Je) Je [.t 4] 106:=.m Tryz.f243 _
end
section
open Go Go.W Go.RowKit Go.Maps Go.Sort Go.Shelf Go.ChangeMaps Go.MapKept
open Go.WideElems (Fit rd rg)
theorem aaH (m:Nat):AnyZI.SortsIn Tryz.prog Tryz.PU Fence.wide m:=
 ⟨fun iC off cap ss W hH aaI dy=>callsIn_wide.2 (AnyM.slices_Sort_int Tryz.PV iC off cap ss W hH aaI dy),
  fun p cap W=>callsIn_wide.2 (AnyM.slices_Sort_int_none Tryz.PV p cap W)⟩
theorem aaJ (w:World) (mb:Option Nat):aD Tryz.prog 203 [.map mb] w fun v w'=>v = .func (.func 208) #[] #[.pointer (some ⟨w.heap.size,0,none⟩)]∧w'=w.alloc (.cells #[.map mb] 200):=by
 have:=callsIn_wide.1 (AnyZI.keys_in Tryz.PT Fence.wide 5 trivial rfl mb w);exact this.mono (fun e w' ⟨h1,h2⟩=>⟨_,h1,rfl,h2⟩)
def R0 {H:Type}:Value→Option (DataW H×List MemPlace):=fun _=>some (.nil,[])
theorem Qm {k:Int} (h : -9223372036854775808≤k∧k≤9223372036854775807):keyOf Tryz.prog 3 (I k)=some (.int .i64 k):=by
 have h1:IntKind.i64.min = -9223372036854775808:=rfl;have h2:IntKind.i64.max=9223372036854775807:=rfl;have h3:(Lit.int .i64 k).wf=true:=by simp only [Lit.wf,Bool.and_eq_true,decide_eq_true_eq];omega
 simp [keyOf,Tryz.underlying3,mapKey,I,h3]
theorem aaK {w:World} {b:Nat} {l:List (Int×Int)} (h:gi w b l) (hn:(l.map (·.1)).Nodup) (hk:∀ p∈l,-9223372036854775808≤p.1∧p.1≤9223372036854775807) (hl:l.length≤1048576) :
   ∃ D0:DataW Unit,w.ownsMap Tryz.prog 3 R0 b l.length D0∧Maps.size D0=l.length∧(intKeys D0).Perm (l.map (·.1)):=by
 obtain ⟨es,clock,h1,h2,h3,h4⟩:=h;have dy:es.size=l.length:=by have:=congrArg List.length h2;simpa using this
 have cr:∀ x∈es.toList,∃ p∈l,x.key=I p.1∧x.val=I p.2:=by
  intro x U;obtain ⟨i,hi,rfl⟩:=List.getElem_of_mem U;have eK:i < l.length:=by
   have:es.toList.length=es.size:=by simp
   omega
  have:=congrArg (fun z=>z[i]?) h2;simp only [List.getElem?_map,List.getElem?_eq_getElem hi,List.getElem?_eq_getElem eK,Option.map_some,Option.some.injEq,Prod.mk.injEq] at this;exact ⟨_,List.getElem_mem eK,this.1,this.2⟩
 have qI:∀ x∈es.toList,∃ p∈l,x.key=I p.1∧rd (H:=Unit) Tryz.prog 3 R0 x=some (.int .i64 p.1,.nil):=by
  intro x U;obtain ⟨p,hp,e1,e2⟩:=cr x U;exact ⟨p,hp,e1,by simp [WideElems.rd,e1,Qm (hk p hp),R0]⟩
 have aaL:es.toList.map (·.key)=(l.map (·.1)).map I:=by
  have:=congrArg (List.map Prod.fst) h2
  simpa [List.map_map,Function.comp_def] using this
 have Qn:es.toList.map (rg (H:=Unit) Tryz.prog 3 R0)=l.map (fun p=>(Lit.int .i64 p.1,DataW.nil)):=by
  apply List.ext_getElem?;intro i;have:=congrArg (fun z=>z[i]?) h2;simp only [List.getElem?_map] at this ⊢;cases U:es.toList[i]? with
  | none=>
   rw [U] at this;cases hp:l[i]? with
   | none=>rfl
   | some p=>rw [hp] at this;simp at this
  | some x=>
   rw [U] at this;cases hp:l[i]? with
   | none=>rw [hp] at this;simp at this
   | some p=>
    rw [hp] at this;simp only [Option.map_some,Option.some.injEq,Prod.mk.injEq] at this;simp [WideElems.rg,WideElems.rd,this.1,Qm (hk p (List.mem_of_getElem? hp)),R0]
 refine ⟨_,⟨es,clock,h1,⟨?_,⟨h3,h4,?_⟩,fun x U=>?_⟩,Nat.le_of_eq dy,rfl⟩,?_,?_⟩
 ·have:maxLen=9223372036854775807:=by decide
  omega
 ·rw [aaL];refine List.Pairwise.map _ ?_ hn;intro a b gO hh;exact gO (by simpa [I] using hh)
 ·obtain ⟨p,_,_,h5⟩:=qI x U;exact ⟨_,h5⟩
 ·rw [Qn];have:=(Go.WideShapes.sorted_perm (l.map (fun p=>((Lit.int .i64 p.1,DataW.nil):Lit×DataW Unit)))).length_eq
  simpa [Maps.size] using this
 ·rw [Qn];have:=(Go.WideShapes.sorted_perm (l.map (fun p=>((Lit.int .i64 p.1,DataW.nil):Lit×DataW Unit)))).map (fun p=>Go.intOf p.1)
  simpa [intKeys,List.map_map,Function.comp_def,Go.intOf] using this
def vi (l:List (Int×Int)):List Int:=(l.map (·.1)).mergeSort (fun x y=>decide (x≤y))
theorem aaM (w:World) (Bm b:Nat) (l:List (Int×Int)) (zD:w.heap[Bm]? = some (.cells #[.map (some b)] 200 (0,0))) (h:gi w b l) (hn:(l.map (·.1)).Nodup) (hk:∀ p∈l,-9223372036854775808≤p.1∧p.1≤9223372036854775807) (hl:l.length≤1048576) :
   aD Tryz.prog 202 [.func (.func 208) #[] #[.pointer (some ⟨Bm,0,none⟩)]] w fun v w'=>Mod (fun _=>False) w w'∧∃ fp,ax w' 3 1 v ((vi l).map I) (vi l).length fp∧∀ x,fp=some x→w.heap.size≤x:=by
 obtain ⟨D0,Jf,dy,aaN⟩:=aaK h hn hk hl;have ah:Bm < w.heap.size:=lt_of_heap zD;have fP:w.cell? ⟨Bm,0,none⟩=some (.map (some b)):=by rw [cell_of zD];rfl
 have oS:SeqGives Fence.wide 2 Tryz.prog 208 #[.pointer (some ⟨Bm,0,none⟩)] encZ (fun ss=>ss.Perm (intKeys D0)) (Maps.size D0) w:=
  AnyZI.keys_gives (ρ:=Tryz.PS) { Tryz.PT with} Fence.wide _ trivial rfl (by omega) Bm b l.length D0 w ah fP Jf
 have aaO:Maps.size D0≤maxLen:=by
  have:maxLen=9223372036854775807:=by decide
  omega
 have cS:=AnyZI.sorted_in Tryz.ZB Fence.wide 5 trivial trivial trivial trivial rfl (by omega) (aaH _) (enters_of Tryz.func207 (by kernel_rfl) rfl) 208 #[.pointer (some ⟨Bm,0,none⟩)] trivial (enters_of Tryz.func208 (by kernel_rfl) rfl) _ _ aaO (by omega) _ oS;refine (callsIn_wide.1 cS).mono ?_;rintro e w' ⟨v,ss,rfl,hS,gg,anB,hb⟩;have hm:Mod (fun _=>False) w w':=⟨hb.size,fun i hi _=>hb.block i hi,hb.os,hb.tape,hb.output⟩;have D4:ss.mergeSort (fun x y=>decide (x≤y))=vi l:=mergeSort_of_perm_i (hS.trans aaN);have hlen:ss.length=(vi l).length:=by rw [← D4,List.length_mergeSort]
 rw [D4,hlen] at gg;have aaP:((vi l).map encZ:List Value)=(vi l).map I:=rfl;rw [aaP] at gg;obtain ⟨h1,h2⟩:=gg;rcases h2 with ⟨rfl,h2⟩ | ⟨g,cap,cur,rfl,hg,hh,r1,r2,r3,r4⟩
 ·exact ⟨_,rfl,hm,none,⟨h1,.inl ⟨rfl,h2,rfl⟩⟩,fun x U=>by cases U⟩
 ·refine ⟨_,rfl,hm,some g,⟨h1,.inr ⟨g,cap,cur.toList.drop ((vi l).length*1),rfl,rfl,?_,?_,r1⟩⟩,fun x U=>by cases U;exact hg⟩
  ·rw [← r4,List.take_append_drop];exact hh
  ·rw [← r4,List.take_append_drop];simpa using Nat.le_of_eq r3.symm
end
section
open Go Go.W
structure Nd where
 kind:Int
 num:Int
 args:List Int
def gP (k n:Int) (a:Nat):Bool:=
 decide ((k=1∧a=0 ∧ -4611686018427387904≤n∧n≤4611686018427387903)∨(k=2∧a≤8∧0≤n)∨(k=3∧a=2∧n=0)∨((k=4∨k=8)∧a=0∧0≤n) ∨
  (k=5∧a=1∧n=0)∨((k=6∨k=7)∧a=0∧n=0))
def Nd.may (n:Nd):Bool:=gP n.kind n.num n.args.length
def bK (len:Nat) (l:List Int):Bool:=l.all fun x=>decide (0≤x)&&decide (x < len)
def nc (p:Nd×Value):List Value:=[I p.1.kind,I p.1.num,p.2]
def flat (ps:List (Nd×Value)):List Value:=ps.flatMap nc
theorem mg (ps:List (Nd×Value)):(flat ps).length=ps.length*3:=by
 induction ps with
 | nil=>rfl
 | cons p ps ih=>simp only [flat,List.flatMap_cons,List.length_append] at *;simp only [nc,List.length_cons,List.length_nil] at *;omega
theorem vj (ps qs:List (Nd×Value)):flat (ps++qs)=flat ps++flat qs:=by simp [flat]
theorem Et (ps:List (Nd×Value)) (i:Nat) (h:i < ps.length):((flat ps).drop (i*3)).take 3=nc ps[i]:=by
 have h1:ps=ps.take i++ps[i]::ps.drop (i+1):=by simp
 have h2:flat ps=flat (ps.take i)++(nc ps[i]++flat (ps.drop (i+1))):=by
  conv=>lhs;rw [h1]
  rw [vj];rfl
 have h3:(flat (ps.take i)).length=i*3:=by rw [mg];simp;omega
 rw [h2,← h3,List.drop_left];exact List.take_left' rfl
theorem aaQ (ps:List (Nd×Value)) (i k:Nat) (h:i < ps.length) (hk:k < 3):(flat ps)[i*3+k]? = (nc ps[i])[k]?:=by
 rw [← Et ps i h,List.getElem?_take,if_pos hk,List.getElem?_drop]
theorem Qo (ps:List (Nd×Value)) (i:Nat) (q:Nd×Value) (h:i < ps.length) (cN:List Value) :
   sp (flat ps++cN).toArray (i*3) (nc q)=(flat (ps.set i q)++cN).toArray:=by
 have h1:ps=ps.take i++ps[i]::ps.drop (i+1):=by simp
 have h2:flat ps=flat (ps.take i)++(nc ps[i]++flat (ps.drop (i+1))):=by
  conv=>lhs;rw [h1]
  rw [vj];rfl
 have h3:(flat (ps.take i)).length=i*3:=by rw [mg];simp;omega
 have h4:flat (ps.set i q)=flat (ps.take i)++(nc q++flat (ps.drop (i+1))):=by
  rw [List.set_eq_take_append_cons_drop,if_pos h,vj];rfl
 unfold sp;rw [h2,h4]
 congr 1
 simp only [List.append_assoc];rw [← h3,List.take_left]
 congr 2
 have h5:(flat (ps.take i)++(nc ps[i]++(flat (ps.drop (i+1))++cN))).drop ((flat (ps.take i)).length+(nc q).length)=flat (ps.drop (i+1))++cN:=by
  rw [← List.drop_drop,List.drop_left];exact List.drop_left' rfl
 exact h5
def kQ (w:World) (ps:List (Nd×Value)) (F:Nat→Prop):Prop:=
 ∀ p∈ps,∃ fp,ax w 3 1 p.2 (p.1.args.map I) p.1.args.length fp∧∀ b,fp=some b→F b
theorem kQ.mod {w w':World} {ps:List (Nd×Value)} {F S:Nat→Prop} (h:kQ w ps F) (hm:Mod S w w') (hd:∀ b,F b→¬ S b):kQ w' ps F:=by
 intro p hp;obtain ⟨fp,h1,h2⟩:=h p hp;exact ⟨fp,h1.mod hm (fun b hb=>hd b (h2 b hb)),h2⟩
theorem kQ.aB {w:World} {ps:List (Nd×Value)} {F F':Nat→Prop} (h:kQ w ps F) (hf:∀ b,F b→F' b):kQ w ps F':=by
 intro p hp;obtain ⟨fp,h1,h2⟩:=h p hp;exact ⟨fp,h1,fun b hb=>hf b (h2 b hb)⟩
theorem Qp (k n:Int) (v:Value) (xs:List Int) (w:World) (U:Ints w v xs) :
   aD Tryz.prog 238 [.agg #[I k,I n,v]] w fun r w'=>r = .bool (gP k n xs.length)∧Mod (fun _=>False) w w':=by
 obtain ⟨a,c,rfl,hl,_⟩:=U;refine aaB.calls rfl ?_;unfold I';refine σ ?_;refine b8 rfl ?_;intro w1 hb hm _;have ah:=lt_of_heap hb;simp only [go_sem,simprocAttr,cell_of hb]
 repeat' (first | (refine aX rfl (fun h=>?_) (fun h=>?_)<;>simp only [go_sem,simprocAttr,cell_of hb,h]) | (refine tG rfl (fun h=>?_) (fun h=>?_)<;>simp only [go_sem,simprocAttr,cell_of hb,h]))
 all_goals (refine ⟨?_,hm⟩;congr 1;rw [Bool.eq_iff_iff];unfold gP;simp only [aK,aL,aM,ak,aN] at *;omega)
def aaR (w w':World) (r:Value) (xs:List Int):Prop:=
 ∃ b,r = .slice (some ⟨b,0,none⟩) xs.length xs.length∧w'.heap[b]? = some (.cells (xs.map I).toArray 3 (0,0))∧w.heap.size≤b∧Mod (fun _=>False) w w'
theorem Eu (v:Value) (xs:List Int) (w:World) (U:Ints w v xs) :
   aD Tryz.prog 242 [v] w fun r w'=>aaR w w' r xs:=by
 have pR:=U;obtain ⟨a,c,rfl,hl,_⟩:=U;refine aaF.calls rfl ?_;unfold Jd;refine σ ?_;refine sb (n:=xs.length) rfl (by omega) (by omega) ?_;intro w1 aq ag cL;obtain ⟨_,hr,hn⟩:=(pR.mod ag (fun _ _ h=>h)).rd;refine σ ?_;refine Zx (cs:=List.replicate xs.length (I 0)) rfl rfl hn (Nat.le_refl _) hr (oQ xs) aq (by simp) ?_;intro w2 an ae dh;refine σ ?_;exact ⟨_,rfl,by simpa using an,Nat.le_refl _,ag.step ae (fun i hi ah=>by omega)⟩
def Qq (w:World) (a:Nat) (n:Nat):Prop:=∃ T sz ba c BG,w.heap[a]? = some (.cells #[sz,.slice ba n c,BG] T (0,0))
theorem zE (a n:Nat) (l:Value) (xs:List Int) (w:World) (ha:Qq w a n) (U:Ints w l xs) :
   aD Tryz.prog 239 [.pointer (some ⟨a,0,none⟩),l] w fun v w'=>v = .bool (bK n xs)∧w=w':=by
 obtain ⟨T,sz,ba,c,BG,ha⟩:=ha;obtain ⟨la,lc,rfl,hl,U⟩:=U;refine aaC.calls rfl ?_;unfold Ja;refine σ ?_
 refine dz (fun m ρ w'=>∃ k:Nat,m=xs.length - k∧k≤xs.length∧w'=w∧bK n (xs.take k)=true ∧
  ρ=[(0,.pointer (some ⟨a,0,none⟩)),(7,.slice la xs.length lc),(8,.int .i64 xs.length),(9,.int .i64 k)]) xs.length ⟨0,rfl,by omega,rfl,by simp [bK],rfl⟩ ?_
 rintro m ρ _ ⟨k,rfl,hk,rfl,cA,rfl⟩;unfold Qj;refine σ ?_;refine aX rfl (fun h=>?_) (fun h=>?_)
 ·have ah:k < xs.length:=by simpa using h
  obtain ⟨ad,rfl,hc⟩:=U k ah;have c1:(0:Int)≤k∧(k:Int) < xs.length:=by omega
  simp only [go_sem,simprocAttr,c1,hc,and_self,Int.toNat_natCast,Nat.mul_one];refine tG rfl (fun hg=>?_) (fun hg=>?_)
  ·simp only [go_sem,simprocAttr,hg];rw [bK,List.all_eq_false.2 ⟨xs[k],List.getElem_mem _,by simp at hg;simp;omega⟩]
  ·simp only [go_sem,simprocAttr,hg,cell_of ha];refine aX rfl (fun h2=>?_) (fun h2=>?_)
   ·refine σ ?_;rw [bK,List.all_eq_false.2 ⟨xs[k],List.getElem_mem _,by simp at h2;simp;omega⟩]
   ·have hw:IntKind.i64.wrap ((k:Int)+1)=((k+1:Nat):Int):=by rw [bU]<;>omega
    simp only [go_sem,simprocAttr,hw];refine ⟨_,?_,k+1,rfl,ah,?_,rfl⟩
    ·omega
    ·unfold bK at cA ⊢;rw [List.take_succ_eq_append_getElem ah,List.all_append,cA];simp at hg h2;simp;omega
 ·have dS:k=xs.length:=by simp at h;omega
  subst dS;refine σ ?_;rw [List.take_length] at cA;rw [cA]
theorem Qr (k n:Int) (v:Value) (xs:List Int) (w:World) (il:Ints w v xs) :
   aD Tryz.prog 240 [.agg #[I k,I n,v]] w fun r w'=>∃ b,r = .agg #[I k,I n,.slice (some ⟨b,0,none⟩) xs.length xs.length] ∧
    w'.heap[b]? = some (.cells (xs.map I).toArray 3 (0,0))∧w.heap.size≤b∧Mod (fun _=>False) w w':=by
 have U:=il;obtain ⟨a,c,rfl,hl,_⟩:=il;refine aaD.calls rfl ?_;unfold Jb;refine σ ?_;refine b8 rfl ?_;intro w1 aq ag cL;refine σ ?_;refine de ?_;intro w2 an ae dh;have gQ:=ae.at aq (fun h=>h);simp only [go_sem,simprocAttr,cell_of gQ];have im:Ints w2.drew (.slice a xs.length c) xs:=(U.mod (ag.trans ae.drew) (fun _ _ h=>h));refine δ (by rfl) (Eu _ xs _ im) ?_;rintro r w3 ⟨b,rfl,aE,hge,ab⟩;have ab:=ab.dj;have ah:=lt_of_heap gQ;refine σ ?_;refine ⟨ab.old _ ah (fun h=>h),?_⟩;have gG:=ab.at an (fun h=>h);have hge:w2.heap.size≤b:=hge;refine cu rfl rfl gG rfl rfl (by simp [Value.oneCell']) ?_;intro w4 aJ aj eA;have gv:=lt_of_heap an;simp only [go_sem,simprocAttr,dK aJ (off:=0) (n:=3) (by simp)];exact ⟨b,rfl,aj.at aE (by omega),by omega,((ag.trans ae).trans ab).step aj (fun i hi ah=>by omega)⟩
theorem kQ.xu {w w':World} {ps:List (Nd×Value)} {F S:Nat→Prop} (h:kQ w ps F) (hm:Mod S w w') (hs:∀ b cs fz,S b→w.heap[b]? = some (.cells cs 3 fz)→False):kQ w' ps F:=by
 intro p hp;obtain ⟨fp,h1,h2⟩:=h p hp;exact ⟨fp,h1.xu hm hs,h2⟩
theorem kQ.app {w:World} {ps qs:List (Nd×Value)} {F:Nat→Prop} (h:kQ w ps F) (k:kQ w qs F):kQ w (ps++qs) F:=by
 intro p hp;rcases List.mem_append.1 hp with hp | hp
 ·exact h p hp
 ·exact k p hp
def jU (Ta Tc:Nat) (w:World) (a:Nat) (size times:Int) (ns:List Nd) (F:Nat→Prop):Prop:=
 ∃ cv dT ps,w.heap[a]? = some (.cells #[I size,cv,I times] Ta (0,0))∧F a∧ax w Tc 3 cv (flat ps) ns.length dT∧(∀ b,dT=some b→F b)∧kQ w ps F∧ps.map Prod.fst=ns∧(∀ b,F b→b < w.heap.size)
theorem jU.mod {Ta Tc:Nat} {w w':World} {a:Nat} {size times:Int} {ns:List Nd} {F S:Nat→Prop} (h:jU Ta Tc w a size times ns F) (hm:Mod S w w') (hd:∀ b,F b→¬ S b) :
   jU Ta Tc w' a size times ns F:=by
 obtain ⟨cv,dT,ps,h1,h2,h3,h4,h5,h6,h7⟩:=h;exact ⟨cv,dT,ps,hm.at h1 (hd a h2),h2,h3.mod hm (fun b hb=>hd b (h4 b hb)),h4,h5.mod hm hd,h6,fun b hb=>Nat.lt_of_lt_of_le (h7 b hb) hm.size⟩
def Grow (F F':Nat→Prop) (w w':World):Prop:=Mod F w w'∧∀ b,F' b→F b∨w.heap.size≤b
theorem jU.has {Ta Tc:Nat} {w:World} {a:Nat} {size times:Int} {ns:List Nd} {F:Nat→Prop} (h:jU Ta Tc w a size times ns F):Qq w a ns.length:=by
 obtain ⟨cv,dT,ps,h1,h2,h3,h4,h5,h6,h7⟩:=h;obtain ⟨x,c,rfl,_⟩:=h3.val;exact ⟨Ta,_,x,c,_,h1⟩
theorem aaS (a:Nat) (size times:Int) (ns:List Nd) (F:Nat→Prop) (w:World) (h:jU 205 277 w a size times ns F) :
   aD Tryz.prog 237 [.pointer (some ⟨a,0,none⟩)] w fun r w'=>r=I ns.length∧w=w':=by
 obtain ⟨T,sz,x,c,BG,h1⟩:=h.has;refine aaA.calls rfl ?_;unfold I9;simp only [go_sem,simprocAttr,cell_of h1]
theorem aaT (size:Int) (w:World) :
   aD Tryz.prog 108 [I size] w fun r w'=>(1≤size∧size≤1048576→r = .tuple #[.pointer (some ⟨w.heap.size,0,none⟩),I 0]∧jU 205 277 w' w.heap.size size 0 [] (· = w.heap.size)∧Mod (fun _=>False) w w'∧w'.heap.size=w.heap.size+1) ∧
    (¬ (1≤size∧size≤1048576)→r = .tuple #[.pointer none,I 200]∧w=w'):=by
 refine aab.calls rfl ?_;unfold IH;refine σ ?_;refine tG rfl (fun h=>?_) (fun h=>?_)
 ·simp only [go_sem,simprocAttr,h];have h':size < 1:=by simpa using h
  exact ⟨fun hh=>by omega,fun _=>trivial⟩
 ·simp only [go_sem,simprocAttr,h];have h':¬ size < 1:=by simpa using h
  refine aX rfl (fun h2=>?_) (fun h2=>?_)
  ·refine σ ?_;have qK:size > 1048576:=by simpa using h2
   exact ⟨fun hh=>by omega,fun _=>trivial⟩
  ·refine σ ?_;have qK:¬ size > 1048576:=by simpa using h2
   refine b8 rfl ?_;intro w1 aq ag cL;refine σ ?_;refine ⟨fun _=>⟨⟨_,none,[],aq,rfl,ax.nil w1 277 3,(fun b h=>by cases h),(fun p hp=>by cases hp),rfl,(fun b hb=>by omega)⟩,ag,cL⟩,fun hh=>by omega⟩
def oU (size:Int) (ns:List Nd) (nd:Nd):Int×Int×List Nd:=
 if nd.may=false then (0,1,ns) else if bK ns.length nd.args=false then (0,202,ns) else if (ns.length:Int)=size then (0,201,ns) else (ns.length,0,ns++[nd])
def aaU (Ta Tc:Nat) (a:Nat) (size times:Int) (F:Nat→Prop) (w:World) (s:Int×Int×List Nd) (r:Value) (w':World):Prop:=
 r = .tuple #[I s.1,I s.2.1]∧∃ F',jU Ta Tc w' a size times s.2.2 F'∧Grow F F' w w'
theorem Ev (p:Nd×Value):flat [p]=nc p:=by simp [flat]
theorem aaV (a:Nat) (size times:Int) (ns:List Nd) (nd:Nd) (v:Value) (F:Nat→Prop) (w:World) (h:jU 205 277 w a size times ns F) (hle:(ns.length:Int)≤size) (dy:size≤1048576) (il:Ints w v nd.args) :
   aD Tryz.prog 231 [.pointer (some ⟨a,0,none⟩),.agg #[I nd.kind,I nd.num,v]] w (aaU 205 277 a size times F w (oU size ns nd)):=by
 have U:=il;obtain ⟨va,vc,rfl,hl,_⟩:=il;refine aav.calls rfl ?_;unfold I4;refine σ ?_;refine b8 rfl ?_;intro w1 aq ag cL;have h1:=h.mod ag (fun _ _ h=>h);have hU:=U.mod ag (fun _ _ h=>h);have hd:cB w1 3 (.pointer (some ⟨w.heap.size,0,none⟩))=some (.agg #[I nd.kind,I nd.num,.slice va nd.args.length vc]):=dK aq (off:=0) (n:=3) (by simp);have same:∀ w2,Mod (fun _=>False) w1 w2→∃ F',jU 205 277 w2 a size times ns F'∧Grow F F' w w2:=fun w2 ae=>
  ⟨F,h1.mod ae (fun _ _ h=>h),(ag.trans ae).aB (fun _ h=>h.elim),fun b hb=>.inl hb⟩
 simp only [go_sem,simprocAttr,hd];refine δ (by rfl) (Qp nd.kind nd.num _ nd.args w1 hU) ?_;rintro r w2 ⟨rfl,ae⟩;have an:=ae.at aq (fun h=>h);refine σ ?_;refine aX rfl (fun hc=>?_) (fun hc=>?_)
 ·refine σ ?_;have bE:nd.may=false:=by simpa [Nd.may] using hc
  exact ⟨by simp [oU,bE],by simpa [oU,bE] using same w2 ae⟩
 have dk:nd.may=true:=by simpa [Nd.may] using hc
 have im:=hU.mod ae (fun _ _ h=>h);have h2:=h1.mod ae (fun _ _ h=>h);simp only [go_sem,simprocAttr,cell_of an];refine δ (by rfl) (zE a ns.length _ nd.args w2 h2.has im) ?_;rintro r _ ⟨rfl,rfl⟩;refine σ ?_;refine aX rfl (fun hc=>?_) (fun hc=>?_)
 ·refine σ ?_;have bE:bK ns.length nd.args=false:=by simpa using hc
  exact ⟨by simp [oU,bE,dk],by simpa [oU,bE,dk] using same w2 ae⟩
 have cy:bK ns.length nd.args=true:=by simpa using hc
 obtain ⟨cv,dT,ps,g1,g2,g3,g4,g5,g6,g7⟩:=h2;obtain ⟨ca,cc,rfl,fo,vl⟩:=g3.val;simp only [go_sem,simprocAttr,cell_of g1];refine aX rfl (fun hc=>?_) (fun hc=>?_)
 ·refine σ ?_;have bE:(ns.length:Int)=size:=by simpa using hc
  exact ⟨by simp [oU,bE,dk,cy],by simpa [oU,bE,dk,cy] using same w2.drew ae.drew⟩
 have eh:¬ (ns.length:Int)=size:=by simpa using hc
 have DZ:cB w2.drew.drew 3 (.pointer (some ⟨w.heap.size,0,none⟩))=some (.agg #[I nd.kind,I nd.num,.slice va nd.args.length vc]):=dK (w:=w2.drew.drew) an (off:=0) (n:=3) (by simp);simp only [go_sem,simprocAttr,cell_of g1,DZ];refine δ (by rfl) (Qr nd.kind nd.num _ nd.args w2.drew.drew im) ?_;rintro r w3 ⟨b3,rfl,aE,BH,ab⟩;have ab:Mod (fun _=>False) w2 w3:=ab.dj.dj;have BH:w2.heap.size≤b3:=BH;have ga:=ab.at g1 (fun h=>h);have gc:=g3.mod ab (fun _ _ h=>h);refine σ ?_;refine ⟨ab.old _ (lt_of_heap g1) (fun h=>h),?_⟩;refine dL (by rfl) (by refine σ ?_;rfl) ?_;intro w4 aJ aj eA;refine σ ?_;refine ⟨aj.old _ (lt_of_heap ga) (fun h=>h),?_⟩;have BI:=aj.at ga (fun h=>h);have tK:=gc.mod aj (fun _ _ h=>h);have xB:=aj.at aE (fun h=>h);refine gN (m:=1) (news:=nc (nd,.slice (some ⟨b3,0,none⟩) nd.args.length nd.args.length)) rfl tK rfl (fun h=>by cases h) (jR aJ) (by simp [nc,Value.oneCell']) rfl (by omega) (by omega) ?_;intro v5 w5 iF iG ay vn;have bq:dT≠some a:=jk tK BI (by omega);have Ew:=ay.at BI bq;have aaW:dT≠some b3:=jk tK xB (by omega);have Ex:=ay.at xB aaW;obtain ⟨pS,pU,rfl,_⟩:=iG.val;refine σ ?_;refine bL (off:=1) rfl rfl Ew rfl (by simp) ?_;intro w6 cO aH mV;have hw:IntKind.i64.wrap (((ns.length+1:Nat):Int) - 1)=ns.length:=by rw [bU]<;>omega
 simp only [go_sem,simprocAttr,cell_of cO,hw];have la:=lt_of_heap g1;have cA:Mod F w w6:=(((((ag.aB (fun _ h=>h.elim)).step ae (fun _ h _=>h.elim)).step ab (fun _ h _=>h.elim)).step aj (fun _ h _=>h.elim)).step ay (fun i h _=>g4 i h)).step aH (fun i h _=>h ▸ g2);have BJ:oU size ns nd=((ns.length:Int),0,ns++[nd]):=by simp [oU,dk,cy,eh]
 refine ⟨by rw [BJ],fun b=>F b∨b=b3∨iF=some b,?_,cA,?_⟩
 ·rw [BJ];have hn5:iF≠some a:=jk iG Ew (by omega);refine ⟨_,iF,ps++[(nd,.slice (some ⟨b3,0,none⟩) nd.args.length nd.args.length)],cO,.inl g2,?_,fun b hb=>.inr (.inr hb),?_,?_,?_⟩
  ·rw [vj,Ev]
   simpa using iG.mod aH (fun b hb hh=>hn5 (by rw [hb,hh]))
  ·have e1:=((g5.xu (ab.trans aj) (fun _ _ _ h _=>h)).xu ay (fun b cs fz hb hc=>hP tK hb hc (by omega))).xu aH (fun b cs fz hb hc=>mc Ew (hb ▸ hc) (by omega));refine (e1.aB (fun b hb=>.inl hb)).app ?_;intro p hp;simp only [List.mem_cons,List.not_mem_nil,or_false] at hp;subst hp;refine ⟨some b3,ax.jQ (aH.at Ex (fun hh=>mc Ex (hh ▸ Ew) (by omega))) (by simp),fun b hb=>.inr (.inl (by cases hb;rfl))⟩
  ·simp [g6]
  ·intro b hb;have:=ab.size;have:=aj.size;have:=ay.size;have:=aH.size;have:=lt_of_heap aE;rcases hb with hb | hb | hb
   ·have:=g7 b hb;omega
   ·omega
   ·have:=iG.lt hb;omega
 ·intro b hb;have:=ag.size;have:=ae.size;have:=ab.size;have:=aj.size;rcases hb with hb | hb | hb
  ·exact .inl hb
  ·exact .inr (by omega)
  ·rcases vn b hb with hh | hh
   ·exact .inl (g4 b hh)
   ·exact .inr (by omega)
end
section
open Go Go.W
theorem Ey {w:World} {b T:Nat} {xs:List Int} (h:w.heap[b]? = some (.cells (xs.map I).toArray T (0,0))) (hl:xs.length≤17592186044416) :
   Ints w (.slice (some ⟨b,0,none⟩) xs.length xs.length) xs:=by
 refine ⟨some ⟨b,0,none⟩,xs.length,rfl,hl,fun i hi=>⟨_,rfl,?_⟩⟩;rw [c8,cell_of h];simp [hi]
theorem BK (n:Nat) (x:Int):bK n [x]=decide (0≤x∧x < n):=by
 simp [bK]
def xC (w w':World) (v:Value) (xs:List Int):Prop:=∃ fp,ax w' 3 1 v (xs.map I) xs.length fp∧∀ b,fp=some b→w.heap.size≤b
def aaX (w:World) (ns:List Nd) (at':Int) (r:Value) (w':World):Prop:=
 Mod (fun _=>False) w w'∧(∀ i nd,at'=(i:Nat)→ns[i]? = some nd→∃ v,r = .tuple #[.agg #[I nd.kind,I nd.num,v],I 0]∧xC w w' v nd.args) ∧
  (¬ (0≤at'∧at' < ns.length)→r = .tuple #[.agg #[I 0,I 0,.slice none 0 0],I 202])
theorem aaY {w:World} {b T:Nat} {ps:List (Nd×Value)} {cN:List Value} (h:w.heap[b]? = some (.cells (flat ps++cN).toArray T (0,0))) {i:Nat} (hi:i < ps.length) :
   cB w 3 (.pointer (some ⟨b,i*3,none⟩))=some (.agg #[I ps[i].1.kind,I ps[i].1.num,ps[i].2]):=by
 have hlen:=mg ps;rw [dK h (off:=i*3) (n:=3) (by simp;omega)];rw [List.drop_append_of_le_length (by omega),List.take_append_of_le_length (by simp;omega),Et ps i hi];rfl
theorem so {w:World} {b T:Nat} {ps:List (Nd×Value)} {cN:List Value} (h:w.heap[b]? = some (.cells (flat ps++cN).toArray T (0,0))) {i k:Nat} (hi:i < ps.length) (hk:k < 3) :
   w.cell? ⟨b,i*3+k,none⟩=(nc ps[i])[k]?:=by
 have hlen:=mg ps;rw [cell_of h,← aaQ ps i k hi hk];simp only [List.getElem?_toArray];rw [List.getElem?_append_left (by omega)]
theorem kQ.at {w:World} {ps:List (Nd×Value)} {F:Nat→Prop} (h:kQ w ps F) {i:Nat} (hi:i < ps.length) (hl:ps[i].1.args.length≤17592186044416):Ints w ps[i].2 ps[i].1.args:=by
 obtain ⟨fp,h1,_⟩:=h _ (List.getElem_mem hi);exact (h1.ints hl).1
theorem aaZ (a:Nat) (size times:Int) (ns:List Nd) (at':Int) (F:Nat→Prop) (w:World) (h:jU 205 277 w a size times ns F) (hlen:ns.length≤1048576) (dJ:∀ nd∈ns,nd.args.length≤8) :
   aD Tryz.prog 234 [.pointer (some ⟨a,0,none⟩),I at'] w (aaX w ns at'):=by
 refine aax.calls rfl ?_;unfold I6;refine σ ?_;refine de ?_;intro w1 aq ag cL;refine σ ?_;refine dL (by rfl) (by refine σ ?_;rfl) ?_;intro w2 an ae dh;have dG:=ag.trans ae;have h2:=h.mod dG (fun _ _ h=>h);have U:Ints w2 (.slice (some ⟨w1.heap.size,0,none⟩) 1 1) [at']:=Ey (xs:=[at']) an (by simp);refine σ ?_;refine δ (by rfl) (zE a ns.length _ [at'] w2 h2.has U) ?_;rintro r _ ⟨rfl,rfl⟩;rw [BK];have gQ:=ae.at aq (fun h=>h);refine σ ?_;refine aX rfl (fun hc=>?_) (fun hc=>?_)
 ·have bE:¬ (0≤at'∧at' < ns.length):=by simp at hc;omega
  refine σ ?_;refine cu rfl rfl gQ rfl rfl (by simp [Value.oneCell']) ?_;intro w3 aE ab gj;simp only [go_sem,simprocAttr,dK aE (off:=0) (n:=3) (by simp)];refine ⟨dG.step ab (fun i hi ah=>by omega),fun i nd he hn=>?_,fun _=>rfl⟩;exact absurd ⟨by omega,by have:=(List.getElem?_eq_some_iff.1 hn).1;omega⟩ bE
 ·have bE:0≤at'∧at' < ns.length:=by simpa using hc
  obtain ⟨i,rfl⟩:∃ i:Nat,at'=i:=⟨at'.toNat,by omega⟩;have hi:i < ns.length:=by omega
  obtain ⟨cv,dT,ps,g1,g2,g3,g4,g5,g6,g7⟩:=h2;have jg:ps.length=ns.length:=by rw [← g6];simp
  obtain ⟨bc,cc,tL,rfl,rfl,gc,fo,me⟩:=g3.pos (by omega);have bS:i < ps.length:=by omega
  have b9:ps[i].1=ns[i]:=by simp [← g6]
  simp only [go_sem,simprocAttr,cell_of g1,bE,Int.toNat_natCast,aaY gc bS];refine de ?_;intro w3 aE ab gj;refine σ ?_;have xD:=g5.at bS (by rw [b9];have:=dJ ns[i] (List.getElem_mem hi);omega);obtain ⟨xa,xc,BL,_,_⟩:=id xD;rw [BL];refine cu rfl rfl aE rfl rfl (by simp [Value.oneCell']) ?_;intro w4 aJ aj eA;have Jg:Ints w4 (.slice xa ps[i].1.args.length xc) ps[i].1.args:=by
   rw [BL] at xD;refine (xD.mod ab (fun _ _ h=>h)).mod aj (fun b hb hh=>?_);obtain ⟨fp,k1,k2⟩:=g5 _ (List.getElem_mem bS);rw [BL] at k1;rcases k1.2 with ⟨k3,_,_⟩ | ⟨b',c',cN,k3,k4,k5,_⟩
   ·simp only [Value.slice.injEq] at k3;obtain ⟨rfl,_⟩:=k3;simp [jS] at hb
   ·simp only [Value.slice.injEq] at k3;obtain ⟨rfl,_⟩:=k3;simp only [jS,Option.some.injEq] at hb;subst hb;have:=lt_of_heap k5;omega
  simp only [go_sem,simprocAttr,cell_of aJ];refine δ (by rfl) (Eu _ _ w4.drew Jg) ?_;rintro r w5 ⟨b5,rfl,cd,Qs,ay⟩;have ay:=ay.dj;have Qs:w4.heap.size≤b5:=Qs;refine σ ?_;refine ⟨ay.old _ (lt_of_heap aJ) (fun h=>h),?_⟩;have cO:=ay.at (aj.at (ab.at gQ (fun h=>h)) (by have:=lt_of_heap gQ;omega)) (fun h=>h);refine cu rfl rfl cO rfl rfl (by simp [Value.oneCell']) ?_;intro w6 cj aH mV;simp only [go_sem,simprocAttr,dK cj (off:=0) (n:=3) (by simp)];have l1:=lt_of_heap gQ;refine ⟨(((dG.step ab (fun _ h _=>h)).step aj (fun j hj ah=>by omega)).step ay (fun _ h _=>h)).step aH (fun j hj ah=>by omega),fun j nd he hn=>?_,fun hh=>absurd bE hh⟩;obtain rfl:i=j:=by omega
  have e1:nd=ps[i].1:=by
   rw [b9];rw [List.getElem?_eq_getElem hi] at hn;exact (Option.some.inj hn).symm
  subst e1;refine ⟨_,rfl,some b5,ax.jQ (aH.at cd (by omega)) (by simp),fun b hb=>by cases hb;have:=dG.size;omega⟩
def qS (ns:List Nd) (at':Int) (nd:Nd):Int×List Nd:=
 if ¬ (0≤at'∧at' < ns.length) then (202,ns) else if nd.may=false then (1,ns) else if bK ns.length nd.args=false then (202,ns) else (0,ns.set at'.toNat nd)
def aa0 (Ta Tc:Nat) (a:Nat) (size times:Int) (F:Nat→Prop) (w:World) (s:Int×List Nd) (r:Value) (w':World):Prop:=
 r=I s.1∧∃ F',jU Ta Tc w' a size times s.2 F'∧Grow F F' w w'
theorem aa1 (ns:List Nd) (i:Nat) (nd:Nd) (hi:i < ns.length) (h:ns[i]=nd):ns.set i nd=ns:=by
 subst h;exact List.set_getElem_self hi
theorem aa2 (a:Nat) (size times:Int) (ns:List Nd) (at':Int) (nd:Nd) (v:Value) (F:Nat→Prop) (w:World) (h:jU 205 277 w a size times ns F) (hlen:ns.length≤1048576)
   (dJ:∀ nd∈ns,nd.args.length≤8) (il:Ints w v nd.args) :
   aD Tryz.prog 236 [.pointer (some ⟨a,0,none⟩),I at',.agg #[I nd.kind,I nd.num,v]] w (aa0 205 277 a size times F w (qS ns at' nd)):=by
 have U:=il;obtain ⟨va,vc,rfl,hl,_⟩:=il;refine aaz.calls rfl ?_;unfold I8;refine σ ?_;refine b8 rfl ?_;intro w1 aq ag cL;refine σ ?_;refine dL (by rfl) (by refine σ ?_;rfl) ?_;intro w2 an ae dh;have dG:=ag.trans ae;have h2:=h.mod dG (fun _ _ h=>h);have hU:Ints w2 (.slice (some ⟨w1.heap.size,0,none⟩) 1 1) [at']:=Ey (xs:=[at']) an (by simp);have im:=U.mod dG (fun _ _ h=>h);have gQ:=ae.at aq (fun h=>h);have same:∀ w3,Mod (fun _=>False) w2 w3→∃ F',jU 205 277 w3 a size times ns F'∧Grow F F' w w3:=fun w3 ab=>
  ⟨F,h2.mod ab (fun _ _ h=>h),(dG.trans ab).aB (fun _ h=>h.elim),fun b hb=>.inl hb⟩
 refine σ ?_;refine δ (by rfl) (zE a ns.length _ [at'] w2 h2.has hU) ?_;rintro r _ ⟨rfl,rfl⟩;rw [BK];refine σ ?_;refine aX rfl (fun hc=>?_) (fun hc=>?_)
 ·have bE:¬ (0≤at'∧at' < ns.length):=by simp at hc;omega
  refine σ ?_;have e:qS ns at' nd=(202,ns):=by unfold qS;rw [if_pos bE]
  rw [e];exact ⟨rfl,same w2 (Mod.refl _ _)⟩
 have bE:0≤at'∧at' < ns.length:=by simpa using hc
 obtain ⟨i,rfl⟩:∃ i:Nat,at'=i:=⟨at'.toNat,by omega⟩;have hi:i < ns.length:=by omega
 have hd:cB w2 3 (.pointer (some ⟨w.heap.size,0,none⟩))=some (.agg #[I nd.kind,I nd.num,.slice va nd.args.length vc]):=dK gQ (off:=0) (n:=3) (by simp);simp only [go_sem,simprocAttr,hd];refine δ (by rfl) (Qp nd.kind nd.num _ nd.args w2 im) ?_;rintro r w3 ⟨rfl,ab⟩;have aE:=ab.at gQ (fun h=>h);have h3:=h2.mod ab (fun _ _ h=>h);have vo:=im.mod ab (fun _ _ h=>h);refine σ ?_;refine aX rfl (fun hm=>?_) (fun hm=>?_)
 ·refine σ ?_;have gw:nd.may=false:=by simpa [Nd.may] using hm
  have e:qS ns i nd=(1,ns):=by unfold qS;rw [if_neg (by simpa using bE),if_pos gw]
  rw [e];exact ⟨rfl,same w3 ab⟩
 have nZ:nd.may=true:=by simpa [Nd.may] using hm
 simp only [go_sem,simprocAttr,cell_of aE];refine δ (by rfl) (zE a ns.length _ nd.args w3 h3.has vo) ?_;rintro r _ ⟨rfl,rfl⟩;refine σ ?_;refine aX rfl (fun ho=>?_) (fun ho=>?_)
 ·refine σ ?_;have mP:bK ns.length nd.args=false:=by simpa using ho
  have e:qS ns i nd=(202,ns):=by unfold qS;rw [if_neg (by simpa using bE),if_neg (by simp [nZ]),if_pos mP]
  rw [e];exact ⟨rfl,same w3 ab⟩
 have gM:bK ns.length nd.args=true:=by simpa using ho
 have e:qS ns i nd=(0,ns.set i nd):=by unfold qS;rw [if_neg (by simpa using bE),if_neg (by simp [nZ]),if_neg (by simp [gM])];simp
 rw [e];obtain ⟨cv,dT,ps,g1,g2,g3,g4,g5,g6,g7⟩:=h3;have jg:ps.length=ns.length:=by rw [← g6];simp
 obtain ⟨bc,cc,tL,rfl,rfl,gc,fo,me⟩:=g3.pos (by omega);have bS:i < ps.length:=by omega
 have b9:ps[i].1=ns[i]:=by simp [← g6]
 have Ez:=mg ps;have xD:=g5.at bS (by rw [b9];have:=dJ ns[i] (List.getElem_mem hi);omega);obtain ⟨xa,xc,BL,_,_⟩:=id xD;have c0:w3.cell? ⟨bc,i*3,none⟩=some (I ps[i].1.kind):=by have:=so gc bS (k:=0) (by omega);simpa [nc] using this
 have c1:w3.cell? ⟨bc,i*3+1,none⟩=some (I ps[i].1.num):=by have:=so gc bS (k:=1) (by omega);simpa [nc] using this
 have c2:w3.cell? ⟨bc,i*3+2,none⟩=some (.slice xa ps[i].1.args.length xc):=by have:=so gc bS (k:=2) (by omega);simpa [nc,BL] using this
 have l2:cB w3.drew 2 (.pointer (some ⟨bc,i*3,none⟩))=some (.agg #[I ps[i].1.kind,I ps[i].1.num]):=by
  have:=dK (w:=w3.drew) gc (off:=i*3) (n:=2) (by simp;omega);rw [this,List.drop_append_of_le_length (by omega),List.take_append_of_le_length (by simp;omega)];have h3:=Et ps i bS;have:((flat ps).drop (i*3)).take 2=(nc ps[i]).take 2:=by rw [← h3,List.take_take];rfl
  rw [this];rfl
 simp only [go_sem,simprocAttr,cell_of aE];refine gz (fun ρ w'=>w'=w3.drew∧∃ q:Bool,(q=true→ns.set i nd=ns)∧ρ.get 0=some (.pointer (some ⟨a,0,none⟩))∧ρ.get 1=some (I i)∧ρ.get 5=some (.pointer (some ⟨w.heap.size,0,none⟩))∧ρ.get 54=some (.bool q)) ?_ ?_
 ·refine tG rfl (fun hz=>?_) (fun hz=>?_)
  ·have tu:nd.args.length=0:=Int.ofNat.inj (eq_of_beq hz);simp only [go_sem,simprocAttr,cell_of aE,cell_of g1,bE,Int.toNat_natCast,l2,hz,c2];refine tG rfl (fun ht=>?_) (fun ht=>?_)
   ·simp only [go_sem,simprocAttr,cell_of aE,cell_of g1,bE,Int.toNat_natCast,l2,hz,c2,ht];refine ⟨_,fun hq=>?_,rfl⟩;have q1:ps[i].1.kind=nd.kind∧ps[i].1.num=nd.num:=by simpa using ht
    have q2:ps[i].1.args=[]:=by
     have:(ps[i].1.args.length:Int)=0:=by simpa using hq
     exact List.eq_nil_of_length_eq_zero (by omega)
    refine aa1 ns i nd hi ?_;rw [← b9];have e3:nd.args=[]:=List.eq_nil_of_length_eq_zero tu;have:∀ x y:Nd,x.kind=y.kind→x.num=y.num→x.args=y.args→x=y:=by intro x y h1 h2 h3;cases x;cases y;simp_all
    exact this _ _ q1.1 q1.2 (by rw [q2,e3])
   ·simp only [go_sem,simprocAttr,cell_of aE,hz,ht];exact ⟨_,fun hq=>(by cases hq),rfl⟩
  ·simp only [go_sem,simprocAttr,cell_of aE,hz];exact ⟨_,fun hq=>(by cases hq),rfl⟩
 ·rintro ρ _ ⟨rfl,q,hq,r0,r1,r5,r54⟩;simp only [go_sem,simprocAttr,r0,r1,r5,r54];refine aX rfl (fun ht=>?_) (fun ht=>?_)
  ·refine σ ?_;rw [hq ht];exact ⟨rfl,same w3.drew ab.drew⟩
  ·have hd3:cB w3.drew.drew 3 (.pointer (some ⟨w.heap.size,0,none⟩))=some (.agg #[I nd.kind,I nd.num,.slice va nd.args.length vc]):=dK (w:=w3.drew.drew) aE (off:=0) (n:=3) (by simp);simp only [go_sem,simprocAttr,cell_of g1,hd3];refine δ (by rfl) (Qr nd.kind nd.num _ nd.args w3.drew.drew vo) ?_;rintro r w4 ⟨b4,rfl,aJ,Qt,aj⟩;have aj:Mod (fun _=>False) w3 w4:=aj.dj.dj;have Qt:w3.heap.size≤b4:=Qt;simp only [go_sem,simprocAttr,bE,Int.toNat_natCast];refine ⟨aj.old _ (lt_of_heap g1) (fun h=>h),?_⟩;have tK:=aj.at gc (fun h=>h);have BI:=aj.at g1 (fun h=>h);refine PM rfl rfl tK rfl (by simp;omega) (by simp [Value.oneCell']) ?_;intro w5 cd ay iq;refine σ ?_;have bq:a≠bc:=fun hh=>mc BI (hh ▸ tK) (by omega)
   have gY:=Qo ps i (nd,.slice (some ⟨b4,0,none⟩) nd.args.length nd.args.length) bS tL;have lc:=lt_of_heap gc;have la:=lt_of_heap g1;have l4:=lt_of_heap aJ;have h45:=aj.size;have h55:=ay.size;refine ⟨rfl,fun b=>F b∨b=b4,⟨_,some bc,ps.set i (nd,.slice (some ⟨b4,0,none⟩) nd.args.length nd.args.length),ay.at BI bq,.inl g2,?_,fun b hb=>.inl (g4 b hb),?_,?_,?_⟩,?_,?_⟩
   ·refine ⟨by rw [mg];simp;omega,.inr ⟨bc,cc,tL,by simp,rfl,?_,?_,by simpa using fo⟩⟩
    ·rw [← gY];exact cd
    ·rw [List.length_append,mg,List.length_set,← mg,← List.length_append];exact me
   ·have e1:=(g5.xu aj (fun _ _ _ h _=>h)).xu ay (fun b cs fz hb hc=>mc tK (hb ▸ hc) (by omega));intro p hp;rcases List.mem_or_eq_of_mem_set hp with hp | rfl
    ·obtain ⟨fp,k1,k2⟩:=e1 p hp;exact ⟨fp,k1,fun b hb=>.inl (k2 b hb)⟩
    ·exact ⟨some b4,ax.jQ (ay.at aJ (fun hh=>mc aJ (hh ▸ tK) (by omega))) (by simp),fun b hb=>.inr (by cases hb;rfl)⟩
   ·rw [List.map_set,g6]
   ·intro b hb;rcases hb with hb | hb
    ·have:=g7 b hb;omega
    ·omega
   ·exact (((dG.trans ab).aB (fun _ h=>h.elim)).step aj (fun _ h _=>h.elim)).step ay (fun j hj _=>hj ▸ g4 bc rfl)
   ·intro b hb;have:=(dG.trans ab).size;rcases hb with hb | hb
    ·exact .inl hb
    ·exact .inr (by omega)
end
section
def fit (f:Nat→Nat):Nat→Nat→Nat
 | 0,x=>x
 | k+1,x=>fit f k (f x)
theorem jV (f:Nat→Nat) (a b x:Nat):fit f (a+b) x=fit f a (fit f b x):=by
 induction b generalizing x with
 | zero=>rfl
 | succ b ih=>exact ih (f x)
theorem pV (f:Nat→Nat) (k x:Nat):fit f (k+1) x=f (fit f k x):=by
 rw [Nat.add_comm,jV];rfl
theorem xE {f:Nat→Nat} {n:Nat} (hf:∀ x,x < n→f x < n) (k:Nat) {x:Nat} (U:x < n):fit f k x < n:=by
 induction k generalizing x with
 | zero=>exact U
 | succ k ih=>exact ih (hf x U)
theorem zF:∀ (n:Nat) (l:List Nat),l.Nodup→(∀ x∈l,x < n)→l.length≤n:=by
 intro n
 induction n with
 | zero=>
  intro l _ h;cases l with
  | nil=>simp
  | cons x l=>exact absurd (h x List.mem_cons_self) (by omega)
 | succ n ih=>
  intro l hn h;have h1:(l.erase n).length≤n:=by
   refine ih _ (hn.erase n) (fun x U=>?_);have h2:=(hn.mem_erase_iff).1 U;have:=h x h2.2;have:=h2.1;omega
  by_cases hm:n∈l
  ·rw [List.length_erase_of_mem hm] at h1;omega
  ·rw [List.erase_of_not_mem hm] at h1;omega
theorem aa3 {f:Nat→Nat} {n x:Nat} (hf:∀ x,x < n→f x < n) (U:x < n):∃ i j,i < j∧j≤n∧fit f i x=fit f j x:=by
 apply Classical.byContradiction;intro iD;have b9:((List.range (n+1)).map (fun k=>fit f k x)).Nodup:=by
  unfold List.Nodup;rw [List.pairwise_map];have hp:(List.range (n+1)).Pairwise (· < ·):=List.pairwise_lt_range;refine (hp.imp_of_mem ?_);intro i j hi hj ek he;exact iD ⟨i,j,ek,by have:=List.mem_range.1 hj;omega,he⟩
 have:=zF n _ b9 (by
  intro y hy;obtain ⟨k,_,rfl⟩:=List.mem_map.1 hy
  exact xE hf k U)
 simp at this;omega
section
variable {f:Nat→Nat} {n:Nat} (hf:∀ x,x < n→f x < n)
include hf
theorem EA {x:Nat} (U:x < n) (m:Nat) (hm:n≤m):∃ d,1≤d∧d≤n∧fit f d (fit f m x)=fit f m x:=by
 obtain ⟨i,j,ek,hj,he⟩:=aa3 hf U;refine ⟨j - i,by omega,by omega,?_⟩;have h1:fit f m x=fit f (m - i) (fit f i x):=by rw [← jV];congr 1;omega
 rw [← jV,show j - i+m=(m - i)+j by omega,jV,← he,← jV]
 congr 1;omega
omit hf in
theorem aa4 {c d:Nat} (HW:1≤d) (hdn:d≤n) (hc:fit f d c=c):∀ m,∃ k,k≤n∧fit f m c=fit f k c:=by
 intro m
 induction m using Nat.strongRecOn with
 | _ m ih=>
  by_cases hm:m≤n
  ·exact ⟨m,hm,rfl⟩
  ·obtain ⟨k,hk,he⟩:=ih (m - d) (by omega);refine ⟨k,hk,?_⟩;rw [← he,show m=(m - d)+d by omega,jV,hc]
   congr 1;omega
omit hf in
theorem Qu (l:List Nat):∀ a,(l.foldl min a=a∨l.foldl min a∈l)∧l.foldl min a≤a∧∀ x∈l,l.foldl min a≤x:=by
 induction l with
 | nil=>intro a;simp
 | cons y l ih=>
  intro a;obtain ⟨h1,h2,h3⟩:=ih (min a y);simp only [List.foldl_cons];refine ⟨?_,by omega,?_⟩
  ·rcases h1 with h1 | h1
   ·by_cases hay:a≤y
    ·left;rw [h1];omega
    ·right;rw [h1,show min a y=y by omega];exact List.mem_cons_self
   ·right;exact List.mem_cons_of_mem _ h1
  ·intro x U;cases U with
   | head=>omega
   | tail _ U=>exact h3 x U
omit hf
def ov (f:Nat→Nat) (n x:Nat):Nat:=((List.range (n+1)).map (fun k=>fit f k (fit f n x))).foldl min (fit f n x)
theorem oa (f:Nat→Nat) (n x:Nat):∃ k,k≤n∧ov f n x=fit f (k+n) x:=by
 have:=(Qu ((List.range (n+1)).map (fun k=>fit f k (fit f n x))) (fit f n x)).1;unfold ov;rcases this with h | h
 ·exact ⟨0,by omega,by rw [h];simp⟩
 ·obtain ⟨k,hk,he⟩:=List.mem_map.1 h;exact ⟨k,by have:=List.mem_range.1 hk;omega,by rw [← he,jV]⟩
theorem aa5 (f:Nat→Nat) (n x k:Nat) (hk:k≤n):ov f n x≤fit f k (fit f n x):=
 (Qu ((List.range (n+1)).map (fun k=>fit f k (fit f n x))) (fit f n x)).2.2 _ (List.mem_map.2 ⟨k,List.mem_range.2 (by omega),rfl⟩)
include hf
theorem pW {x:Nat} (U:x < n):ov f n x < n:=by
 obtain ⟨k,_,h⟩:=oa f n x;rw [h];exact xE hf _ U
theorem BM {x:Nat} (U:x < n) (m:Nat) (hm:n≤m):ov f n x≤fit f m x:=by
 obtain ⟨d,h1,h2,h3⟩:=EA hf U n (Nat.le_refl _);obtain ⟨k,hk,he⟩:=aa4 h1 h2 h3 (m - n);have:fit f m x=fit f k (fit f n x):=by rw [← he,← jV];congr 1;omega
 rw [this];exact aa5 f n x k hk
theorem tM {x:Nat} (U:x < n):ov f n (f x)=ov f n x:=by
 apply Nat.le_antisymm
 ·obtain ⟨k,_,h⟩:=oa f n x;obtain ⟨d,h1,h2,h3⟩:=EA hf U (k+n) (by omega);rw [h,← h3,← jV,show d+(k+n)=(d+(k+n) - 1)+1 by omega];exact BM hf (hf x U) (d+(k+n) - 1) (by omega)
 ·obtain ⟨k,_,h⟩:=oa f n (f x);rw [h];exact BM hf U (k+n+1) (by omega)
theorem vq {x:Nat} (U:x < n) (k:Nat):ov f n (fit f k x)=ov f n x:=by
 induction k generalizing x with
 | zero=>rfl
 | succ k ih=>rw [show fit f (k+1) x=fit f k (f x) from rfl,ih (hf x U),tM hf U]
theorem qT {x:Nat} (U:x < n):ov f n (ov f n x)=ov f n x:=by
 obtain ⟨k,_,h⟩:=oa f n x
 conv=>lhs;rw [h]
 exact vq hf U _
theorem aa6 {x y:Nat} (U:x < n) (hy:y < n):ov f n x=ov f n y↔∃ a b,fit f a x=fit f b y:=by
 constructor
 ·intro h;obtain ⟨a,_,ha⟩:=oa f n x;obtain ⟨b,_,hb⟩:=oa f n y;exact ⟨a+n,b+n,by rw [← ha,← hb,h]⟩
 ·rintro ⟨a,b,h⟩;rw [← vq hf U a,h,vq hf hy b]
omit hf
theorem BN {t:Nat} (h:f t=t):∀ k,fit f k t=t:=by
 intro k
 induction k with
 | zero=>rfl
 | succ k ih=>rw [pV,ih,h]
theorem zG {t:Nat} (h:f t=t):ov f n t=t:=by
 obtain ⟨k,_,he⟩:=oa f n t;rw [he,BN h]
end
end
section
open Go Go.W
def ai (ns:List Nd) (p:Nat):Nd:=ns.getD p ⟨0,0,[]⟩
def ind (ns:List Nd) (p:Nat):Bool:=decide ((ai ns p).kind=5)
def au (ns:List Nd) (p:Nat):Nat:=if ind ns p then ((ai ns p).args.getD 0 0).toNat else p
def WF (ns:List Nd):Prop:=∀ nd∈ns,nd.may=true∧bK ns.length nd.args=true
theorem iW {ns:List Nd} (h:WF ns) {p:Nat} (hp:p < ns.length):(ai ns p).may=true∧bK ns.length (ai ns p).args=true:=by
 have:ai ns p=ns[p]:=by simp [ai,hp]
 rw [this];exact h _ (List.getElem_mem hp)
theorem pX {ns:List Nd} (h:WF ns) {p:Nat} (hp:p < ns.length) (hi:ind ns p=true):∃ q:Nat,q < ns.length∧(ai ns p).args=[(q:Int)]∧au ns p=q:=by
 obtain ⟨h1,h2⟩:=iW h hp;have hk:(ai ns p).kind=5:=by simpa [ind] using hi
 simp only [Nd.may,gP,hk,decide_eq_true_eq] at h1;have hl:(ai ns p).args.length=1:=by omega
 obtain ⟨x,U⟩:=List.length_eq_one_iff.1 hl;rw [U] at h2;rw [BK] at h2;simp only [decide_eq_true_eq] at h2;refine ⟨x.toNat,by omega,by rw [U];congr 1;omega,by simp [au,hi,U]⟩
theorem eX {ns:List Nd} (h:WF ns):∀ p,p < ns.length→au ns p < ns.length:=by
 intro p hp;cases hi:ind ns p with
 | true=>obtain ⟨q,h1,_,h2⟩:=pX h hp hi;rw [h2];exact h1
 | false=>simp [au,hi,hp]
theorem ob {ns:List Nd} {p:Nat} (hi:ind ns p=false):au ns p=p:=by simp [au,hi]
theorem BO {ns:List Nd} (h:WF ns):∀ nd∈ns,nd.args.length≤8:=by
 intro nd hn;have:=(h nd hn).1;simp only [Nd.may,gP,decide_eq_true_eq] at this;omega
def over (ns:List Nd) (p:Nat):Nat:=ov (au ns) ns.length p
structure KI (ns:List Nd) (l:List Int):Prop where
 len:l.length=ns.length
 rep:∀ i,i < ns.length→l.getD i 0≠0→∃ e:Nat,l.getD i 0=e+1∧e < ns.length∧over ns e=over ns i∧l.getD e 0=e+1∧(ind ns e=true→ind ns (over ns i)=true)
 shut:∀ i,i < ns.length→l.getD i 0≠0→l.getD (au ns i) 0≠0
 one:∀ i j,i < ns.length→j < ns.length→l.getD i 0≠0→l.getD j 0≠0→over ns i=over ns j→l.getD i 0=l.getD j 0
theorem aa7 {ns:List Nd} (hw:WF ns) {l:List Int} (h:KI ns l) {i:Nat} (hi:i < ns.length) (hk:l.getD i 0≠0):∀ k,l.getD (fit (au ns) k i) 0≠0:=by
 intro k
 induction k with
 | zero=>exact hk
 | succ k ih=>rw [pV];exact h.shut _ (xE (eX hw) k hi) ih
theorem aa8 (ns:List Nd):KI ns (List.replicate ns.length 0):=by
 have h0:∀ i,(List.replicate ns.length (0:Int)).getD i 0=0:=by intro i;simp [List.getElem?_replicate];split<;>rfl
 refine ⟨by simp,fun i _ h=>absurd (h0 i) h,fun i _ h=>absurd (h0 i) h,fun i j _ _ h=>absurd (h0 i) h⟩
theorem aa9 {ns:List Nd} (hw:WF ns) {l l':List Int} (h:KI ns l) {p0 k e:Nat} (hp:p0 < ns.length)
   (Bo:∀ j,j < k→ind ns (fit (au ns) j p0)=true∧l.getD (fit (au ns) j p0) 0=0)
   (gR:(e=fit (au ns) k p0∧l.getD e 0=0∧((ind ns e=false)∨∃ j,j < k∧e=fit (au ns) j p0))∨(l.getD (fit (au ns) k p0) 0=e+1))
   (hl:l'.length=ns.length) (kg:∀ i,i < ns.length→l'.getD i 0=if (∃ j,j≤k∧i=fit (au ns) j p0) then (e:Int)+1 else l.getD i 0) :
   KI ns l'∧l'.getD p0 0=e+1∧(∀ i,i < ns.length→l.getD i 0≠0→l'.getD i 0=l.getD i 0):=by
 have hf:=(eX hw);have tN:∀ j,over ns (fit (au ns) j p0)=over ns p0:=fun j=>vq hf hp j
 have BP:∀ j,fit (au ns) j p0 < ns.length:=fun j=>xE hf j hp
 have agree:∀ i,i < ns.length→l.getD i 0≠0→over ns i=over ns p0→l.getD i 0=e+1:=by
  intro i hi hk ho;rcases gR with ⟨he,h0,kR⟩ | hkn
  ·exfalso;obtain ⟨a,b,gO⟩:=(aa6 hf hi (BP k)).1 (ho.trans (tN k).symm);have BQ:=aa7 hw h hi hk a;rw [gO] at BQ;rcases kR with oV | ⟨j,hj,xF⟩
   ·rw [← he,BN (ob oV) b] at BQ;exact BQ h0
   ·
    have aa':∀ b,∃ j',j' < k∧fit (au ns) b (fit (au ns) k p0)=fit (au ns) j' p0:=by
     intro b;have anC:fit (au ns) (k - j) (fit (au ns) j p0)=fit (au ns) j p0:=by
      rw [← jV,show k - j+j=k by omega,← he,xF]
     induction b with
     | zero=>exact ⟨j,hj,by show fit (au ns) k p0=_;rw [← he,xF]⟩
     | succ b By=>
      obtain ⟨j',pY,hb⟩:=By;rw [pV,hb,← pV (au ns)];by_cases zH:j'+1 < k
      ·exact ⟨j'+1,zH,rfl⟩
      ·have:j'+1=k:=by omega
       rw [this];exact ⟨j,hj,by rw [← he,xF]⟩
    obtain ⟨j',pY,hb⟩:=aa' b;rw [hb] at BQ;exact BQ (Bo j' pY).2
  ·rw [← hkn];exact h.one _ _ hi (BP k) hk (by rw [hkn];omega) (ho.trans (tN k).symm)
 have dV:∀ i,i < ns.length→l.getD i 0≠0→l'.getD i 0=l.getD i 0:=by
  intro i hi hk;rw [kg i hi]
  split
  ·rename_i hex;obtain ⟨j,_,rfl⟩:=hex;exact (agree _ hi hk (tN j)).symm
  ·rfl
 have dF:e < ns.length∧over ns e=over ns p0∧l'.getD e 0=e+1∧(ind ns e=true→ind ns (over ns p0)=true):=by
  rcases gR with ⟨he,h0,kR⟩ | hkn
  ·refine ⟨by rw [he];exact BP k,by rw [he];exact tN k,?_,?_⟩
   ·rw [kg e (by rw [he];exact BP k),if_pos ⟨k,Nat.le_refl _,he⟩]
   ·intro hi;rcases kR with oV | ⟨j,hj,xF⟩
    ·rw [oV] at hi;cases hi
    ·
     obtain ⟨q,_,hq⟩:=oa (au ns) ns.length p0;have aba:∀ m,ind ns (fit (au ns) m p0)=true:=by
      intro m;have:∃ j',j' < k∧fit (au ns) m p0=fit (au ns) j' p0:=by
       induction m with
       | zero=>exact ⟨0,by omega,rfl⟩
       | succ m ihm=>
        obtain ⟨j',pY,hm⟩:=ihm;rw [pV,hm,← pV (au ns)];by_cases zH:j'+1 < k
        ·exact ⟨j'+1,zH,rfl⟩
        ·have:j'+1=k:=by omega
         rw [this];exact ⟨j,hj,by rw [← he,xF]⟩
      obtain ⟨j',pY,hm⟩:=this;rw [hm];exact (Bo j' pY).1
     show ind ns (ov (au ns) ns.length p0)=true;rw [hq];exact aba _
  ·obtain ⟨e',h1,h2,h3,h4,h5⟩:=h.rep _ (BP k) (by rw [hkn];omega);have:e'=e:=by omega
   subst this;refine ⟨h2,h3.trans (tN k),by rw [dV _ h2 (by rw [h4];omega)];exact h4,?_⟩;intro hi;have:=h5 hi
   rwa [tN k] at this
 refine ⟨⟨hl,?_,?_,?_⟩,?_,dV⟩
 ·intro i hi hk;rw [kg i hi] at hk;by_cases hex:∃ j,j≤k∧i=fit (au ns) j p0
  ·obtain ⟨j,hj,rfl⟩:=hex;refine ⟨e,by rw [kg _ hi,if_pos ⟨j,hj,rfl⟩],dF.1,dF.2.1.trans (tN j).symm,dF.2.2.1,fun hh=>by rw [tN j];exact dF.2.2.2 hh⟩
  ·rw [if_neg hex] at hk;obtain ⟨e',h1,h2,h3,h4,h5⟩:=h.rep i hi hk;exact ⟨e',by rw [kg i hi,if_neg hex,h1],h2,h3,by rw [dV e' h2 (by rw [h4];omega),h4],h5⟩
 ·intro i hi hk;rw [kg i hi] at hk;rw [kg _ (hf i hi)];by_cases BR:∃ j,j≤k∧au ns i=fit (au ns) j p0
  ·rw [if_pos BR];omega
  ·rw [if_neg BR];by_cases hex:∃ j,j≤k∧i=fit (au ns) j p0
   ·obtain ⟨j,hj,rfl⟩:=hex;by_cases l9:j < k
    ·exact absurd ⟨j+1,by omega,by rw [pV]⟩ BR
    ·have:j=k:=by omega
     subst this;rcases gR with ⟨he,h0,kR⟩ | hkn
     ·rcases kR with oV | ⟨j',pY,xF⟩
      ·exact absurd ⟨j,Nat.le_refl _,by rw [← he];exact ob oV⟩ BR
      ·exact absurd ⟨j'+1,by omega,by rw [← he,xF,pV]⟩ BR
     ·exact h.shut _ hi (by rw [hkn];omega)
   ·rw [if_neg hex] at hk;exact h.shut i hi hk
 ·intro i j hi hj rV qU ho;have val:∀ i,i < ns.length→l'.getD i 0≠0→over ns i=over ns p0→l'.getD i 0=e+1:=by
   intro i hi hk ho;rw [kg i hi] at hk ⊢
   split
   ·rfl
   ·rename_i hex;rw [if_neg hex] at hk;exact agree i hi hk ho
  by_cases kS:over ns i=over ns p0
  ·rw [val i hi rV kS,val j hj qU (ho ▸ kS)]
  ·have oV:∀ i,over ns i≠over ns p0→¬ ∃ j,j≤k∧i=fit (au ns) j p0:=by
    rintro i bq ⟨j,_,rfl⟩;exact bq (tN j)
   rw [kg i hi,if_neg (oV i kS)] at rV ⊢;rw [kg j hj,if_neg (oV j (ho ▸ kS))] at qU ⊢;exact h.one i j hi hj rV qU ho
 ·rw [kg p0 hp,if_pos ⟨0,by omega,rfl⟩]
end
section
open Go Go.W
def pZ (Tc:Nat) (w:World) (cf:Value) (ns:List Nd) (F:Nat→Prop):Prop:=
 ∃ dT ps,ax w Tc 3 cf (flat ps) ns.length dT∧(∀ b,dT=some b→F b)∧kQ w ps F∧ps.map Prod.fst=ns∧∀ b,F b→b < w.heap.size
theorem pZ.mod {Tc:Nat} {w w':World} {cf:Value} {ns:List Nd} {F S:Nat→Prop} (h:pZ Tc w cf ns F) (hm:Mod S w w') (hd:∀ b,F b→¬ S b):pZ Tc w' cf ns F:=by
 obtain ⟨dT,ps,h1,h2,h3,h4,h5⟩:=h;exact ⟨dT,ps,h1.mod hm (fun b hb=>hd b (h2 b hb)),h2,h3.mod hm hd,h4,fun b hb=>Nat.lt_of_lt_of_le (h5 b hb) hm.size⟩
theorem xG {Tc:Nat} {w:World} {cf:Value} {ns:List Nd} {F:Nat→Prop} (h:pZ Tc w cf ns F) (dJ:∀ nd∈ns,nd.args.length≤8) {i:Nat} (hi:i < ns.length) :
   ∃ bc cc v,cf = .slice (some ⟨bc,0,none⟩) ns.length cc∧w.cell? ⟨bc,i*3,none⟩=some (I (ai ns i).kind)∧w.cell? ⟨bc,i*3+1,none⟩=some (I (ai ns i).num) ∧
    w.cell? ⟨bc,i*3+2,none⟩=some v∧Ints w v (ai ns i).args∧(∀ b,jS v=some b→F b)∧cB w 2 (.pointer (some ⟨bc,i*3,none⟩))=some (.agg #[I (ai ns i).kind,I (ai ns i).num]):=by
 obtain ⟨dT,ps,h1,h2,h3,h4,h5⟩:=h;have jg:ps.length=ns.length:=by rw [← h4];simp
 obtain ⟨bc,cc,tL,rfl,rfl,gc,fo,me⟩:=h1.pos (by omega);have bS:i < ps.length:=by omega
 have b9:ps[i].1=ai ns i:=by
  have e1:ai ns i=ns[i]:=by simp [ai,hi]
  rw [e1];simp [← h4]
 have Ez:=mg ps;have hle:ps[i].1.args.length≤17592186044416:=by
  have:=dJ ns[i] (List.getElem_mem hi);rw [b9];simp only [ai,List.getD_eq_getElem?_getD,List.getElem?_eq_getElem hi,Option.getD_some];omega
 have xD:=h3.at bS hle;refine ⟨bc,cc,ps[i].2,rfl,?_,?_,?_,b9 ▸ xD,?_,?_⟩
 ·have:=so gc bS (k:=0) (by omega);rw [← b9];simpa [nc] using this
 ·have:=so gc bS (k:=1) (by omega);rw [← b9];simpa [nc] using this
 ·have:=so gc bS (k:=2) (by omega);simpa [nc] using this
 ·intro b hb;obtain ⟨fp,k1,k2⟩:=h3 _ (List.getElem_mem bS);refine k2 b ?_;rcases k1.2 with ⟨k3,_,_⟩ | ⟨b',c',cN,k3,k4,_,_⟩
  ·rw [k3] at hb;cases hb
  ·rw [k3] at hb;cases hb;exact k4
 ·have:=dK (w:=w) gc (off:=i*3) (n:=2) (by simp;omega);rw [this,List.drop_append_of_le_length (by omega),List.take_append_of_le_length (by simp;omega)];have h3:=Et ps i bS;have:((flat ps).drop (i*3)).take 2=(nc ps[i]).take 2:=by rw [← h3,List.take_take];rfl
  rw [this,← b9];rfl
theorem abb {w:World} {T sz:Nat} {a:Option Addr} {n c:Nat} {xs:List Value} {fp:Option Nat} (h:ax w T sz (.slice a n c) xs n fp):ax w T sz (.slice a 0 c) [] 0 fp:=by
 refine ⟨by simp,?_⟩;rcases h.2 with ⟨h1,h2,h3⟩ | ⟨b,c',cN,h1,h2,h3,h4,h5⟩
 ·cases h1;exact .inl ⟨rfl,rfl,h3⟩
 ·cases h1;exact .inr ⟨b,c,xs++cN,rfl,h2,by simpa using h3,by simpa using h4,Nat.zero_le _⟩
def PW (w:World) (bm bo:Nat) (cf to mv pa:Value) (n:Nat) (l path:List Int) (eQ:Option Nat):Prop:=
 w.heap[bm]? = some (.cells #[cf,to,.slice (some ⟨bo,0,none⟩) n n,mv,pa] 281 (0,0))∧w.heap[bo]? = some (.cells (l.map I).toArray 3 (0,0))∧ax w 3 1 pa (path.map I) path.length eQ∧eQ≠some bo
def abc (ns:List Nd) (w:World) (bm bo:Nat) (cf to mv:Value) (l:List Int) (eQ:Option Nat) (p0:Nat) (r:Value) (w':World):Prop:=
 ∃ (e:Nat) (l':List Int) (BS:Value) (zI:List Int) (zJ:Option Nat),r=I e∧KI ns l'∧l'.getD p0 0=e+1∧(∀ i,i < ns.length→l.getD i 0≠0→l'.getD i 0=l.getD i 0) ∧
  PW w' bm bo cf to mv BS ns.length l' zI zJ∧Mod (fun b=>b=bm∨b=bo∨eQ=some b) w w'∧(∀ b,zJ=some b→eQ=some b∨w.heap.size≤b)∧zI.length≤1048576
theorem oW {w:World} {b T:Nat} {l:List Int} (h:w.heap[b]? = some (.cells (l.map I).toArray T (0,0))) {i:Nat} (hi:i < l.length):w.cell? ⟨b,i,none⟩=some (I (l.getD i 0)):=by
 rw [cell_of h];simp [hi]
def oX (ns:List Nd) (p0 k i:Nat):Prop:=∃ j,j < k∧i=fit (au ns) j p0
theorem kT (l:List Int) (i j:Nat) (v:Int) (hi:i < l.length):(l.set i v).getD j 0=if i=j then v else l.getD j 0:=by
 simp only [List.getD_eq_getElem?_getD,List.getElem?_set]
 split
 ·rename_i h;subst h;simp [hi]
 ·rfl
theorem map_set (l:List Int) (i:Nat) (v:Int):(l.map I).set i (I v)=(l.set i v).map I:=by simp [List.map_set]
theorem count_set (l:List Int) (i:Nat) (hi:i < l.length) (h0:l.getD i 0=0):(l.set i (-1)).count 0+1=l.count 0:=by
 have h1:l[i]=0:=by simpa [hi] using h0
 have gF:0 < l.count 0:=List.count_pos_iff.2 (h1 ▸ List.getElem_mem hi);rw [List.count_set hi,h1];simp;omega
theorem abd (ns:List Nd) (hw:WF ns) (hn:ns.length≤1048576) (w:World) (bm bo:Nat) (cf to mv pa:Value) (l path:List Int) (eQ:Option Nat) (F:Nat→Prop)
   (bC:pZ 277 w cf ns F) (hd:∀ b,F b→¬ (b=bm∨b=bo∨eQ=some b)) (hp:PW w bm bo cf to mv pa ns.length l path eQ) (hk:KI ns l) (p0:Nat) (Qv:p0 < ns.length) :
   aD Tryz.prog 243 [.pointer (some ⟨bm,0,none⟩),I p0] w (abc ns w bm bo cf to mv l eQ p0):=by
 have dJ:=BO hw;have hf:=eX hw;have ah:∀ j,fit (au ns) j p0 < ns.length:=fun j=>xE hf j Qv
 obtain ⟨m1,m2,m3,m4⟩:=hp;obtain ⟨xa,xc,rfl,EB,_⟩:=m3.val;have Qw:=abb m3;refine aaG.calls rfl ?_;unfold Je;have z1:(0:Int)≤0∧(0:Int)≤xc:=by omega
 have z2:(if xc=0 then xa else Option.map (fun x=>x) xa)=xa:=by cases xa<;>simp
 simp only [go_sem,simprocAttr,cell_of m1,z1,z2,and_self,Int.toNat_zero,Nat.sub_zero,Nat.sub_self];refine bL (off:=4) rfl rfl m1 rfl (by simp) ?_;intro w1 aq ag cL;have vt:bm≠bo:=fun h=>by subst h;exact mc m2 m1 (by omega)
 have n2:=ag.at m2 (fun h=>vt h.symm);have n3:=Qw.mod ag (fun b hb hh=>hP Qw hb (hh ▸ m1) (by omega));refine σ ?_
 refine dz (fun m ρ w'=>∃ (k:Nat) (lk:List Int) (pa:Value) (pk:Option Nat),m=lk.count 0∧lk.length=ns.length∧k+lk.count 0=l.count 0 ∧
  (∀ i,i < ns.length→(oX ns p0 k i→lk.getD i 0 = -1)∧(¬ oX ns p0 k i→lk.getD i 0=l.getD i 0)) ∧
  (∀ j,j < k→ind ns (fit (au ns) j p0)=true∧l.getD (fit (au ns) j p0) 0=0) ∧
  PW w' bm bo cf to mv pa ns.length lk ((List.range k).map (fun j=>(fit (au ns) j p0:Int))) pk∧Mod (fun b=>b=bm∨b=bo∨eQ=some b) w w'∧(∀ b,pk=some b→eQ=some b∨w.heap.size≤b) ∧
  ρ=[(0,.pointer (some ⟨bm,0,none⟩)),(1,I (fit (au ns) k p0:Nat))]) (l.count 0)
  ⟨0,l,_,eQ,rfl,hk.len,by omega,fun i hi=>⟨fun ⟨j,hj,_⟩=>by omega,fun _=>rfl⟩,fun j hj=>by omega,⟨aq,n2,n3,m4⟩,ag.aB (fun b hb=>.inl hb),fun b hb=>.inl hb,rfl⟩ ?_
 rintro m ρ w2 ⟨k,lk,pk,EC,rfl,kj,BT,pP,hkn,⟨p1,p2,p3,p4⟩,ae,tO,rfl⟩;unfold Qk;have Qx:=bC.mod ae hd;obtain ⟨bc,cc,v,rfl,c0,c1,c2,cx,cb,cl⟩:=xG Qx dJ (ah k);have U:=oW p2 (i:=fit (au ns) k p0) (by rw [kj];exact ah k);have b1:(0:Int)≤(fit (au ns) k p0:Nat)∧((fit (au ns) k p0:Nat):Int) < ns.length:=by have:=ah k;omega
 have hkx:lk.getD (fit (au ns) k p0) 0=0∨lk.getD (fit (au ns) k p0) 0≠0:=by omega
 simp only [go_sem,simprocAttr,ak,bh,cell_of p1,b1,U]
 refine gz (fun ρ w'=>w2=w'∧∃ q:Bool,(q=true→lk.getD (fit (au ns) k p0) 0=0∧ind ns (fit (au ns) k p0)=true)∧(q=false→lk.getD (fit (au ns) k p0) 0≠0∨ind ns (fit (au ns) k p0)=false) ∧
     ρ.get 0=some (.pointer (some ⟨bm,0,none⟩))∧ρ.get 1=some (I (fit (au ns) k p0:Nat))∧ρ.get 35=some (.bool q)) ?_ ?_
 ·refine tG rfl (fun hz=>?_) (fun hz=>?_)
  ·simp only [go_sem,simprocAttr,ak,bh,cell_of p1,b1,hz,c0];have tu:lk.getD (fit (au ns) k p0) 0=0:=by simpa using hz
   exact ⟨_,fun h=>⟨tu,h⟩,fun h=>.inr h,rfl⟩
  ·simp only [go_sem,simprocAttr,ak,bh,hz];have tu:lk.getD (fit (au ns) k p0) 0≠0:=by simpa using hz
   exact ⟨_,fun h=>(by cases h),fun _=>.inl tu,rfl⟩
 rintro ρ _ ⟨rfl,q,Jh,hq2,r0,r1,r35⟩;simp only [go_sem,simprocAttr,r0,r1,r35];refine aX rfl (fun hq=>?_) (fun hq=>?_)
 ·obtain ⟨hz,hi⟩:=Jh hq;obtain ⟨q',hq',ha,fJ⟩:=pX hw (ah k) hi;simp only [go_sem,simprocAttr,ak,bh,cell_of p1,b1];refine bL (off:=fit (au ns) k p0) rfl rfl p2 rfl (by simp;rw [kj];exact ah k) ?_;intro w3 aE ab gj;rw [map_set] at aE;have anD:=count_set lk (fit (au ns) k p0) (by rw [kj];exact ah k) hz;have abe:k+1≤ns.length:=by
   have:=List.count_le_length (a:=(0:Int)) (l:=l);rw [hk.len] at this;omega
  have q1:=ab.at p1 vt;have q3:=p3.mod ab (fun b hb hh=>p4 (hh ▸ hb));obtain ⟨ya,yc,rfl,_,_⟩:=p3.val;simp only [go_sem,simprocAttr,cell_of q1];refine dL (by rfl) (by refine σ ?_;rfl) ?_;intro w4 aJ aj eA;have q4:=q3.mod aj (fun _ _ h=>h);refine σ ?_;refine gN (m:=1) (news:=[I (fit (au ns) k p0:Nat)]) rfl q4 rfl (fun h=>by cases h) (jR aJ) (by simp [Value.oneCell']) rfl (by simp;omega) (by simp;omega) ?_;intro v5 w5 iF iG ay vn;refine σ ?_;have Qy:=aj.at q1 (fun h=>h);have Qz:=ay.at Qy (jk q4 Qy (by omega));have cd:=ay.at (aj.at aE (fun h=>h)) p4;refine bL (off:=4) rfl rfl Qz (by obtain ⟨_,_,rfl,_⟩:=iG.val;rfl) (by simp) ?_;intro w6 cO aH mV;have hF:∀ b,F b→b < w.heap.size:=by obtain ⟨_,_,_,_,_,_,h⟩:=bC;exact h
  have hdk:∀ b,F b→EC≠some b:=fun b hb hh=>by
   have h1:=hF b hb;rcases tO b hh with h2 | h2
   ·exact hd b hb (.inr (.inr h2))
   ·omega
  have tP:Mod (fun b=>b=bm∨b=bo∨EC=some b) w2 w6:=(((ab.aB (fun b hb=>.inr (.inl hb))).step aj (fun _ h _=>h.elim)).step ay (fun b hb _=>.inr (.inr hb))).step aH (fun b hb _=>.inl hb)
  have abf:=Qx.mod tP (fun b hb hh=>by
   rcases hh with hh | hh | hh
   ·exact hd b hb (.inl hh)
   ·exact hd b hb (.inr (.inl hh))
   ·exact hdk b hb hh)
  obtain ⟨bc',xH,v',xI,d0,d1,d2,dx,db,dl⟩:=xG abf dJ (ah k);cases xI;rw [ha] at dx;obtain ⟨xb,xd,rfl,_,mh⟩:=dx;obtain ⟨ad,rfl,ef⟩:=mh 0 (by simp);have Ji:w6.cell? ad=some (I (q':Nat)):=by rw [add_zero'] at ef;exact ef
  have z3:(0:Int)≤0∧(0:Int) < ((1:Nat):Int):=by omega
  simp only [go_sem,simprocAttr,ak,bh,cell_of cO,b1,d2,z3,Ji];have zK:∀ i,oX ns p0 (k+1) i↔oX ns p0 k i∨i=fit (au ns) k p0:=by
   intro i;constructor
   ·rintro ⟨j,hj,rfl⟩;rcases Nat.lt_or_ge j k with h | h
    ·exact .inl ⟨j,h,rfl⟩
    ·obtain rfl:j=k:=by omega
     exact .inr rfl
   ·rintro (⟨j,hj,rfl⟩ | rfl)
    ·exact ⟨j,by omega,rfl⟩
    ·exact ⟨k,by omega,rfl⟩
  have abg:¬ oX ns p0 k (fit (au ns) k p0):=fun h=>by
   have:=(pP _ (ah k)).1 h;omega
  refine ⟨_,?_,k+1,lk.set (fit (au ns) k p0) (-1),v5,iF,rfl,by simp [kj],by omega,?_,?_,⟨cO,aH.at cd (fun h=>vt h.symm),?_,?_⟩,?_,?_,?_⟩
  ·omega
  ·intro i bS;rw [kT _ _ _ _ (by rw [kj];exact ah k),zK];refine ⟨?_,?_⟩
   ·rintro (h | h)
    ·split
     ·rfl
     ·exact (pP i bS).1 h
    ·rw [if_pos h.symm]
   ·intro h;rw [if_neg (fun hh=>h (.inr hh.symm))];exact (pP i bS).2 (fun hh=>h (.inl hh))
  ·intro j hj;rcases Nat.lt_or_ge j k with h | h
   ·exact hkn j h
   ·obtain rfl:j=k:=by omega
    exact ⟨hi,by rw [← (pP _ (ah j)).2 abg];exact hz⟩
  ·have:=iG.mod aH (fun b hb hh=>hP iG hb (hh ▸ Qz) (by omega));rw [List.range_succ]
   simpa using this
  ·intro hh;rcases vn bo hh with h1 | h1
   ·exact p4 h1
   ·have:=lt_of_heap p2;have:=ab.size;have:=aj.size;omega
  ·refine ae.step tP (fun b hb mW=>?_);rcases hb with h | h | h
   ·exact .inl h
   ·exact .inr (.inl h)
   ·rcases tO b h with h | h
    ·exact .inr (.inr h)
    ·omega
  ·intro b hb;rcases vn b hb with h1 | h1
   ·exact tO b h1
   ·have:=ae.size;have:=ab.size;have:=aj.size;exact .inr (by omega)
  ·rw [pV,fJ]
 ·have hz:=hq2 hq;have BU:oX ns p0 k (fit (au ns) k p0)∨¬ oX ns p0 k (fit (au ns) k p0):=Classical.em _;simp only [go_sem,simprocAttr,ak,bh,cell_of p1,b1,U]
  refine Bz (fun ρ w'=>w2=w'∧∃ e:Nat,((e=fit (au ns) k p0∧l.getD e 0=0∧((ind ns e=false)∨∃ j,j < k∧e=fit (au ns) j p0))∨(l.getD (fit (au ns) k p0) 0=e+1))∧e < ns.length ∧
   ρ.get 0=some (.pointer (some ⟨bm,0,none⟩))∧ρ.get 1=some (I (fit (au ns) k p0:Nat))∧ρ.get 5=some (I e)) ?_ ?_
  ·refine aX rfl (fun hg=>?_) (fun hg=>?_)
   ·have cM:lk.getD (fit (au ns) k p0) 0 > 0:=by simpa using hg
    have iD:¬ oX ns p0 k (fit (au ns) k p0):=fun h=>by have:=(pP _ (ah k)).1 h;omega
    have Jj:=(pP _ (ah k)).2 iD;obtain ⟨e,he,QA,_⟩:=hk.rep _ (ah k) (by omega);have Jk:IntKind.i64.wrap (lk.getD (fit (au ns) k p0) 0 - 1)=e:=by rw [Jj,he,bU]<;>omega
    simp only [go_sem,simprocAttr,ak,bh,cell_of p1,b1,U,Jk];exact ⟨e,.inr he,QA,rfl⟩
   ·have cM:¬ lk.getD (fit (au ns) k p0) 0 > 0:=by simpa using hg
    refine σ ?_;refine ⟨fit (au ns) k p0,.inl ⟨rfl,?_,?_⟩,ah k,rfl⟩
    ·rcases BU with h | h
     ·obtain ⟨j,hj,he⟩:=h;rw [he];exact (hkn j hj).2
     ·have Jj:=(pP _ (ah k)).2 h;rcases Classical.em (l.getD (fit (au ns) k p0) 0=0) with h0 | h0
      ·exact h0
      ·obtain ⟨e,he,_⟩:=hk.rep _ (ah k) h0;omega
    ·rcases BU with h | h
     ·exact .inr h
     ·left
      rcases hz with hz | hz
      ·exfalso;have Jj:=(pP _ (ah k)).2 h;obtain ⟨e,he,_⟩:=hk.rep _ (ah k) (by omega);omega
      ·exact hz
  rintro ρ _ ⟨rfl,e,gR,QA,r0,r1,r5⟩;have QB:IntKind.i64.wrap ((e:Int)+1)=((e:Int)+1):=by rw [bU]<;>omega
  simp only [go_sem,simprocAttr,ak,bh,r0,r1,r5,cell_of p1,b1,QB];refine bL (off:=fit (au ns) k p0) rfl rfl p2 rfl (by simp;rw [kj];exact ah k) ?_;intro w3 aE ab gj;rw [map_set] at aE;have q1:=ab.at p1 vt;have q3:=p3.mod ab (fun b hb hh=>p4 (hh ▸ hb));obtain ⟨ya,yc,rfl,_,_⟩:=p3.val;simp only [go_sem,simprocAttr,ak,bh,cell_of q1];have bQ:((List.range k).map (fun j=>(fit (au ns) j p0:Int))).length=k:=by simp
  have abe:k≤ns.length:=by
   have:=List.count_le_length (a:=(0:Int)) (l:=l);rw [hk.len] at this;omega
  refine dz (fun m ρ w'=>∃ (t:Nat) (l2:List Int),m=k - t∧t≤k∧l2.length=ns.length∧(∀ i,i < ns.length→(i=fit (au ns) k p0∨oX ns p0 t i→l2.getD i 0=e+1)∧(¬ (i=fit (au ns) k p0∨oX ns p0 t i)→l2.getD i 0=lk.getD i 0)) ∧
   PW w' bm bo (.slice (some ⟨bc,0,none⟩) ns.length cc) to mv (.slice ya ((List.range k).map (fun j=>(fit (au ns) j p0:Int))).length yc) ns.length l2 ((List.range k).map (fun j=>(fit (au ns) j p0:Int))) EC∧Mod (· = bo) w2 w' ∧
   ρ=[(0,.pointer (some ⟨bm,0,none⟩)),(5,I e),(90,.slice ya ((List.range k).map (fun j=>(fit (au ns) j p0:Int))).length yc),(91,I ((List.range k).map (fun j=>(fit (au ns) j p0:Int))).length),(92,I t)]) k
   ⟨0,lk.set (fit (au ns) k p0) (e+1),rfl,by omega,by simp [kj],?_,⟨q1,aE,q3,p4⟩,ab,rfl⟩ ?_
  ·intro i hi;rw [kT _ _ _ _ (by rw [kj];exact ah k)];refine ⟨?_,?_⟩
   ·rintro (h | ⟨j,hj,_⟩)
    ·rw [if_pos h.symm]
    ·omega
   ·intro h;rw [if_neg (fun hh=>h (.inl hh.symm))]
  rintro m ρ w4 ⟨t,l2,rfl,jG,gv,fK,⟨o1,o2,o3,o4⟩,aj,rfl⟩;unfold Ql;have o1':=o1;have QC:=o3;rw [bQ] at o1 o3;rw [bQ];refine σ ?_;refine aX rfl (fun hc=>?_) (fun hc=>?_)
  ·have bE:t < k:=by simpa using hc
   obtain ⟨⟨xb,xd,hxe,_,mh⟩,_⟩:=QC.ints (by rw [bQ];omega);cases hxe;obtain ⟨ad,rfl,ef⟩:=mh t (by rw [bQ];exact bE);have b2:(0:Int)≤(t:Nat)∧(t:Int) < (k:Nat):=by omega
   have b3:(0:Int)≤(fit (au ns) t p0:Nat)∧((fit (au ns) t p0:Nat):Int) < ns.length:=by have:=ah t;omega
   have Ji:w4.cell? (ad.add t)=some (I (fit (au ns) t p0:Nat)):=by rw [ef];simp
   simp only [go_sem,simprocAttr,ak,bh,b2,Ji,cell_of o1,b3,QB];refine bL (off:=fit (au ns) t p0) rfl rfl o2 rfl (by simp;rw [gv];exact ah t) ?_;intro w5 cd ay iq;rw [map_set] at cd;have vu:IntKind.i64.wrap ((t:Int)+1)=((t+1:Nat):Int):=by rw [bU]<;>omega
   simp only [go_sem,simprocAttr,vu];refine ⟨_,?_,t+1,l2.set (fit (au ns) t p0) (e+1),rfl,by omega,by simp [gv],?_,⟨ay.at o1 vt,cd,?_,o4⟩,aj.trans ay,rfl⟩
   ·omega
   ·intro i hi;rw [kT _ _ _ _ (by rw [gv];exact ah t)];have zK:oX ns p0 (t+1) i↔oX ns p0 t i∨i=fit (au ns) t p0:=by
     constructor
     ·rintro ⟨j,hj,rfl⟩;rcases Nat.lt_or_ge j t with h | h
      ·exact .inl ⟨j,h,rfl⟩
      ·obtain rfl:j=t:=by omega
       exact .inr rfl
     ·rintro (⟨j,hj,rfl⟩ | rfl)
      ·exact ⟨j,by omega,rfl⟩
      ·exact ⟨t,by omega,rfl⟩
    rw [zK];refine ⟨?_,?_⟩
    ·intro h
     split
     ·rfl
     ·rename_i bq;rcases h with h | h | h
      ·exact (fK i hi).1 (.inl h)
      ·exact (fK i hi).1 (.inr h)
      ·exact absurd h.symm bq
    ·intro h;rw [if_neg (fun hh=>h (.inr (.inr hh.symm)))];exact (fK i hi).2 (fun hh=>h (hh.elim .inl (fun h=>.inr (.inl h))))
   ·have:=o3.mod ay (fun b hb hh=>o4 (hh ▸ hb))
    simpa using this
  ·have bE:t=k:=by simp at hc;omega
   subst bE;refine σ ?_
   obtain ⟨g1,g2,g3⟩:=aa9 hw hk (l':=l2) (e:=e) Qv hkn gR gv (by
    intro i hi;obtain ⟨a1,a2⟩:=fK i hi
    split
    ·rename_i hex;obtain ⟨j,hj,he⟩:=hex;refine a1 ?_;rcases Nat.lt_or_ge j t with h | h
     ·exact .inr ⟨j,h,he⟩
     ·left;rw [he];congr 1;omega
    ·rename_i hex;have iD:¬ oX ns p0 t i:=fun ⟨j,hj,he⟩=>hex ⟨j,by omega,he⟩
     rw [a2 (fun h=>by
      rcases h with h | h
      ·exact hex ⟨t,Nat.le_refl _,h⟩
      ·exact iD h)]
     exact (pP i hi).2 iD)
   refine ⟨e,l2,_,_,EC,rfl,g1,g2,g3,⟨o1',o2,QC,o4⟩,ae.step aj (fun b hb _=>.inr (.inl hb)),tO,by rw [bQ];omega⟩
end
section
open Go Go.W
def fL (ns:List Nd) (out:List Nat) (p:Nat):List Nat:=if over ns p∈out then out else out++[over ns p]
def meets (ns:List Nd) (out:List Nat) (l:List Int):List Nat:=l.foldl (fun o (p:Int)=>fL ns o p.toNat) out
def reach (ns:List Nd):Nat→Nat→List Nat→List Nat
 | 0,_,out=>out
 | f+1,i,out=>match out[i]? with
  | some x=>reach ns f (i+1) (meets ns out (ai ns x).args)
  | none=>out
def iH (ns:List Nd) (roots:List Int):List Nat:=reach ns (ns.length+1) 0 (meets ns [] roots)
def num (ns:List Nd) (out:List Nat) (p:Int):Int:=out.idxOf (over ns p.toNat)
def ED (ns:List Nd) (out:List Nat) (x:Nat):Nd:=⟨(ai ns x).kind,(ai ns x).num,(ai ns x).args.map (num ns out)⟩
def jl (ns:List Nd) (roots:List Int):List Nd:=(iH ns roots).map (ED ns (iH ns roots))
def mj (ns:List Nd) (roots:List Int):List Int:=roots.map (num ns (iH ns roots))
def Met (ns:List Nd) (out:List Nat):Prop:=out.Nodup∧∀ x∈out,x < ns.length∧over ns x=x
theorem QD (ns:List Nd):Met ns []:=⟨List.nodup_nil,fun x h=>by cases h⟩
theorem BV {ns:List Nd} {out:List Nat} (h:Met ns out):out.length≤ns.length:=zF _ _ h.1 (fun x U=>(h.2 x U).1)
theorem QE {ns:List Nd} (hw:WF ns) {out:List Nat} (h:Met ns out) {p:Nat} (hp:p < ns.length):Met ns (fL ns out p):=by
 unfold fL
 split
 ·exact h
 ·rename_i hn;refine ⟨?_,?_⟩
  ·rw [List.nodup_append];refine ⟨h.1,by simp,?_⟩;intro a ha b hb gO;simp at hb;exact hn (hb ▸ gO ▸ ha)
  ·intro x U;rcases List.mem_append.1 U with U | U
   ·exact h.2 x U
   ·simp at U;subst U;exact ⟨pW (eX hw) hp,qT (eX hw) hp⟩
theorem QF (ns:List Nd) (out:List Nat) (p:Nat):over ns p∈fL ns out p:=by
 unfold fL;split
 ·assumption
 ·simp
theorem abh (ns:List Nd) (out:List Nat) (p:Nat):out <+: fL ns out p:=by
 unfold fL;split
 ·exact List.prefix_rfl
 ·exact List.prefix_append _ _
theorem EE (ns:List Nd) (l:List Int):∀ out,out <+: meets ns out l:=by
 induction l with
 | nil=>intro out;exact List.prefix_rfl
 | cons a l ih=>intro out;exact (abh ns out a.toNat).trans (ih _)
theorem QG (ns:List Nd):∀ f i out,out <+: reach ns f i out:=by
 intro f
 induction f with
 | zero=>intro i out;exact List.prefix_rfl
 | succ f ih=>
  intro i out;unfold reach
  split
  ·exact (EE ns _ _).trans (ih _ _)
  ·exact List.prefix_rfl
theorem QH {a b:List Nat} (h:a <+: b) {x:Nat} (U:x∈a):b.idxOf x=a.idxOf x:=by
 obtain ⟨t,rfl⟩:=h;rw [List.idxOf_append,if_pos U]
theorem abi (ns:List Nd) (f i:Nat) (out:List Nat) (h:out.length≤i):reach ns f i out=out:=by
 cases f with
 | zero=>rfl
 | succ f=>simp [reach,List.getElem?_eq_none h]
theorem abj (ns:List Nd) (f i:Nat) (out:List Nat) (h:i < out.length):reach ns (f+1) i out=reach ns f (i+1) (meets ns out (ai ns out[i]).args):=by
 simp [reach,h]
theorem QI {ns:List Nd} (hw:WF ns):∀ (l:List Int) {out:List Nat},Met ns out→bK ns.length l=true→Met ns (meets ns out l):=by
 intro l
 induction l with
 | nil=>intro out h _;exact h
 | cons a l ih=>
  intro out h ho;simp only [bK,List.all_cons,Bool.and_eq_true,decide_eq_true_eq] at ho;exact ih (QE hw h (by omega)) (by simpa [bK] using ho.2)
structure MI (ns:List Nd) (l md:List Int) (out:List Nat):Prop where
 len:md.length=ns.length
 met:Met ns out
 old:∀ i,i < ns.length→md.getD i 0≠0→∃ j:Nat,md.getD i 0=j+1∧out[j]? = some (over ns i)∧l.getD i 0=i+1
 all:∀ (j x:Nat),out[j]? = some x→∃ e:Nat,e < ns.length∧md.getD e 0=j+1∧l.getD e 0=e+1
theorem abk (ns:List Nd) (l:List Int):MI ns l (List.replicate ns.length 0) []:=by
 have h0:∀ i,(List.replicate ns.length (0:Int)).getD i 0=0:=by intro i;simp [List.getElem?_replicate];split<;>rfl
 exact ⟨by simp,QD ns,fun i _ h=>absurd (h0 i) h,fun j x h=>by simp at h⟩
theorem abl {ns:List Nd} {l l' md:List Int} {out:List Nat} (h:MI ns l md out) (hm:∀ i,i < ns.length→l.getD i 0≠0→l'.getD i 0=l.getD i 0):MI ns l' md out:=by
 refine ⟨h.len,h.met,?_,?_⟩
 ·intro i hi hk;obtain ⟨j,h1,h2,h3⟩:=h.old i hi hk;exact ⟨j,h1,h2,by rw [hm i hi (by omega)];exact h3⟩
 ·intro j x U;obtain ⟨e,h1,h2,h3⟩:=h.all j x U;exact ⟨e,h1,h2,by rw [hm e h1 (by omega)];exact h3⟩
theorem QJ {out:List Nat} (hn:out.Nodup) {j x:Nat} (h:out[j]? = some x):out.idxOf x=j:=by
 obtain ⟨hj,U⟩:=List.getElem?_eq_some_iff.1 h;subst U;exact hn.idxOf_getElem j hj
theorem abm {ns:List Nd} (hw:WF ns) {l md:List Int} {out:List Nat} (hk:KI ns l) (h:MI ns l md out) {p e:Nat} (hp:p < ns.length) (he:l.getD p 0=e+1) (hm:md.getD e 0≠0) :
   over ns p∈out∧fL ns out p=out∧md.getD e 0=(out.idxOf (over ns p):Nat)+1:=by
 obtain ⟨e',h1,h2,h3,h4,_⟩:=hk.rep p hp (by omega);obtain rfl:e'=e:=by omega
 obtain ⟨j,k1,k2,k3⟩:=h.old _ h2 hm;rw [h3] at k2;have cK:over ns p∈out:=List.mem_of_getElem? k2;refine ⟨cK,by simp [fL,cK],?_⟩;rw [QJ h.met.1 k2];exact k1
theorem abn {ns:List Nd} (hw:WF ns) {l md:List Int} {out:List Nat} (hk:KI ns l) (h:MI ns l md out) {p e:Nat} (hp:p < ns.length) (he:l.getD p 0=e+1) (hm:md.getD e 0=0) :
   over ns p∉out∧fL ns out p=out++[over ns p]∧MI ns l (md.set e ((out.length:Int)+1)) (fL ns out p)∧e < ns.length∧over ns e=over ns p∧(ind ns e=true→ind ns (over ns p)=true):=by
 obtain ⟨e',h1,h2,h3,h4,h5⟩:=hk.rep p hp (by omega);obtain rfl:e'=e:=by omega
 have iD:over ns p∉out:=by
  intro cK;obtain ⟨j,hj⟩:=List.getElem?_of_mem cK;obtain ⟨i,k1,k2,k3⟩:=h.all j _ hj;obtain ⟨j',q1,q2,q3⟩:=h.old i k1 (by omega);have:j'=j:=by omega
  subst this;rw [hj] at q2;have jW:over ns i=over ns e':=by rw [h3];exact (Option.some.inj q2).symm
  have:=hk.one i e' k1 h2 (by omega) (by omega) jW;have:i=e':=by omega
  subst this;omega
 have EF:fL ns out p=out++[over ns p]:=by simp [fL,iD]
 refine ⟨iD,EF,⟨by simp [h.len],QE hw h.met hp,?_,?_⟩,h2,h3,h5⟩
 ·intro i hi QK;have tI:e' < md.length:=by rw [h.len];exact h2
  by_cases gC:e'=i
  ·subst gC;refine ⟨out.length,by simp [tI],?_,h4⟩;rw [EF,h3];simp
  ·have hg:(md.set e' ((out.length:Int)+1)).getD i 0=md.getD i 0:=by simp [List.getElem?_set,gC]
   rw [hg] at QK ⊢;obtain ⟨j,q1,q2,q3⟩:=h.old i hi QK;refine ⟨j,q1,?_,q3⟩;rw [EF,List.getElem?_append_left (List.getElem?_eq_some_iff.1 q2).1];exact q2
 ·intro j x U;have tI:e' < md.length:=by rw [h.len];exact h2
  rw [EF] at U;rcases Nat.lt_or_ge j out.length with hj | hj
  ·rw [List.getElem?_append_left hj] at U;obtain ⟨i,k1,k2,k3⟩:=h.all j x U;have gC:e'≠i:=by rintro rfl;omega
   exact ⟨i,k1,by simp only [List.getD_eq_getElem?_getD,List.getElem?_set,if_neg gC] at k2 ⊢;exact k2,k3⟩
  ·have:j=out.length:=by
    have:=(List.getElem?_eq_some_iff.1 U).1;simp at this;omega
   subst this;exact ⟨e',h2,by simp [tI],h4⟩
theorem abo {ns:List Nd} (hw:WF ns) {e x:Nat} (he:e < ns.length) (ho:over ns e=x) (hi:ind ns e=true→ind ns x=true) :
   (ai ns e).kind=(ai ns x).kind∧(ai ns e).num=(ai ns x).num∧(ai ns e).args.map (fun a:Int=>over ns a.toNat)=(ai ns x).args.map (fun a:Int=>over ns a.toNat):=by
 cases gC:ind ns e with
 | false=>
  have:over ns e=e:=zG (ob gC);rw [this] at ho;subst ho;exact ⟨rfl,rfl,rfl⟩
 | true=>
  have QL:=hi gC;have U:x < ns.length:=ho ▸ pW (eX hw) he;have mh:over ns x=x:=by rw [← ho];exact qT (eX hw) he
  obtain ⟨q,a1,a2,a3⟩:=pX hw he gC;obtain ⟨q',b1,b2,b3⟩:=pX hw U QL;have k1:(ai ns e).kind=5:=by simpa [ind] using gC
  have k2:(ai ns x).kind=5:=by simpa [ind] using QL
  have m1:=(iW hw he).1;have m2:=(iW hw U).1;simp only [Nd.may,gP,k1,k2,decide_eq_true_eq] at m1 m2;refine ⟨by rw [k1,k2],by omega,?_⟩;rw [a2,b2];have e1:over ns q=x:=by rw [← a3];exact (tM (eX hw) he).trans ho
  have e2:over ns q'=x:=by rw [← b3];exact (tM (eX hw) U).trans mh
  simp [e1,e2]
end
section
open Go Go.W
def qV (t:Nd×Nat):Nd×Value:=(t.1,.slice (some ⟨t.2,0,none⟩) t.1.args.length t.1.args.length)
structure BW (w:World) (to:Value) (ts:List (Nd×Nat)) (eY:Option Nat):Prop where
 own:ax w 277 3 to (flat (ts.map qV)) ts.length eY
 row:∀ t∈ts,w.heap[t.2]? = some (.cells (t.1.args.map I).toArray 3 (0,0))
 nodup:(ts.map Prod.snd).Nodup
theorem BW.mod {w w':World} {to:Value} {ts:List (Nd×Nat)} {eY:Option Nat} {S:Nat→Prop} (h:BW w to ts eY) (hm:Mod S w w') (h1:∀ b,eY=some b→¬ S b) (h2:∀ t∈ts,¬ S t.2):BW w' to ts eY:=
 ⟨h.own.mod hm h1,fun t ht=>hm.at (h.row t ht) (h2 t ht),h.nodup⟩
structure MW (w:World) (X:Nat→Prop) (bm bo bd:Nat) (cf to pa:Value) (n:Nat) (l md path:List Int) (ts:List (Nd×Nat)) (eY eQ:Option Nat):Prop where
 cells:w.heap[bm]? = some (.cells #[cf,to,.slice (some ⟨bo,0,none⟩) n n,.slice (some ⟨bd,0,none⟩) n n,pa] 281 (0,0))
 over:w.heap[bo]? = some (.cells (l.map I).toArray 3 (0,0))
 zL:w.heap[bd]? = some (.cells (md.map I).toArray 3 (0,0))
 path:ax w 3 1 pa (path.map I) path.length eQ
 to:BW w to ts eY
 od:bo≠bd
 po:eQ≠some bo
 pd:eQ≠some bd
 tr:∀ t∈ts,t.2≠bo∧t.2≠bd∧eQ≠some t.2
 X1:¬ X bm∧¬ X bo∧¬ X bd
 X2:∀ b,eQ=some b→¬ X b
 X3:∀ b,eY=some b→¬ X b
 X4:∀ t∈ts,¬ X t.2
 X5:∀ b,X b→b < w.heap.size
def abp (ns:List Nd) (w:World) (X:Nat→Prop) (bm bo bd:Nat) (cf:Value) (out:List Nat) (ts:List (Nd×Nat)) (p:Nat) (r:Value) (w':World):Prop:=
 ∃ (l' oY zI:List Int) (xJ BS:Value) (qW:List (Nd×Nat)) (xK zJ:Option Nat),r=I ((fL ns out p).idxOf (over ns p))∧KI ns l'∧MI ns l' oY (fL ns out p) ∧
  MW w' X bm bo bd cf xJ BS ns.length l' oY zI qW xK zJ∧Mod (fun b=>¬ X b) w w' ∧
  ((qW=ts∧fL ns out p=out)∨∃ e b,qW=ts++[(ai ns e,b)]∧fL ns out p=out++[over ns p]∧e < ns.length∧over ns e=over ns p∧(ind ns e=true→ind ns (over ns p)=true))
theorem abq (ns:List Nd) (hw:WF ns) (hn:ns.length≤1048576) (w:World) (X:Nat→Prop) (bm bo bd:Nat) (cf to pa:Value) (l md path:List Int) (ts:List (Nd×Nat)) (eY eQ:Option Nat) (F:Nat→Prop) (out:List Nat)
   (bC:pZ 277 w cf ns F) (QM:∀ b,F b→X b) (hm:MW w X bm bo bd cf to pa ns.length l md path ts eY eQ) (hk:KI ns l) (hi:MI ns l md out) (ma:ts.length=out.length) (p:Nat) (hp:p < ns.length) :
   aD Tryz.prog 241 [.pointer (some ⟨bm,0,none⟩),I p] w (abp ns w X bm bo bd cf out ts p):=by
 have dJ:=BO hw;refine aaE.calls rfl ?_;unfold Jc;refine σ ?_;refine ao (by rfl) ?_;have vt:bm≠bo:=fun h=>by have h1:=hm.cells;subst h;exact mc hm.over h1 (by omega)
 have QN:bm≠bd:=fun h=>by have h1:=hm.cells;subst h;exact mc hm.zL h1 (by omega)
 refine (abd ns hw hn w bm bo cf to _ pa l path eQ F bC (fun b hb hh=>?_) ⟨hm.cells,hm.over,hm.path,hm.po⟩ hk p hp).mono ?_
 ·have:=QM b hb;rcases hh with rfl | rfl | hh
  ·exact hm.X1.1 this
  ·exact hm.X1.2.1 this
  ·exact hm.X2 b hh this
 rintro r w1 ⟨e,l1,QO,QP,BX,rfl,eZ,hle,Jl,⟨p1,p2,p3,p4⟩,ag,vv,bQ⟩;have qX:=abl hi Jl
 have Jm:Mod (fun b=>¬ X b) w w1:=ag.aB (fun b hb=>by
  rcases hb with rfl | rfl | hb
  ·exact hm.X1.1
  ·exact hm.X1.2.1
  ·exact hm.X2 b hb)
 have abr:=bC.mod Jm (fun b hb h=>h (QM b hb))
 have zM:=ag.at hm.zL (fun h=>by
  rcases h with h | h | h
  ·exact QN h.symm
  ·exact hm.od h.symm
  ·exact hm.pd h)
 have xL:=hm.to.mod ag (fun b hb hh=>by
  have k0:=hm.to.own;rcases hh with rfl | rfl | hh
  ·exact hP k0 hb hm.cells (by omega)
  ·exact hP k0 hb hm.over (by omega)
  ·rcases hm.path.2 with ⟨_,_,h⟩ | ⟨b',c',cN,_,h,h',_⟩
   ·rw [h] at hh;cases hh
   ·rw [h] at hh;cases hh;exact hP k0 hb h' (by omega)) (fun t ht hh=>by
  have:=hm.tr t ht;rcases hh with h | h | h
  ·have k1:=hm.to.row t ht;rw [h] at k1;exact mc k1 hm.cells (by omega)
  ·exact this.1 h
  ·exact this.2.2 h)
 have abt:=eZ.rep p hp (by omega);obtain ⟨e',g1,g2,_⟩:=abt;obtain rfl:e'=e:=by omega
 have abu:=ag.size;have Jn:BX≠some bd:=fun h=>by
  rcases vv bd h with h | h
  ·exact hm.pd h
  ·have:=lt_of_heap hm.zL;omega
 have QQ:∀ t∈ts,t.2≠bo∧t.2≠bd∧BX≠some t.2:=fun t ht=>⟨(hm.tr t ht).1,(hm.tr t ht).2.1,fun h=>by
  rcases vv t.2 h with h | h
  ·exact (hm.tr t ht).2.2 h
  ·have:=lt_of_heap (hm.to.row t ht);omega⟩
 have QR:∀ b,BX=some b→¬ X b:=fun b hb U=>by
  rcases vv b hb with h | h
  ·exact hm.X2 b h U
  ·have:=hm.X5 b U;omega
 have BY:=oW zM (i:=e') (by rw [hi.len];exact g2);have b1:(0:Int)≤(e':Nat)∧((e':Nat):Int) < ns.length:=by omega
 simp only [go_sem,simprocAttr,ak,bh,cell_of p1,b1,BY]
 refine Bz (fun ρ w2=>∃ (oY:List Int) (xJ:Value) (qW:List (Nd×Nat)) (xK:Option Nat),MI ns l1 oY (fL ns out p)∧oY.getD e' 0=((fL ns out p).idxOf (over ns p):Nat)+1 ∧
    MW w2 X bm bo bd cf xJ QO ns.length l1 oY QP qW xK BX∧Mod (fun b=>¬ X b) w w2∧((qW=ts∧fL ns out p=out)∨∃ e b,qW=ts++[(ai ns e,b)]∧fL ns out p=out++[over ns p]∧e < ns.length∧over ns e=over ns p∧(ind ns e=true→ind ns (over ns p)=true)) ∧
    ρ.get 0=some (.pointer (some ⟨bm,0,none⟩))∧ρ.get 1=some (I e')) ?_ ?_
 ·refine aX rfl (fun hc=>?_) (fun hc=>?_)
  ·have bE:md.getD e' 0=0:=by simpa using hc
   obtain ⟨n1,n2,n3,n4,n5,n6⟩:=abn hw eZ qX hp hle bE;obtain ⟨bc,cc,v,rfl,c0,c1,c2,cx,cb,cl⟩:=xG abr dJ g2;have cl':cB w1.drew 2 (.pointer (some ⟨bc,e'*3,none⟩))=some (.agg #[I (ai ns e').kind,I (ai ns e').num]):=cl;simp only [go_sem,simprocAttr,ak,bh,cell_of p1,b1,c2,cl'];refine ao (by rfl) ?_;obtain ⟨xa,xc,rfl,_,_⟩:=id cx;refine (Eu _ (ai ns e').args w1.drew cx).mono ?_;rintro r w3 ⟨b3,rfl,aE,BH,ab⟩;have ab:Mod (fun _=>False) w1 w3:=ab.dj;have BH:w1.heap.size≤b3:=BH;refine σ ?_;refine ⟨⟨ab.old _ (World.block_lt_of_cell? _ _ c0) (fun h=>h),ab.old _ (lt_of_heap p1) (fun h=>h)⟩,?_⟩;refine dL (by rfl) (by refine σ ?_;rfl) ?_;intro w4 aJ aj eA;refine σ ?_;refine ⟨aj.old _ (Nat.lt_of_lt_of_le (lt_of_heap p1) ab.size) (fun h=>h),?_⟩;have oZ:Mod (fun _=>False) w1 w4:=ab.trans aj;have t4:=xL.mod oZ (fun _ _ h=>h) (fun _ _ h=>h);have QS:=oZ.at p1 (fun h=>h);have p5:=aj.at aE (fun h=>h);have Jo:=BV hi.met;have QT:=BV n3.met;rw [n2] at QT;simp only [List.length_append,List.length_cons,List.length_nil] at QT;obtain ⟨ta,tc,anE,_,_⟩:=t4.own.val;refine gN (m:=1) (news:=nc (qV (ai ns e',b3))) rfl t4.own rfl (fun h=>by cases h) (jR aJ) (by simp [nc,qV,Value.oneCell']) rfl (by omega) (by omega) ?_;intro v5 w5 iF iG ay vn;have htb:eY≠some bm:=jk t4.own QS (by omega);have Jp:=ay.at QS htb;have abv:eY≠some b3:=jk t4.own p5 (by omega);have p6:=ay.at p5 abv;obtain ⟨pS,pU,rfl,_⟩:=iG.val;refine σ ?_;refine bL (off:=1) rfl rfl Jp rfl (by simp) ?_;intro w6 cO aH mV;refine σ ?_;have oc:Mod (fun b=>b=bm∨eY=some b) w1 w6:=((oZ.aB (fun _ h=>h.elim)).step ay (fun b hb _=>.inr hb)).step aH (fun b hb _=>.inl hb);have iD:∀ b,b=bm∨eY=some b→∀ cs fz,w1.heap[b]? = some (.cells cs 3 fz)→False:=by
    rintro b (rfl | hb) cs fz hc
    ·exact mc p1 hc (by omega)
    ·exact hP xL.own hb hc (by omega)
   have QU:=oc.at zM (fun h=>iD _ h _ _ zM);simp only [go_sem,simprocAttr,ak,bh,cell_of cO,b1];refine bL (off:=e') rfl rfl QU rfl (by simp;rw [hi.len];exact g2) ?_;intro w7 cj aZ mX;have aZ:Mod (· = bd) w6 w7:=aZ.dj;rw [map_set] at cj;refine σ ?_;have xM:∀ b,b≠bd→∀ o,w6.heap[b]? = some o→w7.heap[b]? = some o:=fun b hb o ho=>aZ.at ho hb
   have cA:Mod (fun b=>¬ X b) w w7:=(Jm.step oc (fun b hb _ U=>by
    rcases hb with rfl | hb
    ·exact hm.X1.1 U
    ·exact hm.X3 b hb U)).step aZ (fun b hb _ U=>by rw [hb] at U;exact hm.X1.2.2 U)
   have anF:=oc.size;have abw:=ab.size;have abx:=oZ.size;have hlen:(ts.length:Int)+1=(out.length:Int)+1:=by omega
   refine ⟨md.set e' ((out.length:Int)+1),.slice pS (ts.length+1) pU,ts++[(ai ns e',b3)],iF,n3,?_,⟨?_,?_,?_,?_,⟨?_,?_,?_⟩,hm.od,p4,Jn,?_,hm.X1,QR,?_,?_,?_⟩,cA,.inr ⟨e',b3,rfl,n2,n4,n5,n6⟩⟩
   ·rw [kT _ _ _ _ (by rw [hi.len];exact g2),if_pos rfl,n2,List.idxOf_append,if_neg n1];simp
   ·refine xM bm QN _ ?_
    simpa using cO
   ·exact xM bo hm.od _ (oc.at p2 (fun h=>iD _ h _ _ p2))
   ·rw [← hlen];simpa using cj
   ·refine (p3.mod oc (fun b hb hh=>?_)).mod aZ (fun b hb hh=>Jn (hh ▸ hb));rcases p3.2 with ⟨_,_,h⟩ | ⟨b',c',cN,_,h,h',_⟩
    ·rw [h] at hb;cases hb
    ·rw [h] at hb;cases hb;exact iD _ hh _ _ h'
   ·have h1:=(iG.mod aH (fun b hb hh=>hP iG hb (hh ▸ Jp) (by omega)));have h2:=h1.mod aZ (fun b hb hh=>hP h1 hb (hh ▸ QU) (by omega))
    simpa [vj,Ev] using h2
   ·intro t ht;rcases List.mem_append.1 ht with ht | ht
    ·exact xM t.2 (hm.tr t ht).2.1 _ (oc.at (xL.row t ht) (fun h=>iD _ h _ _ (xL.row t ht)))
    ·simp only [List.mem_cons,List.not_mem_nil,or_false] at ht;subst ht;refine xM b3 ?_ _ (aH.at p6 (fun hh=>mc p6 (hh ▸ Jp) (by omega)));have:=lt_of_heap zM;omega
   ·rw [List.map_append,List.nodup_append];refine ⟨xL.nodup,by simp,?_⟩;intro a ha b hb gO;obtain ⟨t,ht,rfl⟩:=List.mem_map.1 ha;have:=lt_of_heap (xL.row t ht);simp at hb;omega
   ·intro t ht;rcases List.mem_append.1 ht with ht | ht
    ·exact QQ t ht
    ·simp only [List.mem_cons,List.not_mem_nil,or_false] at ht;subst ht;have:=lt_of_heap zM;have:=lt_of_heap p2;refine ⟨by show b3≠bo;omega,by show b3≠bd;omega,fun h=>?_⟩;have:b3 < w1.heap.size:=p3.lt h;omega
   ·intro b hb U;have:=hm.X5 b U;rcases vn b hb with h | h
    ·exact hm.X3 b h U
    ·omega
   ·intro t ht U;rcases List.mem_append.1 ht with ht | ht
    ·exact hm.X4 t ht U
    ·simp only [List.mem_cons,List.not_mem_nil,or_false] at ht;subst ht;have:=hm.X5 _ U;have:b3 < w.heap.size:=this;omega
   ·intro b U;have:=hm.X5 b U;have:=cA.size;omega
  ·have bE:md.getD e' 0≠0:=by simpa using hc
   obtain ⟨n1,n2,n3⟩:=abm hw eZ qX hp hle bE;refine σ ?_;refine ⟨md,to,ts,eY,by rw [n2];exact qX,by rw [n2];exact n3,⟨p1,p2,zM,p3,xL,hm.od,p4,Jn,QQ,hm.X1,QR,hm.X3,hm.X4,fun b U=>?_⟩,Jm,.inl ⟨rfl,n2⟩⟩;have:=hm.X5 b U;omega
 ·rintro ρ w2 ⟨oY,xJ,qW,xK,k1,k2,k3,k4,k5,r0,r1⟩;have ml:=oW k3.zL (i:=e') (by rw [k1.len];exact g2);have hlen:=BV k1.met;have ee:=List.idxOf_lt_length_iff.2 (QF ns out p);have Jk:IntKind.i64.wrap (oY.getD e' 0 - 1)=((fL ns out p).idxOf (over ns p):Nat):=by rw [k2,bU]<;>omega
  simp only [go_sem,simprocAttr,ak,bh,r0,r1,cell_of k3.cells,b1,ml,Jk];exact ⟨l1,oY,QP,xJ,QO,qW,xK,BX,rfl,eZ,k1,k3,k4,k5⟩
end
section
open Go Go.W
structure Rel (ns:List Nd) (fx out:List Nat) (ts:List (Nd×Nat)) (i k:Nat):Prop where
 len:ts.length=out.length
 nd:∀ (j x:Nat),out[j]? = some x→∃ nd b,ts[j]? = some (nd,b)∧nd.kind=(ai ns x).kind∧nd.num=(ai ns x).num∧nd.args.length=(ai ns x).args.length ∧
  ∀ (t:Nat) (a a0:Int),nd.args[t]? = some a→(ai ns x).args[t]? = some a0→if j < i∨(j=i∧t < k) then a=num ns fx a0 else (0≤a∧a < ns.length∧over ns a.toNat=over ns a0.toNat)
theorem aby (ns:List Nd) (fx:List Nat):Rel ns fx [] [] 0 0:=⟨rfl,fun j x h=>by simp at h⟩
theorem abz {ns:List Nd} (hw:WF ns) {fx out:List Nat} {ts:List (Nd×Nat)} {i k:Nat} (h:Rel ns fx out ts i k) (hi:i≤out.length) (jX:i=out.length→k=0) {e x b:Nat}
   (he:e < ns.length) (ho:over ns e=x) (vx:ind ns e=true→ind ns x=true):Rel ns fx (out++[x]) (ts++[(ai ns e,b)]) i k:=by
 refine ⟨by simp [h.len],?_⟩;intro j y hy;rcases Nat.lt_or_ge j out.length with hj | hj
 ·rw [List.getElem?_append_left hj] at hy;obtain ⟨nd,b',h1,h2⟩:=h.nd j y hy;exact ⟨nd,b',by rw [List.getElem?_append_left (by rw [h.len];exact hj)];exact h1,h2⟩
 ·have iX:j=out.length:=by
   have:=(List.getElem?_eq_some_iff.1 hy).1;simp at this;omega
  subst iX;have hyx:y=x:=by simpa using hy.symm
  subst hyx;obtain ⟨s1,s2,s3⟩:=abo hw he ho vx;have hl:(ai ns e).args.length=(ai ns y).args.length:=by have:=congrArg List.length s3;simpa using this
  refine ⟨ai ns e,b,by rw [← h.len];simp,s1,s2,hl,?_⟩;intro t a a0 ha sq
  rw [if_neg (by
   rintro (hh | ⟨hh,hk⟩)
   ·omega
   ·have:=jX hh.symm;omega)]
  have ct:=(iW hw he).2;have ee:a∈(ai ns e).args:=List.mem_of_getElem? ha;have:=(List.all_eq_true.1 ct) a ee;simp at this;refine ⟨this.1,this.2,?_⟩;have h3:=congrArg (fun l=>l[t]?) s3;simp [ha,sq] at h3;exact h3
theorem abA {ns:List Nd} {fx out:List Nat} {ts:List (Nd×Nat)} {i k x:Nat} (h:Rel ns fx out ts i k) (U:out[i]? = some x) (hk:(ai ns x).args.length≤k):Rel ns fx out ts (i+1) 0:=by
 refine ⟨h.len,?_⟩;intro j y hy;obtain ⟨nd,b,h1,h2,h3,h4,h5⟩:=h.nd j y hy;refine ⟨nd,b,h1,h2,h3,h4,?_⟩;intro t a a0 ha sq;have:=h5 t a a0 ha sq;by_cases lv:j=i
 ·subst lv;rw [U] at hy;cases hy;have ht:t < (ai ns x).args.length:=(List.getElem?_eq_some_iff.1 sq).1;rw [if_pos (.inr ⟨rfl,by omega⟩)] at this;rw [if_pos (.inl (by omega))];exact this
 ·by_cases ah:j < i
  ·rw [if_pos (.inl ah)] at this;rw [if_pos (.inl (by omega))];exact this
  ·rw [if_neg (by omega)] at this;rw [if_neg (by omega)];exact this
theorem abB {ns:List Nd} {fx out:List Nat} {ts:List (Nd×Nat)} {i k x b:Nat} {nd:Nd} {a0:Int} (h:Rel ns fx out ts i k) (U:out[i]? = some x) (ht:ts[i]? = some (nd,b)) (sq:(ai ns x).args[k]? = some a0) :
   Rel ns fx out (ts.set i (⟨nd.kind,nd.num,nd.args.set k (num ns fx a0)⟩,b)) i (k+1):=by
 refine ⟨by simp [h.len],?_⟩;intro j y hy;obtain ⟨nd',b',h1,h2,h3,h4,h5⟩:=h.nd j y hy;by_cases lv:i=j
 ·subst lv;rw [U] at hy;cases hy;rw [ht] at h1;cases h1;have hi:i < ts.length:=(List.getElem?_eq_some_iff.1 ht).1;refine ⟨⟨nd.kind,nd.num,nd.args.set k (num ns fx a0)⟩,b,by rw [List.getElem?_set,if_pos rfl,if_pos hi],h2,h3,by simpa using h4,?_⟩;intro t a a1 ha mY;simp only [List.getElem?_set] at ha
  split at ha
  ·rename_i iV;subst iV;rw [if_pos (.inr ⟨rfl,by omega⟩)]
   split at ha
   ·rw [sq] at mY;cases mY;exact (Option.some.inj ha).symm
   ·cases ha
  ·rename_i iV;have:=h5 t a a1 ha mY;by_cases jG:t < k
   ·rw [if_pos (.inr ⟨rfl,jG⟩)] at this;rw [if_pos (.inr ⟨rfl,by omega⟩)];exact this
   ·rw [if_neg (by omega)] at this;rw [if_neg (by omega)];exact this
 ·refine ⟨nd',b',by rw [List.getElem?_set,if_neg lv];exact h1,h2,h3,h4,?_⟩;intro t a a1 ha mY;have:=h5 t a a1 ha mY;by_cases ah:j < i
  ·rw [if_pos (.inl ah)] at this;rw [if_pos (.inl ah)];exact this
  ·rw [if_neg (by omega)] at this;rw [if_neg (by omega)];exact this
theorem abC {ns:List Nd} {fx:List Nat} {ts:List (Nd×Nat)} {i:Nat} (h:Rel ns fx fx ts i 0) (hi:fx.length≤i):ts.map Prod.fst=fx.map (ED ns fx):=by
 apply List.ext_getElem?;intro j;rcases Nat.lt_or_ge j fx.length with hj | hj
 ·obtain ⟨nd,b,h1,h2,h3,h4,h5⟩:=h.nd j fx[j] (by simp [hj]);simp only [List.getElem?_map,h1,Option.map_some,List.getElem?_eq_getElem hj]
  congr 1
  have:nd.args=(ai ns fx[j]).args.map (num ns fx):=by
   apply List.ext_getElem?;intro t;rcases Nat.lt_or_ge t nd.args.length with ht | ht
   ·have e1:nd.args[t]? = some nd.args[t]:=List.getElem?_eq_getElem ht;have e2:(ai ns fx[j]).args[t]? = some ((ai ns fx[j]).args[t]'(by omega)):=List.getElem?_eq_getElem (by omega);have:=h5 t _ _ e1 e2;rw [if_pos (.inl (by omega))] at this;rw [e1,List.getElem?_map,e2,Option.map_some,this]
   ·rw [List.getElem?_eq_none ht,List.getElem?_eq_none (by simp;omega)]
  obtain ⟨k1,n1,a1⟩:=nd;simp only [ED];simp only at h2 h3 this;rw [h2,h3,this]
 ·rw [List.getElem?_eq_none (by simp [h.len];exact hj),List.getElem?_eq_none (by simpa using hj)]
theorem QV (ns:List Nd) (a b:List Int) (out:List Nat):meets ns out (a++b)=meets ns (meets ns out a) b:=by simp [meets]
theorem EG (ns:List Nd) (l:List Int) (out:List Nat) {k:Nat} {a:Int} (h:l[k]? = some a):meets ns out (l.take (k+1))=fL ns (meets ns out (l.take k)) a.toNat:=by
 obtain ⟨hk,rfl⟩:=List.getElem?_eq_some_iff.1 h;rw [List.take_succ_eq_append_getElem hk,QV];rfl
theorem QW (ns:List Nd) (l:List Int) (out:List Nat) (k:Nat):meets ns out (l.take k) <+: meets ns out l:=by
 conv=>rhs;rw [← List.take_append_drop k l,QV]
 exact EE ns _ _
theorem abD (ns:List Nd) (out:List Nat) {p q:Nat} (h:over ns p=over ns q):fL ns out p=fL ns out q:=by simp [fL,h]
end
section
open Go Go.W
def abE (Ta Tc:Nat) (a:Nat) (size times:Int) (F:Nat→Prop) (w:World) (ns:List Nd) (roots:List Int) (r:Value) (w':World):Prop:=
 (bK ns.length roots=false→r = .tuple #[.slice none 0 0,I 202]∧Mod (fun _=>False) w w') ∧
 (bK ns.length roots=true→∃ v fp F',r = .tuple #[v,I 0]∧ax w' 3 1 v ((mj ns roots).map I) (mj ns roots).length fp ∧
  jU Ta Tc w' a size (IntKind.i64.wrap (times+1)) (jl ns roots) F'∧Grow F F' w w'∧∀ b,fp=some b→w.heap.size≤b∧¬ F' b)
theorem MW.abF {w w':World} {X S:Nat→Prop} {bm bo bd:Nat} {cf to pa:Value} {n:Nat} {l md path:List Int} {ts:List (Nd×Nat)} {eY eQ:Option Nat} (h:MW w X bm bo bd cf to pa n l md path ts eY eQ)
   (hm:Mod S w w') (hs:∀ b,S b→X b):MW w' X bm bo bd cf to pa n l md path ts eY eQ:=
 ⟨hm.at h.cells (fun hh=>h.X1.1 (hs _ hh)),hm.at h.over (fun hh=>h.X1.2.1 (hs _ hh)),hm.at h.zL (fun hh=>h.X1.2.2 (hs _ hh)),h.path.mod hm (fun b hb hh=>h.X2 b hb (hs _ hh)),
  h.to.mod hm (fun b hb hh=>h.X3 b hb (hs _ hh)) (fun t ht hh=>h.X4 t ht (hs _ hh)),h.od,h.po,h.pd,h.tr,h.X1,h.X2,h.X3,h.X4,fun b hb=>Nat.lt_of_lt_of_le (h.X5 b hb) hm.size⟩
theorem abG (f:Int→Int) (l:List Int) (z:Value) (k:Nat) (hk:k < l.length) :
   (((l.take k).map f).map I++List.replicate (l.length - k) z).set k (I (f l[k]))=((l.take (k+1)).map f).map I++List.replicate (l.length - (k+1)) z:=by
 have h1:(((l.take k).map f).map I).length=k:=by simp;omega
 rw [List.set_append,if_neg (by omega),h1,Nat.sub_self,show l.length - k=(l.length - (k+1))+1 by omega,List.replicate_succ,List.set_cons_zero,List.take_succ_eq_append_getElem hk];simp only [List.map_append,List.map_cons,List.map_nil,List.append_assoc,List.cons_append,List.nil_append]
theorem Jq {w:World} {to:Value} {ts:List (Nd×Nat)} {eY:Option Nat} (h:BW w to ts eY) {i b:Nat} {nd:Nd} (hi:ts[i]? = some (nd,b)) :
   ∃ tb tc,to = .slice (some ⟨tb,0,none⟩) ts.length tc∧w.cell? ⟨tb,i*3+2,none⟩=some (.slice (some ⟨b,0,none⟩) nd.args.length nd.args.length)∧w.heap[b]? = some (.cells (nd.args.map I).toArray 3 (0,0)):=by
 obtain ⟨ah,he⟩:=List.getElem?_eq_some_iff.1 hi;obtain ⟨tb,tc,cN,rfl,rfl,h3,_,_⟩:=h.own.pos (by omega);refine ⟨tb,tc,rfl,?_,?_⟩
 ·have:=so h3 (i:=i) (k:=2) (by simpa using ah) (by omega);rw [this];simp [nc,qV,he]
 ·have:=h.row _ (List.getElem_mem ah);rw [he] at this;exact this
theorem QX {α β:Type} (f:α→β) (l:List α) (i:Nat) (y x:α) (U:l[i]? = some x) (h:f y=f x):(l.set i y).map f=l.map f:=by
 apply List.ext_getElem?;intro j;simp only [List.getElem?_map,List.getElem?_set]
 split
 ·rename_i ek;subst ek;rw [if_pos (List.getElem?_eq_some_iff.1 U).1,U];simp [h]
 ·rfl
theorem MW.set {w w':World} {X:Nat→Prop} {bm bo bd:Nat} {cf to pa:Value} {n:Nat} {l md path:List Int} {ts:List (Nd×Nat)} {eY eQ:Option Nat} (h:MW w X bm bo bd cf to pa n l md path ts eY eQ)
   {i b:Nat} {nd:Nd} (hi:ts[i]? = some (nd,b)) {xs:List Int} (hl:xs.length=nd.args.length) (hm:Mod (· = b) w w') (hb:w'.heap[b]? = some (.cells (xs.map I).toArray 3 (0,0))) :
   MW w' X bm bo bd cf to pa n l md path (ts.set i (⟨nd.kind,nd.num,xs⟩,b)) eY eQ:=by
 have ee:=List.mem_of_getElem? hi;obtain ⟨ah,he⟩:=List.getElem?_eq_some_iff.1 hi;have gg:=h.to.row _ ee;have EH:=h.tr _ ee;have abH:(ts.set i (⟨nd.kind,nd.num,xs⟩,b)).map Prod.snd=ts.map Prod.snd:=QX _ _ _ _ _ hi rfl;have Ez:flat ((ts.set i (⟨nd.kind,nd.num,xs⟩,b)).map qV)=flat (ts.map qV):=by
  simp only [flat,List.flatMap_map];have:(ts.set i (⟨nd.kind,nd.num,xs⟩,b)).map (fun t=>nc (qV t))=ts.map (fun t=>nc (qV t)):=QX _ _ _ _ _ hi (by simp [nc,qV,hl]);rw [List.flatMap_def,List.flatMap_def,this]
 have mn:∀ t,t∈ts.set i (⟨nd.kind,nd.num,xs⟩,b)→t=(⟨nd.kind,nd.num,xs⟩,b)∨(t∈ts∧t.2≠b):=by
  intro t ht;obtain ⟨j,hj⟩:=List.getElem?_of_mem ht;rw [List.getElem?_set] at hj
  split at hj
  ·first
    | exact .inl (Option.some.inj hj).symm
    | (split at hj
       ·exact .inl (Option.some.inj hj).symm
       ·cases hj)
  ·rename_i ek;refine .inr ⟨List.mem_of_getElem? hj,fun hh=>?_⟩;obtain ⟨iX,xN⟩:=List.getElem?_eq_some_iff.1 hj;have h1:(ts.map Prod.snd)[i]'(by simpa using ah)=(ts.map Prod.snd)[j]'(by simpa using iX):=by simp [he,xN,hh]
   exact ek ((List.getElem_inj h.to.nodup).1 h1)
 refine ⟨hm.at h.cells (fun hh=>by subst hh;exact mc gg h.cells (by omega)),hm.at h.over (fun hh=>EH.1 hh.symm),hm.at h.zL (fun hh=>EH.2.1 hh.symm),h.path.mod hm (fun b' fH hh=>EH.2.2 (by rw [fH,hh])),
  ⟨?_,?_,by rw [abH];exact h.to.nodup⟩,h.od,h.po,h.pd,?_,h.X1,h.X2,h.X3,?_,fun b hb=>Nat.lt_of_lt_of_le (h.X5 b hb) hm.size⟩
 ·rw [Ez]
  simpa using h.to.own.mod hm (fun b' fH hh=>hP h.to.own fH (hh ▸ gg) (by omega))
 ·intro t ht;rcases mn t ht with rfl | ⟨h1,h2⟩
  ·exact hb
  ·exact hm.at (h.to.row t h1) h2
 ·intro t ht;rcases mn t ht with rfl | ⟨h1,h2⟩
  ·exact EH
  ·exact h.tr t h1
 ·intro t ht;rcases mn t ht with rfl | ⟨h1,h2⟩
  ·have:=h.X4 _ ee;exact this
  ·exact h.X4 t h1
def CI (ns:List Nd) (fx:List Nat) (w w':World) (bm bo bd bu:Nat) (cf:Value) (out:List Nat) (i k:Nat) (bi:Option Nat) (us:List Value):Prop:=
 ∃ l md path to pa ts eY eQ,MW w' (fun b=>b < w.heap.size∨b=bu) bm bo bd cf to pa ns.length l md path ts eY eQ∧KI ns l∧MI ns l md out∧Rel ns fx out ts i k ∧
  (∀ b,bi=some b→∃ nd,ts[i]? = some (nd,b))∧Mod (fun _=>False) w w'∧w'.heap[bu]? = some (.cells us.toArray 3 (0,0))∧w.heap.size≤bu
theorem QY {ns:List Nd} (hw:WF ns) (hn:ns.length≤1048576) {fx:List Nat} {w w':World} {bm bo bd bu:Nat} {cf:Value} {out:List Nat} {i k:Nat} {bi:Option Nat} {us:List Value} {F:Nat→Prop}
   (bC:pZ 277 w cf ns F) (h:CI ns fx w w' bm bo bd bu cf out i k bi us) (hi:i≤out.length) (jX:i=out.length→k=0) {p:Nat} (hp:p < ns.length) (p7:fL ns out p <+: fx) :
   aD Tryz.prog 241 [.pointer (some ⟨bm,0,none⟩),I p] w' (fun r w2=>r=I (fx.idxOf (over ns p):Nat)∧CI ns fx w w2 bm bo bd bu cf (fL ns out p) i k bi us):=by
 obtain ⟨l,md,path,to,pa,ts,eY,eQ,h1,h2,h3,h4,h5,h6,h7,h8⟩:=h;have hF:∀ b,F b→b < w.heap.size:=by obtain ⟨_,_,_,_,_,_,h⟩:=bC;exact h
 refine (abq ns hw hn w' _ bm bo bd cf to pa l md path ts eY eQ F out (bC.mod h6 (fun _ _ h=>h)) (fun b hb=>.inl (hF b hb)) h1 h2 h3 h4.len p hp).mono ?_;rintro r w2 ⟨l',oY,zI,xJ,BS,qW,xK,zJ,rfl,k1,k2,k3,k4,k5⟩;refine ⟨by rw [QH p7 (QF ns out p)],l',oY,zI,xJ,BS,qW,xK,zJ,k3,k1,k2,?_,?_,h6.step k4 (fun b hb ah=>hb (.inl ah)),k4.at h7 (fun hh=>hh (.inr rfl)),h8⟩
 ·rcases k5 with ⟨rfl,e⟩ | ⟨e,b,rfl,e1,e2,e3,e4⟩
  ·rw [e];exact h4
  ·rw [e1];exact abz hw h4 hi jX e2 e3 e4
 ·intro b hb;obtain ⟨nd,b9⟩:=h5 b hb;rcases k5 with ⟨rfl,e⟩ | ⟨e,b,rfl,e1,e2,e3,e4⟩
  ·exact ⟨nd,b9⟩
  ·exact ⟨nd,by rw [List.getElem?_append_left (List.getElem?_eq_some_iff.1 b9).1];exact b9⟩
theorem QZ (a:Nat) (size times:Int) (ns:List Nd) (F:Nat→Prop) (w:World) (v:Value) (roots:List Int) (h:jU 205 277 w a size times ns F) (hn:ns.length≤1048576) (hw:WF ns) (U:Ints w v roots) :
   aD Tryz.prog 232 [.pointer (some ⟨a,0,none⟩),v] w (abE 205 277 a size times F w ns roots):=by
 have hh:=h.has;have il:=U;obtain ⟨va,vc,rfl,vy,_⟩:=il;refine aaw.calls rfl ?_;unfold I5;(try simp only [go_sem,simprocAttr]);refine ao (by rfl) ?_;refine (zE a ns.length _ roots w hh U).mono ?_;rintro r _ ⟨rfl,rfl⟩;(try simp only [go_sem,simprocAttr]);refine aX rfl (fun hc=>?_) (fun hc=>?_)
 ·have bE:bK ns.length roots=false:=by simpa using hc
  (try simp only [go_sem,simprocAttr]);exact ⟨fun _=>⟨rfl,Mod.refl _ _⟩,fun h=>by rw [bE] at h;cases h⟩
 have bE:bK ns.length roots=true:=by simpa using hc
 obtain ⟨cv,dT,ps,g1,g2,g3,g4,g5,g6,g7⟩:=id h;have Q0:a < w.heap.size:=lt_of_heap g1;have bC:pZ 277 w cv ns F:=⟨dT,ps,g3,g4,g5,g6,g7⟩;obtain ⟨ca,cc,rfl,_,_⟩:=g3.val;(try simp only [go_sem,simprocAttr,cell_of g1])
 refine Ej (fun ρ w'=>∃ bo bd bm,ρ.get 0=some (.pointer (some ⟨a,0,none⟩))∧ρ.get 1=some (.slice va roots.length vc)∧ρ.get 6=some (.pointer (some ⟨bm,0,none⟩)) ∧
  w'.heap[bm]? = some (.cells #[.slice ca ns.length cc,.slice none 0 0,.slice (some ⟨bo,0,none⟩) ns.length ns.length,.slice (some ⟨bd,0,none⟩) ns.length ns.length,.slice none 0 0] 281 (0,0)) ∧
  w'.heap[bo]? = some (.cells (List.replicate ns.length (I 0)).toArray 3 (0,0))∧w'.heap[bd]? = some (.cells (List.replicate ns.length (I 0)).toArray 3 (0,0))∧bo≠bd∧w.heap.size≤bo∧w.heap.size≤bd∧w.heap.size≤bm ∧
  Mod (fun _=>False) w w') ?_ ?_
 ·rw [Ei];refine ⟨?_,?_⟩
  ·refine sb (n:=ns.length) rfl (by omega) (by omega) ?_;intro w1 aq ag cL;have ag:Mod (fun _=>False) w w1:=ag.dj;have cL:w1.heap.size=w.heap.size+1:=cL;(try simp only [go_sem,simprocAttr]);have ka:=ag.old a Q0 (fun h=>h);refine ⟨by simp only [gZ,ka,and_self,implies_true],?_⟩;refine sb (n:=ns.length) rfl (by omega) (by omega) ?_;intro w2 an ae dh;have xO:=ae.old a (by omega) (fun h=>h);(try simp only [go_sem,simprocAttr]);refine ⟨by simp only [gZ,xO,and_self,implies_true],?_⟩;refine b8 rfl ?_;intro w3 aE ab gj;(try simp only [go_sem,simprocAttr]);refine ⟨w.heap.size,w1.heap.size,w2.heap.size,?_⟩;have mZ:=ae.trans ab;refine ⟨rfl,aE,mZ.at aq (fun h=>h),ab.at an (fun h=>h),?_,?_,?_,?_,(ag.trans ae).trans ab⟩
   all_goals omega
  ·refine sb (n:=ns.length) rfl (by omega) (by omega) ?_;intro w1 aq ag cL;have ag:Mod (fun _=>False) w w1:=ag.dj;have cL:w1.heap.size=w.heap.size+1:=cL;(try simp only [go_sem,simprocAttr]);have ka:=ag.old a Q0 (fun h=>h);refine ⟨by simp only [gZ,ka,and_self,implies_true],?_⟩;refine sb (n:=ns.length) rfl (by omega) (by omega) ?_;intro w2 an ae dh;have xO:=ae.old a (by omega) (fun h=>h);(try simp only [go_sem,simprocAttr]);refine ⟨by simp only [gZ,xO,and_self,implies_true],?_⟩;refine b8 rfl ?_;intro w3 aE ab gj;(try simp only [go_sem,simprocAttr]);refine ⟨w1.heap.size,w.heap.size,w2.heap.size,?_⟩;have mZ:=ae.trans ab;refine ⟨rfl,aE,ab.at an (fun h=>h),mZ.at aq (fun h=>h),?_,?_,?_,?_,(ag.trans ae).trans ab⟩
   all_goals omega
 rintro ρ w3 ⟨bo,bd,bm,r0,r1,r6,m1,m2,m3,mod,mo,md,mm,ab⟩;(try simp only [go_sem,simprocAttr,r0,r1,r6]);refine sb (n:=roots.length) rfl (by omega) (by omega) ?_;intro w4 aJ aj eA;have Q1:=ab.trans aj;have Q1:=ab.trans aj;have abI:∀ (k:Nat) (hk:k < roots.length),0≤roots[k]∧roots[k] < ns.length:=fun k hk=>by
  have:=(List.all_eq_true.1 bE) roots[k] (List.getElem_mem hk)
  simpa using this
 have Q2:w.heap.size≤w3.heap.size:=ab.size;have Q3:List.replicate ns.length (I 0)=(List.replicate ns.length (0:Int)).map I:=by simp
 have bq:∀ b o,w3.heap[b]? = some o→b≠w3.heap.size:=fun b o h=>by have:=lt_of_heap h;omega
 have abJ:CI ns (iH ns roots) w w4 bm bo bd w3.heap.size (.slice ca ns.length cc) [] 0 0 none (List.replicate roots.length (I 0)):=by
  refine ⟨List.replicate ns.length 0,List.replicate ns.length 0,[],.slice none 0 0,.slice none 0 0,[],none,none,?_,aa8 ns,abk ns _,aby ns _,(fun b h=>by cases h),Q1,aJ,Q2⟩;have n1:=bq _ _ m1;have n2:=bq _ _ m2;have n3:=bq _ _ m3;refine ⟨aj.at m1 (fun h=>h),by rw [← Q3];exact aj.at m2 (fun h=>h),by rw [← Q3];exact aj.at m3 (fun h=>h),ax.nil _ _ _,⟨ax.nil _ _ _,(fun t h=>by cases h),List.nodup_nil⟩,mod,(fun h=>by cases h),(fun h=>by cases h),(fun t h=>by cases h),?_,(fun b h=>by cases h),(fun b h=>by cases h),(fun t h=>by cases h),?_⟩
  ·omega
  ·intro b hb;omega
 (try simp only [go_sem,simprocAttr])
 refine dz (fun m ρ w'=>∃ k:Nat,m=roots.length - k∧k≤roots.length∧CI ns (iH ns roots) w w' bm bo bd w3.heap.size (.slice ca ns.length cc) (meets ns [] (roots.take k)) 0 0 none (((roots.take k).map (num ns (iH ns roots))).map I++List.replicate (roots.length - k) (I 0)) ∧
  ρ=[(0,.pointer (some ⟨a,0,none⟩)),(6,.pointer (some ⟨bm,0,none⟩)),(7,.slice (some ⟨w3.heap.size,0,none⟩) roots.length roots.length),(39,.slice va roots.length vc),(40,I roots.length),(41,I k)]) roots.length
  ⟨0,rfl,by omega,by simpa [meets] using abJ,rfl⟩ ?_
 rintro m ρ w5 ⟨k,rfl,hk,sr,rfl⟩;unfold Qg;(try simp only [go_sem,simprocAttr]);refine aX rfl (fun ah=>?_) (fun ah=>?_)
 ·have mW:k < roots.length:=by simpa using ah
  have EI:Ints w5 (.slice va roots.length vc) roots:=by
   obtain ⟨_,_,_,_,_,_,_,_,_,_,_,_,_,hm,_⟩:=sr;exact U.mod hm (fun _ _ h=>h)
  obtain ⟨_,_,hve,_,mh⟩:=id EI;cases hve;obtain ⟨ad,rfl,ef⟩:=mh k mW;have b1:(0:Int)≤k∧(k:Int) < roots.length:=by omega
  have hr:=abI k mW;have EJ:roots[k]=((roots[k].toNat:Nat):Int):=by omega
  rw [EJ] at ef;(try simp only [go_sem,simprocAttr,ak,bh,b1,ef]);have p7:fL ns (meets ns [] (roots.take k)) roots[k].toNat <+: iH ns roots:=by
   rw [← EG ns roots [] (a:=roots[k]) (by simp [mW])];exact (QW ns roots [] (k+1)).trans (QG ns _ _ _)
  refine ao (by rfl) ?_;refine (QY hw hn bC sr (by omega) (fun _=>rfl) (by omega) p7).mono ?_;rintro r w6 ⟨rfl,l,md,path,to,pa,ts,eY,eQ,q1,q2,q3,q4,q5,q6,q7,q8⟩;(try simp only [go_sem,simprocAttr,ak,bh,b1]);refine bL (off:=k) rfl rfl q7 rfl (by simp;omega) ?_;intro w7 cj aZ mX;have vu:IntKind.i64.wrap ((k:Int)+1)=((k+1:Nat):Int):=by rw [bU]<;>omega
  (try simp only [go_sem,simprocAttr,vu]);refine ⟨_,?_,k+1,rfl,by omega,⟨l,md,path,to,pa,ts,eY,eQ,q1.abF aZ (fun b hb=>.inr hb),q2,?_,?_,q5,q6.step aZ (fun b hb ah=>by omega),?_,q8⟩,rfl⟩
  ·omega
  ·rw [EG ns roots [] (a:=roots[k]) (by simp [mW])];exact q3
  ·rw [EG ns roots [] (a:=roots[k]) (by simp [mW])];exact q4
  ·rw [cj]
   congr 3
   exact abG (num ns (iH ns roots)) roots (I 0) k mW
 ·have mW:k=roots.length:=by simp at ah;omega
  subst mW;(try simp only [go_sem,simprocAttr]);have abK:((roots.take roots.length).map (num ns (iH ns roots))).map I++List.replicate (roots.length - roots.length) (I 0)=(mj ns roots).map I:=by simp [mj]
  rw [abK,List.take_length] at sr
  refine dz (fun m ρ w'=>∃ (i f:Nat) (out:List Nat),m=ns.length+1 - i∧f+i=ns.length+1∧i≤out.length∧reach ns f i out=iH ns roots ∧
   CI ns (iH ns roots) w w' bm bo bd w3.heap.size (.slice ca ns.length cc) out i 0 none ((mj ns roots).map I) ∧
   ρ=[(0,.pointer (some ⟨a,0,none⟩)),(6,.pointer (some ⟨bm,0,none⟩)),(7,.slice (some ⟨w3.heap.size,0,none⟩) roots.length roots.length),(10,I i)]) (ns.length+1)
   ⟨0,ns.length+1,_,rfl,rfl,Nat.zero_le _,rfl,sr,rfl⟩ ?_
  rintro m ρ w6 ⟨i,f,out,rfl,Q4,hio,BZ,abL,rfl⟩;unfold Qi;obtain ⟨l,oY,path,to,pa,ts,eY,eQ,q1,q2,q3,q4,q5,q6,q7,q8⟩:=id abL;obtain ⟨ta,tc,rfl,_,_⟩:=q1.to.own.val;have anG:=BV q3.met;(try simp only [go_sem,simprocAttr,ak,bh,cell_of q1.cells]);refine aX rfl (fun ah=>?_) (fun ah=>?_)
  ·have mW:i < ts.length:=by simpa using ah
   have tQ:i < out.length:=by rw [← q4.len];exact mW
   have Jr:out[i]? = some out[i]:=by simp [tQ]
   obtain ⟨nd,b,t1,t2,t3,t4,t5⟩:=q4.nd i out[i] Jr;obtain ⟨tb,tc',zk,abM,anH⟩:=Jq q1.to t1;cases zk;have b1:(0:Int)≤i∧(i:Int) < ts.length:=by omega
   (try simp only [go_sem,simprocAttr,ak,bh,cell_of q1.cells,b1,abM]);have anI:nd.args.length=(ai ns out[i]).args.length:=t4;have hA8:nd.args.length≤8:=by
    rw [t4];have U:=q3.met.2 out[i] (List.getElem_mem tQ);have hm:=(iW hw U.1).1;simp only [Nd.may,gP,decide_eq_true_eq] at hm;omega
   obtain ⟨f,rfl⟩:∃ f',f=f'+1:=⟨f - 1,by omega⟩;have vz:=abj ns f i out tQ;rw [vz] at BZ;have abN:meets ns out (ai ns out[i]).args <+: iH ns roots:=by rw [← BZ];exact QG ns _ _ _
   have EI:=out[i]
   refine dz (fun m ρ w'=>∃ k:Nat,m=nd.args.length - k∧k≤nd.args.length∧CI ns (iH ns roots) w w' bm bo bd w3.heap.size (.slice ca ns.length cc) (meets ns out ((ai ns out[i]).args.take k)) i k (some b) ((mj ns roots).map I) ∧
    ρ=[(0,.pointer (some ⟨a,0,none⟩)),(6,.pointer (some ⟨bm,0,none⟩)),(7,.slice (some ⟨w3.heap.size,0,none⟩) roots.length roots.length),(10,I i),(69,.slice (some ⟨b,0,none⟩) nd.args.length nd.args.length),(70,I nd.args.length),(71,I k)]) nd.args.length
    ⟨0,rfl,Nat.zero_le _,⟨l,oY,path,_,pa,ts,eY,eQ,q1,q2,q3,q4,(fun b' fH=>by cases fH;exact ⟨nd,t1⟩),q6,q7,q8⟩,rfl⟩ ?_
   rintro m ρ w7 ⟨k,rfl,hk,EK,rfl⟩;have Q5:out <+: meets ns out ((ai ns out[i]).args.take k):=EE ns _ _;have abO:=Q5.length_le;have Js:(meets ns out ((ai ns out[i]).args.take k))[i]? = some out[i]:=by
    obtain ⟨tl,qY⟩:=Q5;rw [← qY,List.getElem?_append_left tQ];exact Jr
   unfold Qh;(try simp only [go_sem,simprocAttr]);refine aX rfl (fun kj=>?_) (fun kj=>?_)
   ·have abP:k < nd.args.length:=by simpa using kj
    obtain ⟨l2,Q6,Q7,Q8,Q9,Ra,Rb,Rc,u1,u2,u3,u4,u5,u6,u7,u8⟩:=id EK;obtain ⟨Re,v1⟩:=u5 b rfl;obtain ⟨anJ,Rf,Rg,v2,v3,v4,v5⟩:=u4.nd i out[i] Js;rw [v1] at Rg;cases Rg;have abQ:k < Re.args.length:=by omega
    have hA0:(ai ns out[i]).args[k]? = some ((ai ns out[i]).args[k]'(by omega)):=List.getElem?_eq_getElem (by omega);obtain ⟨a1,mY⟩:∃ a1,Re.args[k]? = some a1:=⟨_,List.getElem?_eq_getElem abQ⟩;obtain ⟨a0,sq⟩:∃ a0,(ai ns out[i]).args[k]? = some a0:=⟨_,hA0⟩;have Rh:=v5 k a1 a0 mY sq;rw [if_neg (by omega)] at Rh;obtain ⟨r1',r2',Ri⟩:=Rh;obtain ⟨_,_,_,_,abR⟩:=Jq u1.to v1;have fP:w7.cell? ⟨b,k,none⟩=some (I ((a1.toNat:Nat):Int)):=by
     rw [cell_of abR];have:((a1.toNat:Nat):Int)=a1:=by omega
     rw [this];simp [mY]
    have b2:(0:Int)≤k∧(k:Int) < nd.args.length:=by omega
    (try simp only [go_sem,simprocAttr,ak,bh,b2,fP]);have mq:fL ns (meets ns out ((ai ns out[i]).args.take k)) a1.toNat=meets ns out ((ai ns out[i]).args.take (k+1)):=by
     rw [EG ns _ _ sq];exact abD ns _ Ri
    refine ao (by rfl) ?_;refine (QY hw hn bC EK (by omega) (fun hh=>by omega) (by omega) (by rw [mq];exact (QW ns _ _ _).trans abN)).mono ?_;rintro r w8 ⟨rfl,Rj⟩;rw [mq] at Rj;obtain ⟨l3,md3,abS,to3,pa3,Jt,abT,abU,x1,x2,x3,x4,x5,x6,x7,x8⟩:=Rj;obtain ⟨EL,y1⟩:=x5 b rfl;obtain ⟨tb3,tc3,rfl,abV,abW⟩:=Jq x1.to y1;have Rk:(meets ns out ((ai ns out[i]).args.take (k+1)))[i]? = some out[i]:=by
     obtain ⟨tl,qY⟩:=EE ns ((ai ns out[i]).args.take (k+1)) out;rw [← qY,List.getElem?_append_left tQ];exact Jr
    obtain ⟨anK,b3',Rl,y2,y3,y4,y5⟩:=x4.nd i out[i] Rk;rw [y1] at Rl;cases Rl;have abX:i < Jt.length:=(List.getElem?_eq_some_iff.1 y1).1;have b3:(0:Int)≤i∧(i:Int) < Jt.length:=by omega
    have b4:(0:Int)≤k∧(k:Int) < EL.args.length:=by omega
    (try simp only [go_sem,simprocAttr,ak,bh,cell_of x1.cells,b3,abV,b4]);refine bL (off:=k) rfl rfl abW rfl (by simp;omega) ?_;intro w9 kn dq zN;rw [map_set] at kn;have vu:IntKind.i64.wrap ((k:Int)+1)=((k+1:Nat):Int):=by rw [bU]<;>omega
    (try simp only [go_sem,simprocAttr,vu]);have iu:((iH ns roots).idxOf (over ns a1.toNat):Int)=num ns (iH ns roots) a0:=by simp [num,Ri]
    rw [iu] at kn;have hXb:=x1.X4 _ (List.mem_of_getElem? y1);have anL:¬ (b < w.heap.size∨b=w3.heap.size):=hXb;refine ⟨_,?_,k+1,rfl,by omega,⟨l3,md3,abS,_,pa3,Jt.set i (⟨EL.kind,EL.num,EL.args.set k (num ns (iH ns roots) a0)⟩,b),abT,abU,x1.set y1 (by simp) dq kn,x2,x3,abB x4 Rk y1 sq,?_,x6.step dq (fun b' fH ah=>by omega),dq.at x7 (fun hh=>by omega),x8⟩,rfl⟩
    ·omega
    ·intro b' fH;cases fH;exact ⟨_,by rw [List.getElem?_set,if_pos rfl,if_pos abX]⟩
   ·have abP:k=nd.args.length:=by simp at kj;omega
    have zO:IntKind.i64.wrap ((i:Int)+1)=((i+1:Nat):Int):=by rw [bU]<;>omega
    (try simp only [go_sem,simprocAttr,zO]);have jG:(ai ns out[i]).args.take k=(ai ns out[i]).args:=List.take_of_length_le (by omega);rw [jG] at EK Js abO;obtain ⟨l2,Q6,Q7,Q8,Q9,Ra,Rb,Rc,u1,u2,u3,u4,u5,u6,u7,u8⟩:=EK;refine ⟨_,?_,i+1,f,meets ns out (ai ns out[i]).args,rfl,by omega,by omega,BZ,⟨l2,Q6,Q7,Q8,Q9,Ra,Rb,Rc,u1,u2,u3,abA u4 Js (by omega),(fun b h=>by cases h),u6,u7,u8⟩,rfl⟩;omega
  ·have mW:¬ i < ts.length:=by simpa using ah
   have gC:out.length≤i:=by rw [← q4.len];omega
   rw [abi ns f i out gC] at BZ;subst BZ;have Rm:=abC q4 gC;have g16:=q6.at g1 (fun h=>h);(try simp only [go_sem,simprocAttr,ak,bh,cell_of q1.cells,cell_of g16]);refine bL (off:=1) rfl rfl g16 rfl (by simp) ?_;intro w7 cj aZ mX;(try simp only [go_sem,simprocAttr,cell_of cj]);refine bL (off:=2) rfl rfl cj rfl (by simp) ?_;intro w8 en bY qZ;(try simp only [go_sem,simprocAttr]);refine ⟨fun h=>(by rw [bE] at h;cases h),fun _=>⟨_,some w3.heap.size,fun b=>b=a∨eY=some b∨∃ t∈ts,t.2=b,rfl,?_,?_,?_,?_⟩⟩
   ·have Ju:w3.heap.size≠a:=by omega
    have:=ax.jQ (sz:=1) (n:=roots.length) (bY.at (aZ.at q7 Ju) Ju) (by simp [mj]);have hl:(mj ns roots).length=roots.length:=by simp [mj]
    rw [hl];exact this
   ·have ma:ts.length=(jl ns roots).length:=by rw [jl,← Rm];simp
    have Rn:∀ b,eY=some b→¬ b=a:=fun b hb hh=>q1.X3 b hb (.inl (by omega))
    have Ro:∀ t∈ts,¬ t.2=a:=fun t ht hh=>q1.X4 t ht (.inl (by omega))
    have qZ:w8.heap.size=w6.heap.size:=qZ.trans mX;have gg:∀ t∈ts,w8.heap[t.2]? = some (.cells (t.1.args.map I).toArray 3 (0,0)):=fun t ht=>bY.at (aZ.at (q1.to.row t ht) (Ro t ht)) (Ro t ht)
    refine ⟨.slice ta ts.length tc,eY,ts.map qV,by simpa using en,.inl rfl,?_,(fun b hb=>.inr (.inl hb)),?_,?_,?_⟩
    ·rw [← ma];exact (q1.to.own.mod aZ Rn).mod bY Rn
    ·intro p hp;obtain ⟨t,ht,rfl⟩:=List.mem_map.1 hp;exact ⟨some t.2,ax.jQ (gg t ht) (by simp [qV]),fun b hb=>.inr (.inr ⟨t,ht,by cases hb;rfl⟩)⟩
    ·rw [List.map_map,jl,← Rm];rfl
    ·intro b hb;rcases hb with rfl | hb | ⟨t,ht,rfl⟩
     ·have:=q6.size;omega
     ·have:=q1.to.own.lt hb;omega
     ·exact lt_of_heap (gg t ht)
   ·refine ⟨((q6.aB (fun _ h=>h.elim)).step aZ (fun b hb _=>hb ▸ g2)).step bY (fun b hb _=>hb ▸ g2),?_⟩;rintro b (rfl | hb | ⟨t,ht,rfl⟩)
    ·exact .inl g2
    ·have:=q1.X3 b hb;exact .inr (by omega)
    ·have:=q1.X4 t ht;exact .inr (by omega)
   ·intro b hb;cases hb;refine ⟨Q2,?_⟩;rintro (hh | hb | ⟨t,ht,hh⟩)
    ·omega
    ·exact q1.X3 _ hb (.inr rfl)
    ·exact q1.X4 t ht (.inr hh)
end
section
open Go Go.W
structure Rp where
 out:Option (List Int)
 err:Int
 ns:List Nd
 times:Int
def iY (size times:Int) (ns:List Nd) (n:Int) (roots:List Int):Rp:=
 if n < 0 then ⟨none,1,ns,times⟩ else if bK ns.length roots=false then ⟨none,202,ns,times⟩ else if n≤size - ns.length then ⟨some roots,0,ns,times⟩
 else if n > size - (jl ns roots).length then ⟨none,201,jl ns roots,IntKind.i64.wrap (times+1)⟩ else ⟨some (mj ns roots),0,jl ns roots,IntKind.i64.wrap (times+1)⟩
def abY (Ta Tc:Nat) (a:Nat) (size:Int) (F:Nat→Prop) (w:World) (s:Rp) (r:Value) (w':World):Prop:=
 ∃ F',jU Ta Tc w' a size s.times s.ns F'∧Grow F F' w w'∧(s.out=none→r = .tuple #[.slice none 0 0,I s.err]) ∧
  (∀ l,s.out=some l→∃ v fp,r = .tuple #[v,I s.err]∧ax w' 3 1 v (l.map I) l.length fp∧∀ b,fp=some b→w.heap.size≤b∧¬ F' b)
theorem abZ {ns:List Nd} (hw:WF ns) (roots:List Int) (ho:bK ns.length roots=true):(jl ns roots).length≤ns.length:=by
 have key:∀ f i out,Met ns out→Met ns (reach ns f i out):=by
  intro f
  induction f with
  | zero=>intro i out h;exact h
  | succ f ih=>
   intro i out h;unfold reach
   split
   ·rename_i x U;exact ih _ _ (QI hw _ h (iW hw (h.2 x (List.mem_of_getElem? U)).1).2)
   ·exact h
 have:=BV (key (ns.length+1) 0 _ (QI hw roots (QD ns) ho))
 simpa [jl,iH] using this
theorem ab0 (a:Nat) (size times:Int) (ns:List Nd) (F:Nat→Prop) (w:World) (n:Int) (v:Value) (roots:List Int) (h:jU 205 277 w a size times ns F) (hn:ns.length≤1048576) (pM:0≤size) (hs:size≤1048576) (hw:WF ns) (U:Ints w v roots) :
   aD Tryz.prog 235 [.pointer (some ⟨a,0,none⟩),I n,v] w (abY 205 277 a size F w (iY size times ns n roots)):=by
 have il:=U;obtain ⟨va,vc,rfl,vy,_⟩:=il;have same:∀ w',Mod (fun _=>False) w w'→∃ F',jU 205 277 w' a size times ns F'∧Grow F F' w w':=fun w' hm=>
  ⟨F,h.mod hm (fun _ _ h=>h),hm.aB (fun _ h=>h.elim),fun b hb=>.inl hb⟩
 refine aay.calls rfl ?_;unfold I7;refine σ ?_;refine aX rfl (fun hc=>?_) (fun hc=>?_)
 ·have bE:n < 0:=by simpa using hc
  refine σ ?_;have e:iY size times ns n roots=⟨none,1,ns,times⟩:=by unfold iY;rw [if_pos bE]
  rw [e];exact ⟨F,h,⟨Mod.refl _ _,fun b hb=>.inl hb⟩,fun _=>rfl,fun l hl=>(by cases hl)⟩
 have dk:¬ n < 0:=by simpa using hc
 refine σ ?_;refine δ (by rfl) (zE a ns.length _ roots w h.has U) ?_;rintro r _ ⟨rfl,rfl⟩;refine σ ?_;refine aX rfl (fun hc=>?_) (fun hc=>?_)
 ·have bE:bK ns.length roots=false:=by simpa using hc
  refine σ ?_;have e:iY size times ns n roots=⟨none,202,ns,times⟩:=by unfold iY;rw [if_neg dk,if_pos bE]
  rw [e];exact ⟨F,h,⟨Mod.refl _ _,fun b hb=>.inl hb⟩,fun _=>rfl,fun l hl=>(by cases hl)⟩
 have cy:bK ns.length roots=true:=by simpa using hc
 obtain ⟨cv,dT,ps,g1,g2,g3,g4,g5,g6,g7⟩:=id h;obtain ⟨ca,cc,rfl,_,_⟩:=g3.val;have oP:IntKind.i64.wrap (size - (ns.length:Int))=size - ns.length:=by rw [bU]<;>omega
 simp only [go_sem,simprocAttr,cell_of g1,oP];refine aX rfl (fun hc=>?_) (fun hc=>?_)
 ·have bE:n≤size - ns.length:=by simpa using hc
  have e:iY size times ns n roots=⟨some roots,0,ns,times⟩:=by unfold iY;rw [if_neg dk,if_neg (by simp [cy]),if_pos bE]
  rw [e];refine σ ?_;refine δ (by rfl) (Eu _ roots w.drew U) ?_;rintro r w2 ⟨b2,rfl,an,hge,ae⟩;have ae:=ae.dj;have hge:w.heap.size≤b2:=hge;refine σ ?_;refine ⟨F,h.mod ae (fun _ _ h=>h),⟨ae.aB (fun _ h=>h.elim),fun b hb=>.inl hb⟩,fun hh=>(by cases hh),fun l hl=>?_⟩;cases hl;exact ⟨_,some b2,rfl,ax.jQ an (by simp),fun b hb=>by cases hb;exact ⟨hge,fun hF=>by have:=g7 _ hF;omega⟩⟩
 have eh:¬ n≤size - ns.length:=by simpa using hc
 refine σ ?_;refine δ (by rfl) (QZ a size times ns F w.drew _ roots h hn hw U) ?_;rintro r w2 ⟨_,k2⟩;obtain ⟨v2,jH,F2,rfl,k3,k4,⟨k5,k6⟩,k7⟩:=k2 cy;have k5:Mod F w w2:=k5.dj;have k6:∀ b,F2 b→F b∨w.heap.size≤b:=k6;have k7:∀ b,jH=some b→w.heap.size≤b∧¬ F2 b:=k7;have gh:=abZ hw roots cy;obtain ⟨cv2,anM,ps2,j1,j2,j3,j4,j5,j6,j7⟩:=id k4;obtain ⟨ca2,cc2,rfl,_,_⟩:=j3.val;have q0:IntKind.i64.wrap (size - ((jl ns roots).length:Int))=size - (jl ns roots).length:=by rw [bU]<;>omega
 simp only [go_sem,simprocAttr,cell_of j1,q0];refine aX rfl (fun hc=>?_) (fun hc=>?_)
 ·have bE:n > size - (jl ns roots).length:=by simpa using hc
  have e:iY size times ns n roots=⟨none,201,jl ns roots,IntKind.i64.wrap (times+1)⟩:=by unfold iY;rw [if_neg dk,if_neg (by simp [cy]),if_neg eh,if_pos bE]
  rw [e];refine σ ?_;exact ⟨F2,k4,⟨k5.drew,k6⟩,fun _=>rfl,fun l hl=>(by cases hl)⟩
 ·have bE:¬ n > size - (jl ns roots).length:=by simpa using hc
  have e:iY size times ns n roots=⟨some (mj ns roots),0,jl ns roots,IntKind.i64.wrap (times+1)⟩:=by unfold iY;rw [if_neg dk,if_neg (by simp [cy]),if_neg eh,if_neg bE]
  rw [e];refine σ ?_;refine ⟨F2,k4,⟨k5.drew,k6⟩,fun hh=>(by cases hh),fun l hl=>?_⟩;cases hl;exact ⟨v2,jH,rfl,k3,k7⟩
end
section
open Go Go.W
theorem Rq (k n:Int) (v:Value) (xs:List Int) (w:World) (U:Ints w v xs) :
   aD Tryz.prog 193 [.agg #[I k,I n,v]] w fun r w'=>r = .bool (gP k n xs.length)∧Mod (fun _=>False) w w':=by
 obtain ⟨a,c,rfl,hl,_⟩:=U;refine aai.calls rfl ?_;unfold IP;refine σ ?_;refine b8 rfl ?_;intro w1 hb hm _;have ah:=lt_of_heap hb;simp only [go_sem,simprocAttr,cell_of hb]
 repeat' (first | (refine aX rfl (fun h=>?_) (fun h=>?_)<;>simp only [go_sem,simprocAttr,cell_of hb,h]) | (refine tG rfl (fun h=>?_) (fun h=>?_)<;>simp only [go_sem,simprocAttr,cell_of hb,h]))
 all_goals (refine ⟨?_,hm⟩;congr 1;rw [Bool.eq_iff_iff];unfold gP;simp only [aK,aL,aM,ak,aN] at *;omega)
theorem sz3:gu Tryz.prog 3=some 1:=by kernel_rfl
theorem zP (v:Value) (xs:List Int) (w:World) (U:Ints w v xs) :
   aD Tryz.prog 39 [v] w fun r w'=>Mod (fun _=>False) w w'∧xC w w' r xs:=by
 have pR:=U;obtain ⟨a,c,rfl,hl,mh⟩:=U;refine Z8.calls rfl ?_;unfold ID;cases a with
 | none=>
  have e:xs=[]:=by
   cases xs with
   | nil=>rfl
   | cons y l=>obtain ⟨ad,h,_⟩:=mh 0 (by simp);cases h
  subst e;simp only [go_sem,simprocAttr,Option.isNone_none];exact ⟨Mod.refl _ _,none,ax.nil _ _ _,fun b hb=>by cases hb⟩
 | some ad=>
  simp only [go_sem,simprocAttr,Option.isNone_some];refine Em (t:=26) (el:=3) (n:=1) Tryz.underlying26 sz3 ?_;intro w1 aq ag cL;have gM:ax w1 3 1 (.slice (some ⟨w.heap.size,0,none⟩) 0 0) [] 0 (some w.heap.size):=ax.jQ (xs:=[]) aq (by simp);obtain ⟨_,hr,hn⟩:=(pR.mod ag (fun _ _ h=>h)).rd;refine σ ?_;refine gN (m:=xs.length) (news:=xs.map I) rfl gM rfl (fun h=>by cases h) hr (oQ xs) rfl (by omega) (by omega) ?_;intro v2 w2 jH dR ae fQ;obtain ⟨va,vc,rfl,_,_⟩:=dR.val;refine σ ?_;refine ⟨ag.step ae (fun x U ah=>by cases U;omega),jH,by simpa using dR,fun b hb=>?_⟩;rcases fQ b hb with h | h
  ·cases h;omega
  ·omega
theorem ab1 (v:Value) (xs:List Int) (w:World) (U:Ints w v xs) (f:FuncId) (fn:Func) (cap:Array Value) (p:Int→Bool) (nT:Tryz.prog.funcs[f]? = some fn) (tv:fn.body.isSome=true) (xx:(fn.name == "runtime.NumGoroutine")=false)
   (hf:∀ x∈xs,aD Tryz.prog f ([I x]++cap.toList) w fun r w'=>r = .bool (p x)∧w=w') :
   aD Tryz.prog 102 [v,.func (.func f) #[] cap] w fun r w'=>(∃ i:Int,r=I i∧(0≤i↔xs.any p=true))∧w=w':=by
 obtain ⟨a,c,rfl,hl,mh⟩:=U;refine Z'.calls rfl ?_;unfold IF;refine σ ?_
 refine dz (fun m ρ w'=>∃ k:Nat,m=xs.length - k∧k≤xs.length∧w=w'∧(xs.take k).any p=false ∧
  ρ=[(0,.slice a xs.length c),(1,.func (.func f) #[] cap),(7,I xs.length),(8,I k)]) xs.length ⟨0,rfl,by omega,rfl,by simp,rfl⟩ ?_
 rintro m ρ _ ⟨k,rfl,hk,rfl,cA,rfl⟩;unfold P6;refine σ ?_;refine aX rfl (fun h=>?_) (fun h=>?_)
 ·have ah:k < xs.length:=by simpa using h
  obtain ⟨ad,rfl,hc⟩:=mh k ah;have c1:(0:Int)≤k∧(k:Int) < xs.length:=by omega
  simp only [go_sem,simprocAttr,ak,bh,c1,hc];refine El rfl (by rfl) nT tv xx ?_;refine (hf xs[k] (List.getElem_mem _)).mono ?_;rintro r _ ⟨rfl,rfl⟩;refine σ ?_;refine aX rfl (fun h2=>?_) (fun h2=>?_)
  ·refine σ ?_;refine ⟨_,rfl,fun _=>?_,fun _=>by omega⟩;exact List.any_eq_true.2 ⟨_,List.getElem_mem _,h2⟩
  ·have hw:IntKind.i64.wrap ((k:Int)+1)=((k+1:Nat):Int):=by rw [bU]<;>omega
   simp only [go_sem,simprocAttr,hw];refine ⟨_,?_,k+1,rfl,ah,?_,rfl⟩
   ·omega
   ·rw [List.take_succ_eq_append_getElem ah,List.any_append,cA];simp [h2]
 ·have dS:k=xs.length:=by simp at h;omega
  subst dS;refine σ ?_;rw [List.take_length] at cA;exact ⟨_,rfl,fun h=>by omega,fun h=>by rw [cA] at h;cases h⟩
theorem Jv (v:Value) (xs:List Int) (w:World) (U:Ints w v xs) (f:FuncId) (fn:Func) (cap:Array Value) (p:Int→Bool) (nT:Tryz.prog.funcs[f]? = some fn) (tv:fn.body.isSome=true) (xx:(fn.name == "runtime.NumGoroutine")=false)
   (hf:∀ x∈xs,aD Tryz.prog f ([I x]++cap.toList) w fun r w'=>r = .bool (p x)∧w=w') :
   aD Tryz.prog 70 [v,.func (.func f) #[] cap] w fun r w'=>r = .bool (xs.any p)∧w=w':=by
 refine Z9.calls rfl ?_;unfold IE;refine σ ?_;refine δ (by rfl) (ab1 v xs w U f fn cap p nT tv xx hf) ?_;rintro r _ ⟨⟨i,rfl,hi⟩,rfl⟩;refine σ ?_
 congr 1
 rw [Bool.eq_iff_iff,decide_eq_true_eq];exact hi
end
section
open Go Go.W
def jY (w:World) (ps:List (Nd×Value)) (fp:Nat→Option Nat) (F:Nat→Prop):Prop:=
 (∀ i (h:i < ps.length),ax w 3 1 ps[i].2 (ps[i].1.args.map I) ps[i].1.args.length (fp i)∧∀ b,fp i=some b→F b)∧∀ i j b,i < ps.length→j < ps.length→i≠j→fp i=some b→fp j≠some b
theorem ab2 {w:World} {ps:List (Nd×Value)} {fp:Nat→Option Nat} {F:Nat→Prop} (h:jY w ps fp F):kQ w ps F:=by
 intro p hp;obtain ⟨i,hi,rfl⟩:=List.getElem_of_mem hp;exact ⟨fp i,h.1 i hi⟩
theorem jm {w w':World} {ps:List (Nd×Value)} {fp:Nat→Option Nat} {F S:Nat→Prop} (h:jY w ps fp F) (hm:Mod S w w') (hd:∀ i b,i < ps.length→fp i=some b→¬ S b):jY w' ps fp F:=
 ⟨fun i hi=>⟨(h.1 i hi).1.mod hm (fun b hb=>hd i b hi hb),(h.1 i hi).2⟩,h.2⟩
theorem Jw {w:World} {ps:List (Nd×Value)} {fp:Nat→Option Nat} {F F':Nat→Prop} (h:jY w ps fp F) (hf:∀ b,F b→F' b):jY w ps fp F':=
 ⟨fun i hi=>⟨(h.1 i hi).1,fun b hb=>hf b ((h.1 i hi).2 b hb)⟩,h.2⟩
theorem Rr (w:World) (F:Nat→Prop):jY w [] (fun _=>none) F:=⟨fun i hi=>absurd hi (by simp),fun i j b hi=>absurd hi (by simp)⟩
theorem Rs {w:World} {ps:List (Nd×Value)} {fp:Nat→Option Nat} {F:Nat→Prop} (h:jY w ps fp F) {nd:Nd} {v:Value} {f:Option Nat} (ho:ax w 3 1 v (nd.args.map I) nd.args.length f) (hF:∀ b,f=some b→F b) (hn:∀ i b,i < ps.length→fp i=some b→f≠some b) :
   jY w (ps++[(nd,v)]) (fun i=>if i < ps.length then fp i else f) F:=by
 refine ⟨fun i hi=>?_,fun i j b hi hj ek h1 h2=>?_⟩
 ·by_cases jn:i < ps.length
  ·rw [List.getElem_append_left jn];simp only [if_pos jn];exact h.1 i jn
  ·have e:i=ps.length:=by simp at hi;omega
   subst e;simp only [List.getElem_concat_length,Nat.lt_irrefl,if_false];exact ⟨ho,hF⟩
 ·simp only [List.length_append,List.length_cons,List.length_nil] at hi hj;simp only at h1 h2;by_cases jn:i < ps.length
  ·rw [if_pos jn] at h1;by_cases jo:j < ps.length
   ·rw [if_pos jo] at h2;exact h.2 i j b jn jo ek h1 h2
   ·rw [if_neg jo] at h2;exact hn i b jn h1 h2
  ·rw [if_neg jn] at h1;by_cases jo:j < ps.length
   ·rw [if_pos jo] at h2;exact hn j b jo h2 h1
   ·omega
theorem ab3 {w:World} {ps:List (Nd×Value)} {fp:Nat→Option Nat} {F:Nat→Prop} (h:jY w ps fp F) {k:Nat} {nd:Nd} {v:Value} {f:Option Nat} (ho:ax w 3 1 v (nd.args.map I) nd.args.length f) (hF:∀ b,f=some b→F b) (hn:∀ i b,i < ps.length→i≠k→fp i=some b→f≠some b) :
   jY w (ps.set k (nd,v)) (fun i=>if i=k then f else fp i) F:=by
 refine ⟨fun i hi=>?_,fun i j b hi hj ek h1 h2=>?_⟩
 ·have bS:i < ps.length:=by simpa using hi
  rw [List.getElem_set];by_cases jX:k=i
  ·rw [if_pos jX];simp only [jX.symm,if_true];exact ⟨ho,hF⟩
  ·have ab4:¬ i=k:=fun hh=>jX hh.symm
   rw [if_neg jX];simp only [if_neg ab4];exact h.1 i bS
 ·have bS:i < ps.length:=by simpa using hi
  have pY:j < ps.length:=by simpa using hj
  simp only at h1 h2;by_cases jX:i=k
  ·rw [if_pos jX] at h1;rw [if_neg (by omega)] at h2;exact hn j b pY (by omega) h2 h1
  ·rw [if_neg jX] at h1;by_cases l9:j=k
   ·rw [if_pos l9] at h2;exact hn i b bS jX h1 h2
   ·rw [if_neg l9] at h2;exact h.2 i j b bS pY ek h1 h2
def ko (Tc:Nat) (w:World) (cf:Value) (ns:List Nd) (F:Nat→Prop):Prop:=
 ∃ dT ps fp,ax w Tc 3 cf (flat ps) ns.length dT∧(∀ b,dT=some b→F b)∧jY w ps fp F∧ps.map Prod.fst=ns∧∀ b,F b→b < w.heap.size
theorem zQ {Tc:Nat} {w:World} {cf:Value} {ns:List Nd} {F:Nat→Prop} (h:ko Tc w cf ns F):pZ Tc w cf ns F:=by
 obtain ⟨dT,ps,fp,h1,h2,h3,h4,h5⟩:=h;exact ⟨dT,ps,h1,h2,ab2 h3,h4,h5⟩
theorem q9 {Tc:Nat} {w w':World} {cf:Value} {ns:List Nd} {F S:Nat→Prop} (h:ko Tc w cf ns F) (hm:Mod S w w') (hd:∀ b,F b→¬ S b):ko Tc w' cf ns F:=by
 obtain ⟨dT,ps,fp,h1,h2,h3,h4,h5⟩:=h;exact ⟨dT,ps,fp,h1.mod hm (fun b hb=>hd b (h2 b hb)),h2,jm h3 hm (fun i b hi hb=>hd b ((h3.1 i hi).2 b hb)),h4,fun b hb=>Nat.lt_of_lt_of_le (h5 b hb) hm.size⟩
theorem B0 {Tc:Nat} {w:World} {cf:Value} {ns:List Nd} {F:Nat→Prop} (h:ko Tc w cf ns F):∃ a c,cf = .slice a ns.length c:=by
 obtain ⟨dT,ps,fp,h1,_⟩:=h;obtain ⟨a,c,e,_⟩:=h1.val;exact ⟨a,c,e⟩
def xP (ns:List Nd) (old:Nat) (ld:List (Int×Int)):Prop:=
 (ld.map (fun q=>q.1)).Nodup∧∀ k:Int,k∈ld.map (fun q=>q.1)↔∃ p:Nat,k=p∧p < old∧∃ a∈(ai ns p).args,(old:Int)≤a
def iZ (w:World) (a:Nat) (size bB:Int) (old:Nat) (times:Int) (ns:List Nd) (F:Nat→Prop):Prop:=
 ∃ cv mb ld,w.heap[a]? = some (.cells #[I size,I bB,cv,I old,.map (some mb),I times] 202 (0,0))∧F a∧ko 104 w cv ns F∧gi w mb ld∧F mb∧xP ns old ld
theorem kq {w w':World} {a:Nat} {size bB:Int} {old:Nat} {times:Int} {ns:List Nd} {F S:Nat→Prop} (h:iZ w a size bB old times ns F) (hm:Mod S w w') (hd:∀ b,F b→¬ S b):iZ w' a size bB old times ns F:=by
 obtain ⟨cv,mb,ld,h1,h2,h3,h4,h5,h6⟩:=h;exact ⟨cv,mb,ld,hm.at h1 (hd a h2),h2,q9 h3 hm hd,dO h4 hm (hd mb h5),h5,h6⟩
theorem zR {w:World} {a:Nat} {size bB:Int} {old:Nat} {times:Int} {ns:List Nd} {F:Nat→Prop} (h:iZ w a size bB old times ns F):∀ b,F b→b < w.heap.size:=by
 obtain ⟨cv,mb,ld,h1,h2,⟨_,_,_,_,_,_,_,h3⟩,h4,h5,h6⟩:=h;exact h3
def xQ (w:World) (a n old:Nat):Prop:=∃ c0 c1 ba c c4 c5,w.heap[a]? = some (.cells #[c0,c1,.slice ba n c,I old,c4,c5] 202 (0,0))
theorem vA {w:World} {a:Nat} {size bB:Int} {old:Nat} {times:Int} {ns:List Nd} {F:Nat→Prop} (h:iZ w a size bB old times ns F):xQ w a ns.length old:=by
 obtain ⟨cv,mb,ld,h1,h2,h3,h4⟩:=h;obtain ⟨x,c,rfl⟩:=B0 h3;exact ⟨_,_,x,c,_,_,h1⟩
theorem ab5 {w w':World} {a n old:Nat} {S:Nat→Prop} (h:xQ w a n old) (hm:Mod S w w') (ha:¬ S a):xQ w' a n old:=by
 obtain ⟨c0,c1,ba,c,c4,c5,h1⟩:=h;exact ⟨c0,c1,ba,c,c4,c5,hm.at h1 ha⟩
theorem Ru:Tryz.f198.body.isSome=true∧(Tryz.f198.name == "runtime.NumGoroutine")=false:=⟨by kernel_rfl,by kernel_rfl⟩
theorem Rv:Tryz.f197.body.isSome=true∧(Tryz.f197.name == "runtime.NumGoroutine")=false:=⟨by kernel_rfl,by kernel_rfl⟩
theorem ab6 (w:World) (a n old bx:Nat) (x:Int) (h:xQ w a n old) (hb:w.heap[bx]? = some (.cells #[.pointer (some ⟨a,0,none⟩)] 169 (0,0))) :
   aD Tryz.prog 198 [I x,.pointer (some ⟨bx,0,none⟩)] w fun r w'=>r = .bool (decide (x < 0)||decide (x≥n))∧w=w':=by
 obtain ⟨c0,c1,ba,c,c4,c5,h1⟩:=h;refine aan.calls rfl ?_;unfold IV;refine σ ?_;refine tG rfl (fun hg=>?_) (fun hg=>?_)
 ·simp only [go_sem,simprocAttr,hg];simp
 ·simp only [go_sem,simprocAttr,hg,cell_of hb,cell_of h1];simp
theorem ab7 (w:World) (a n old bx:Nat) (x:Int) (h:xQ w a n old) (hb:w.heap[bx]? = some (.cells #[.pointer (some ⟨a,0,none⟩)] 169 (0,0))) :
   aD Tryz.prog 197 [I x,.pointer (some ⟨bx,0,none⟩)] w fun r w'=>r = .bool (decide (x≥old))∧w=w':=by
 obtain ⟨c0,c1,ba,c,c4,c5,h1⟩:=h;refine aam.calls rfl ?_;unfold IU;simp only [go_sem,simprocAttr,cell_of hb,cell_of h1]
theorem zS (w:World) (a n old:Nat) (l:Value) (xs:List Int) (h:xQ w a n old) (U:Ints w l xs) :
   aD Tryz.prog 194 [.pointer (some ⟨a,0,none⟩),l] w fun r w'=>r = .bool (bK n xs)∧Mod (fun _=>False) w w':=by
 have il:=U;obtain ⟨va,vc,rfl,_,_⟩:=il;refine aaj.calls rfl ?_;unfold IQ;refine σ ?_;refine b8 rfl ?_;intro w1 aq ag cL;have aq:w1.heap[w.heap.size]? = some (.cells #[.pointer (some ⟨a,0,none⟩)] 169 (0,0)):=aq;have h1:=ab5 h ag (fun h=>h);refine σ ?_;refine δ (by rfl) (Jv _ xs w1 (U.mod ag (fun _ _ h=>h)) 198 Tryz.f198 #[.pointer (some ⟨w.heap.size,0,none⟩)] (fun x=>decide (x < 0)||decide (x≥n)) Tryz.func198 Ru.1 Ru.2 (fun x _=>ab6 w1 a n old w.heap.size x h1 aq)) ?_;rintro q _ ⟨rfl,rfl⟩;refine σ ?_;refine ⟨?_,ag⟩
 congr 1
 unfold bK;rw [Bool.eq_iff_iff];simp [List.any_eq_true,List.all_eq_true]
theorem ab8 (size bB:Int) (w:World) :
   aD Tryz.prog 107 [I size,I bB] w fun r w'=>(1≤size∧size≤1048576∧1≤bB∧bB≤size→∃ a F,r = .tuple #[.pointer (some ⟨a,0,none⟩),I 0]∧iZ w' a size bB 0 0 [] F∧Mod (fun _=>False) w w'∧(∀ x,F x→w.heap.size≤x)) ∧
    (¬ (1≤size∧size≤1048576∧1≤bB∧bB≤size)→r = .tuple #[.pointer none,I 210]∧w=w'):=by
 refine aaa.calls rfl ?_;unfold IG;by_cases g:1≤size∧size≤1048576∧1≤bB∧bB≤size
 ·have e1:decide (size < 1)=false:=by simp;omega
  have e2:decide (size > 1048576)=false:=by simp;omega
  have e3:decide (bB < 1)=false:=by simp;omega
  have e4:decide (bB > size)=false:=by simp;omega
  simp only [go_sem,simprocAttr,e1,e2,e3,e4];refine zt ?_;intro w1 aq ag cL;refine σ ?_;refine b8 rfl ?_;intro w2 an ae dh;have an:w2.heap[w1.heap.size]? = some (.cells #[I size,I bB,.slice none 0 0,I 0,.map (some w.heap.size),I 0] 202 (0,0)):=an;refine σ ?_;refine ⟨fun _=>⟨w1.heap.size,fun x=>x=w1.heap.size∨x=w.heap.size,rfl,⟨_,_,[],an,.inl rfl,⟨none,[],_,ax.nil _ _ _,(fun b hb=>by cases hb),Rr _ _,rfl,fun b hb=>by omega⟩,dO aq ae (fun h=>h),.inr rfl,⟨by simp,fun k=>⟨fun h=>by simp at h,fun ⟨p,_,hp,_⟩=>absurd hp (by omega)⟩⟩⟩,ag.trans ae,fun x U=>by omega⟩,fun hh=>absurd g hh⟩
 ·refine (fun h=>h) ?_;by_cases a1:size < 1
  ·have e1:decide (size < 1)=true:=by simp;omega
   simp only [go_sem,simprocAttr,e1];exact ⟨fun hh=>absurd hh g,fun _=>trivial⟩
  have e1:decide (size < 1)=false:=by simp;omega
  by_cases a2:size > 1048576
  ·have e2:decide (size > 1048576)=true:=by simp;omega
   simp only [go_sem,simprocAttr,e1,e2];exact ⟨fun hh=>absurd hh g,fun _=>trivial⟩
  have e2:decide (size > 1048576)=false:=by simp;omega
  by_cases a3:bB < 1
  ·have e3:decide (bB < 1)=true:=by simp;omega
   simp only [go_sem,simprocAttr,e1,e2,e3];exact ⟨fun hh=>absurd hh g,fun _=>trivial⟩
  have e3:decide (bB < 1)=false:=by simp;omega
  have e4:decide (bB > size)=true:=by simp;omega
  simp only [go_sem,simprocAttr,e1,e2,e3,e4];exact ⟨fun hh=>absurd hh g,fun _=>trivial⟩
theorem ab9 (w:World) (a:Nat) (size bB:Int) (old:Nat) (times:Int) (ns:List Nd) (F:Nat→Prop) (h:iZ w a size bB old times ns F):aD Tryz.prog 192 [.pointer (some ⟨a,0,none⟩)] w fun r w'=>r=I ns.length∧w=w':=by
 obtain ⟨c0,c1,ba,c,c4,c5,h1⟩:=vA h;refine aah.calls rfl ?_;unfold IN;simp only [go_sem,simprocAttr,cell_of h1]
end
section
open Go Go.W
theorem su {w:World} {T sz n b:Nat} {v:Value} {xs:List Value} {fp:Option Nat} (h:ax w T sz v xs n fp) (hb:fp=some b):∃ cs,w.heap[b]? = some (.cells cs T (0,0)):=by
 rcases h.2 with ⟨_,_,h⟩ | ⟨b',c,cN,_,h,hh,_⟩
 ·rw [h] at hb;cases hb
 ·rw [h] at hb;cases hb;exact ⟨_,hh⟩
theorem sw {w:World} {T sz n T' sz' n' b:Nat} {v v':Value} {xs xs':List Value} {fp gA:Option Nat} (h:ax w T sz v xs n fp) (h':ax w T' sz' v' xs' n' gA) (bq:T≠T') (hb:fp=some b):gA≠some b:=by
 obtain ⟨cs,hc⟩:=su h hb;exact jk h' hc (fun e=>bq e.symm)
def nf (size:Int) (ns:List Nd) (nd:Nd):Int×Int×List Nd:=
 if nd.may=false then (0,1,ns) else if bK ns.length nd.args=false then (0,212,ns) else if (ns.length:Int)≥size then (0,211,ns) else (ns.length,0,ns++[nd])
theorem ab' {ns:List Nd} {old:Nat} {ld:List (Int×Int)} (h:xP ns old ld) (ho:old≤ns.length) (nd:Nd):xP (ns++[nd]) old ld:=by
 refine ⟨h.1,fun k=>(h.2 k).trans ⟨fun ⟨p,h1,h2,h3⟩=>⟨p,h1,h2,?_⟩,fun ⟨p,h1,h2,h3⟩=>⟨p,h1,h2,?_⟩⟩⟩
 ·simpa [ai,List.getElem?_append_left (show p < ns.length by omega)] using h3
 ·simpa [ai,List.getElem?_append_left (show p < ns.length by omega)] using h3
theorem aca (w:World) (a:Nat) (size bB:Int) (old:Nat) (times:Int) (ns:List Nd) (nd:Nd) (v:Value) (F:Nat→Prop) (h:iZ w a size bB old times ns F) (ho:old≤ns.length) (hn:ns.length≤1048576) (il:Ints w v nd.args) :
   aD Tryz.prog 186 [.pointer (some ⟨a,0,none⟩),.agg #[I nd.kind,I nd.num,v]] w fun r w'=>r = .tuple #[I (nf size ns nd).1,I (nf size ns nd).2.1]∧∃ F',iZ w' a size bB old times (nf size ns nd).2.2 F'∧Grow F F' w w':=by
 have U:=il;obtain ⟨va,vc,rfl,hl,_⟩:=il;refine aac.calls rfl ?_;unfold II;refine σ ?_;refine b8 rfl ?_;intro w1 aq ag cL;have aq:w1.heap[w.heap.size]? = some (.cells #[I nd.kind,I nd.num,.slice va nd.args.length vc] 104 (0,0)):=aq;have h1:=kq h ag (fun _ _ h=>h);have hU:=U.mod ag (fun _ _ h=>h);have hd:cB w1 3 (.pointer (some ⟨w.heap.size,0,none⟩))=some (.agg #[I nd.kind,I nd.num,.slice va nd.args.length vc]):=dK aq (off:=0) (n:=3) (by simp);have same:∀ w2,Mod (fun _=>False) w1 w2→∃ F',iZ w2 a size bB old times ns F'∧Grow F F' w w2:=fun w2 ae=>
  ⟨F,kq h1 ae (fun _ _ h=>h),(ag.trans ae).aB (fun _ h=>h.elim),fun b hb=>.inl hb⟩
 simp only [go_sem,simprocAttr,hd];refine δ (by rfl) (Rq nd.kind nd.num _ nd.args w1 hU) ?_;rintro r w2 ⟨rfl,ae⟩;have an:=ae.at aq (fun h=>h);refine σ ?_;refine aX rfl (fun hc=>?_) (fun hc=>?_)
 ·refine σ ?_;have bE:nd.may=false:=by simpa [Nd.may] using hc
  exact ⟨by simp [nf,bE],by simpa [nf,bE] using same w2 ae⟩
 have dk:nd.may=true:=by simpa [Nd.may] using hc
 have im:=hU.mod ae (fun _ _ h=>h);have h2:=kq h1 ae (fun _ _ h=>h);simp only [go_sem,simprocAttr,cell_of an];refine δ (by rfl) (zS w2 a ns.length old _ nd.args (vA h2) im) ?_;rintro r w3 ⟨rfl,ab⟩;have mZ:=ae.trans ab;refine σ ?_;refine aX rfl (fun hc=>?_) (fun hc=>?_)
 ·refine σ ?_;have bE:bK ns.length nd.args=false:=by simpa using hc
  exact ⟨by simp [nf,bE,dk],by simpa [nf,bE,dk] using same w3 mZ⟩
 have cy:bK ns.length nd.args=true:=by simpa using hc
 have h3:=kq h2 ab (fun _ _ h=>h);have h3':=h3;obtain ⟨cv,mb,ld,g1,g2,g3,g4,g5,g6⟩:=h3;obtain ⟨ca,cc,rfl⟩:=B0 g3;simp only [go_sem,simprocAttr,cell_of g1];have EM:Mod (fun _=>False) w3 w3.drew:=⟨Nat.le_refl _,fun _ _ _=>rfl,rfl,rfl,rfl⟩;refine aX rfl (fun hc=>?_) (fun hc=>?_)
 ·refine σ ?_;have bE:(ns.length:Int)≥size:=by simpa using hc
  exact ⟨by simp [nf,bE,dk,cy],by simpa [nf,bE,dk,cy] using same w3.drew (mZ.trans EM)⟩
 have eh:¬ (ns.length:Int)≥size:=by simpa using hc
 have aE:=(ab.trans EM).at an (fun h=>h);have vo:=im.mod (ab.trans EM) (fun _ _ h=>h);simp only [go_sem,simprocAttr,cell_of aE,cell_of (ab.at an (fun h=>h))];refine δ (by rfl) (zP _ nd.args w3.drew vo) ?_;rintro q w4 ⟨aj,f4,o4,n4⟩;have acb:=EM.trans aj;obtain ⟨rb,re,rfl,_,_⟩:=o4.val;have aJ:=aj.at aE (fun h=>h);refine σ ?_;refine bL (off:=2) rfl rfl aJ rfl (by simp) ?_;intro w5 cd ay iq;have cd:w5.heap[w.heap.size]? = some (.cells #[I nd.kind,I nd.num,.slice rb nd.args.length re] 104 (0,0)):=cd;have lw:=lt_of_heap aq;have s2:=ae.size;have s3:=ab.size;have s4:=aj.size;have eu:=zR h;have Jy:∀ b,F b→¬ b=w.heap.size:=fun b hb hh=>by have:=eu b hb;omega
 have gD:Mod (fun x=>x=w.heap.size) w3 w5:=(acb.aB (fun _ h=>h.elim)).step ay (fun x U _=>U);have ga:=gD.at g1 (Jy a g2);have gc:=q9 g3 gD Jy;have gm:=dO g4 gD (Jy mb g5);have o5:=o4.mod ay (fun b hb hh=>by have:=n4 b hb;have:w3.drew.heap.size=w3.heap.size:=rfl;omega);have hd5:cB w5.drew 3 (.pointer (some ⟨w.heap.size,0,none⟩))=some (.agg #[I nd.kind,I nd.num,.slice rb nd.args.length re]):=dK (w:=w5.drew) cd (off:=0) (n:=3) (by simp);simp only [go_sem,simprocAttr,cell_of ga,hd5];have ja:Mod (fun _=>False) w5 w5.drew:=⟨Nat.le_refl _,fun _ _ _=>rfl,rfl,rfl,rfl⟩;refine dL (by rfl) (by refine σ ?_;rfl) ?_;intro w6 cO aH mV;have oe:=ja.trans aH;have anN:Mod (fun x=>x=w.heap.size) w3 w6:=gD.step oe (fun _ h _=>h.elim);have Rw:=oe.at ga (fun h=>h);refine σ ?_;refine ⟨aH.old _ (lt_of_heap ga) (fun h=>h),?_⟩;have o6:=o5.mod oe (fun _ _ h=>h);obtain ⟨dT,ps,fp,c1,c2,c3,c4,c5⟩:=gc;have zT:=c1.mod oe (fun _ _ h=>h);have Rx:=jm c3 oe (fun _ _ _ _ h=>h);have jg:ps.length=ns.length:=by rw [← c4];simp
 refine gN (m:=1) (news:=nc (nd,.slice rb nd.args.length re)) rfl zT rfl (fun h=>by cases h) (jR cO) (by simp [nc,Value.oneCell']) rfl (by omega) (by omega) ?_;intro v7 w7 Jz xR aZ tR;have bq:dT≠some a:=jk zT Rw (by decide);have B4:=aZ.at Rw bq;obtain ⟨zU,zV,rfl,_⟩:=xR.val;have Ry:=jm Rx aZ (fun i b hi hb hh=>sw (Rx.1 i hi).1 zT (by decide) hb hh);have o7:=o6.mod aZ (fun b hb hh=>sw o6 zT (by decide) hb hh);refine σ ?_;refine bL (off:=2) rfl rfl B4 rfl (by simp) ?_;intro w8 en bY qZ;have en:w8.heap[a]? = some (.cells #[I size,I bB,.slice zU (ns.length+1) zV,I old,.map (some mb),I times] 202 (0,0)):=en;have hw:IntKind.i64.wrap (((ns.length+1:Nat):Int) - 1)=ns.length:=by rw [bU]<;>omega
 simp only [go_sem,simprocAttr,cell_of en,hw];have hn7:Jz≠some a:=jk xR B4 (by decide);have c38:=jm Ry bY (fun i b hi hb hh=>jk (Ry.1 i hi).1 B4 (by decide) (by rw [hb,hh]));have o8:=o7.mod bY (fun b hb hh=>jk o7 B4 (by decide) (by rw [hb,hh]));have s5:w5.heap.size=w4.heap.size:=iq;have s6:=oe.size;have s7:=aZ.size;have s8:=bY.size;have Rz:=dO gm oe (fun h=>h)
 have RA:=dO Rz aZ (fun hh=>by
  obtain ⟨es,c,q2,_⟩:=Rz;obtain ⟨cs,q3⟩:=su zT hh
  rw [q2] at q3;cases q3)
 have gm8:=dO RA bY (fun hh=>by
  obtain ⟨es,c,q2,_⟩:=RA
  rw [hh] at q2;rw [B4] at q2;cases q2)
 have cA:Mod F w w8:=((((((ag.aB (fun _ h=>h.elim)).step ae (fun _ h _=>h.elim)).step ab (fun _ h _=>h.elim)).step gD (fun x U ah=>by omega)).step oe (fun _ h _=>h.elim)).step aZ (fun i h _=>c2 i h)).step bY (fun i h _=>h ▸ g2);have BJ:nf size ns nd=((ns.length:Int),0,ns++[nd]):=by
  unfold nf;rw [if_neg (by simp [dk]),if_neg (by simp [cy]),if_neg eh]
 have w30:w3.drew.heap.size=w3.heap.size:=rfl;refine ⟨by rw [BJ],fun b=>F b∨f4=some b∨Jz=some b,?_,cA,?_⟩
 ·rw [BJ];refine ⟨_,mb,ld,en,.inl g2,⟨Jz,ps++[(nd,.slice rb nd.args.length re)],_,?_,fun b hb=>.inr (.inr hb),Rs (Jw c38 (fun b hb=>.inl hb)) o8 (fun b hb=>.inr (.inl hb)) ?_,by simp [c4],?_⟩,gm8,.inl g5,ab' g6 ho nd⟩
  ·rw [vj,Ev]
   simpa using xR.mod bY (fun b hb hh=>hn7 (by rw [hb,hh]))
  ·intro i b hi hb hh;have:=eu b ((c3.1 i hi).2 b hb);have:=n4 b hh;omega
  ·intro b hb;rcases hb with hb | hb | hb
   ·have:=eu b hb;omega
   ·have:=o8.lt hb;omega
   ·have:=xR.lt hb;omega
 ·intro b hb;rcases hb with hb | hb | hb
  ·exact .inl hb
  ·have:=n4 b hb;exact .inr (by omega)
  ·rcases tR b hb with h | h
   ·exact .inl (c2 b h)
   ·exact .inr (by omega)
end
section
open Go Go.W
def B5 (ns:List Nd) (at':Int):Nd×Int:=if 0≤at'∧at' < ns.length then (ai ns at'.toNat,0) else ({ kind:=0,num:=0,args:=[]},212)
def acd (w:World) (s:Nd×Int) (r:Value) (w':World):Prop:=
 Mod (fun _=>False) w w'∧∃ v fp,r = .tuple #[.agg #[I s.1.kind,I s.1.num,v],I s.2]∧ax w' 3 1 v (s.1.args.map I) s.1.args.length fp∧∀ b,fp=some b→w.heap.size≤b
theorem RB {w:World} {bc i:Nat} {k n:Int} {v:Value} (h0:w.cell? ⟨bc,i,none⟩=some (I k)) (h1:w.cell? ⟨bc,i+1,none⟩=some (I n)) (h2:w.cell? ⟨bc,i+2,none⟩=some v):cB w 3 (.pointer (some ⟨bc,i,none⟩))=some (.agg #[I k,I n,v]):=by
 simp [cB,jC,c8,h0,h1,h2]
theorem ace (w:World) (a:Nat) (size bB:Int) (old:Nat) (times:Int) (ns:List Nd) (at':Int) (F:Nat→Prop) (h:iZ w a size bB old times ns F) (dJ:∀ nd∈ns,nd.args.length≤8) :
   aD Tryz.prog 189 [.pointer (some ⟨a,0,none⟩),I at'] w (acd w (B5 ns at')):=by
 refine aae.calls rfl ?_;unfold IK;refine σ ?_;refine de ?_;intro w1 aq ag cL;have aq:w1.heap[w.heap.size]? = some (.cells #[I 0,I 0,.slice none 0 0] 104 (0,0)):=aq;refine σ ?_;refine dL (by rfl) (by refine σ ?_;rfl) ?_;intro w2 an ae dh;have dG:=ag.trans ae;have h2:=kq h dG (fun _ _ h=>h);have U:Ints w2 (.slice (some ⟨w1.heap.size,0,none⟩) 1 1) [at']:=Ey (xs:=[at']) an (by simp);refine σ ?_;refine δ (by rfl) (zS w2 a ns.length old _ [at'] (vA h2) U) ?_;rintro r w3 ⟨rfl,ab⟩;rw [BK];have dU:=dG.trans ab;have aE:=(ae.trans ab).at aq (fun h=>h);have h3:=kq h2 ab (fun _ _ h=>h);refine σ ?_;refine aX rfl (fun hc=>?_) (fun hc=>?_)
 ·have bE:¬ (0≤at'∧at' < ns.length):=by simp at hc;omega
  refine σ ?_;refine cu rfl rfl aE rfl rfl (by simp [Value.oneCell']) ?_;intro w4 aJ aj eA;simp only [go_sem,simprocAttr,dK aJ (off:=0) (n:=3) (by simp)];have e:B5 ns at'=({ kind:=0,num:=0,args:=[]},212):=if_neg bE;rw [e];exact ⟨dU.step aj (fun i hi ah=>by omega),_,none,rfl,ax.nil _ _ _,fun b hb=>by cases hb⟩
 ·have bE:0≤at'∧at' < ns.length:=by simpa using hc
  obtain ⟨i,rfl⟩:∃ i:Nat,at'=i:=⟨at'.toNat,by omega⟩;have hi:i < ns.length:=by omega
  have e:B5 ns i=(ai ns i,0):=if_pos bE;rw [e];obtain ⟨cv,mb,ld,g1,g2,g3,g4,g5,g6⟩:=h3;obtain ⟨bc,cc,v,rfl,k0,k1,k2,kx,kb,_⟩:=xG (zQ g3) dJ hi;have kl:=RB k0 k1 k2;obtain ⟨xa,xc,rfl,vy,_⟩:=id kx;simp only [go_sem,simprocAttr,ak,bh,cell_of g1,bE,kl];refine de ?_;intro w4 aJ aj eA;have aJ:w4.heap[w3.heap.size]? = some (.cells #[I 0,I 0,.slice none 0 0] 104 (0,0)):=aJ;refine σ ?_;refine cu rfl rfl aJ rfl rfl (by simp [Value.oneCell']) ?_;intro w5 cd ay iq;have gD:Mod (fun _=>False) w3 w5:=aj.step ay (fun i hi ah=>by omega);have EI:=kx.mod gD (fun _ _ h=>h);simp only [go_sem,simprocAttr,cell_of cd];refine δ (by rfl) (zP _ _ w5 EI) ?_;rintro q w6 ⟨aH,f6,o6,n6⟩;obtain ⟨vC,vD,rfl,_,_⟩:=o6.val;have cO:=aH.at cd (fun h=>h);refine σ ?_;refine bL (off:=2) rfl rfl cO rfl (by simp) ?_;intro w7 cj aZ mX;have cj:w7.heap[w3.heap.size]? = some (.cells #[I (ai ns i).kind,I (ai ns i).num,.slice vC (ai ns i).args.length vD] 104 (0,0)):=cj;have s3:=dU.size;have s5:=gD.size;have s6:=aH.size;have iI:Mod (fun _=>False) w3 w7:=(gD.trans aH).step aZ (fun x U ah=>by omega);have en:=iI.at aE (fun h=>h);have l1:=lt_of_heap aE;simp only [go_sem,simprocAttr,dK cj (off:=0) (n:=3) (by simp)];refine cu rfl rfl en rfl rfl (by simp [Value.oneCell']) ?_;intro w8 kn bY qZ;simp only [go_sem,simprocAttr,dK kn (off:=0) (n:=3) (by simp)];have l4:=lt_of_heap aJ;exact ⟨(dU.trans iI).step bY (fun x U ah=>by omega),_,f6,rfl,(o6.mod aZ (fun b hb hh=>by have:=n6 b hb;omega)).mod bY (fun b hb hh=>by have:=n6 b hb;omega),fun b hb=>by have:=n6 b hb;omega⟩
def p8 (ns:List Nd) (at':Int) (nd:Nd):Int×List Nd:=
 if ¬ (0≤at'∧at' < ns.length) then (212,ns) else if nd.may=false then (1,ns) else if bK ns.length nd.args=false then (212,ns) else (0,ns.set at'.toNat nd)
theorem acf {l:List (Int×Int)} (hn:(l.map (fun q=>q.1)).Nodup) (k:Int):((zr l k).map (fun q=>q.1)).Nodup∧∀ x,x∈(zr l k).map (fun q=>q.1)↔x∈l.map (fun q=>q.1)∧x≠k:=by
 unfold zr;cases hI:l.findIdx? (fun p=>p.1 == k) with
 | none=>
  refine ⟨hn,fun x=>⟨fun U=>⟨U,fun he=>?_⟩,fun U=>U.1⟩⟩;rw [List.findIdx?_eq_none_iff] at hI;obtain ⟨q,hq,rfl⟩:=List.mem_map.1 U;have:=hI q hq;simp [he] at this
 | some i=>
  have h1:=List.findIdx?_eq_some_iff_getElem.1 hI;have hi:=h1.1;have hk:l[i].1=k:=by simpa using h1.2.1
  have e:(l.eraseIdx i).map (fun q=>q.1)=(l.map (fun q=>q.1)).eraseIdx i:=Go.ChangeMaps.map_eraseIdx _ _ _;rw [e];refine ⟨hn.sublist (List.eraseIdx_sublist _ _),fun x=>?_⟩;generalize hL:l.map (fun q=>q.1)=L at hn;have RC:i < L.length:=by rw [← hL];simpa using hi
  have B6:L[i]=k:=by simp [← hL,hk]
  clear e hI h1 hk hL
  induction L generalizing i with
  | nil=>simp at RC
  | cons y L ih=>
   rw [List.nodup_cons] at hn;cases i with
   | zero=>
    simp only [List.getElem_cons_zero] at B6;subst B6;simp only [List.eraseIdx_cons_zero,List.mem_cons];exact ⟨fun U=>⟨.inr U,fun he=>hn.1 (he ▸ U)⟩,fun ⟨U,bq⟩=>U.resolve_left bq⟩
   | succ i=>
    simp only [List.getElem_cons_succ] at B6;have jq:i < L.length:=by simpa using RC
    have:=ih i (by omega) hn.2 jq B6;simp only [List.eraseIdx_cons_succ,List.mem_cons,this];refine ⟨fun U=>?_,fun ⟨U,bq⟩=>U.imp (fun h=>h) (fun h=>⟨h,bq⟩)⟩;rcases U with rfl | ⟨U,bq⟩
    ·exact ⟨.inl rfl,fun he=>hn.1 (by rw [he,← B6];exact List.getElem_mem _)⟩
    ·exact ⟨.inr U,bq⟩
theorem RD {l:List (Int×Int)} (hn:(l.map (fun q=>q.1)).Nodup) (k v:Int):((qO l k v).map (fun q=>q.1)).Nodup∧∀ x,x∈(qO l k v).map (fun q=>q.1)↔x∈l.map (fun q=>q.1)∨x=k:=by
 unfold qO;cases hI:l.findIdx? (fun p=>p.1 == k) with
 | none=>
  rw [List.findIdx?_eq_none_iff] at hI;have iD:k∉l.map (fun q=>q.1):=by
   intro hk;obtain ⟨q,hq,he⟩:=List.mem_map.1 hk;have:=hI q hq;simp [he] at this
  refine ⟨?_,fun x=>by simp⟩;simp only [List.map_append,List.map_cons,List.map_nil];rw [List.nodup_append];exact ⟨hn,by simp,fun a ha b hb gO=>by simp at hb;exact iD (hb ▸ gO ▸ ha)⟩
 | some i=>
  have h1:=List.findIdx?_eq_some_iff_getElem.1 hI;have hk:l[i]'h1.1=(k,(l[i]'h1.1).2):=by
   have:(l[i]'h1.1).1=k:=by simpa using h1.2.1
   rw [← this]
  have e:(l.set i (k,v)).map (fun q=>q.1)=l.map (fun q=>q.1):=by
   rw [List.map_set];have h2:(l.map (fun q=>q.1))[i]'(by simpa using h1.1)=k:=by simp;simpa using h1.2.1
   have h3:=List.set_getElem_self (show i < (l.map (fun q=>q.1)).length by simpa using h1.1);rw [h2] at h3;exact h3
  rw [e];refine ⟨hn,fun x=>⟨.inl,fun U=>U.elim (fun h=>h) (fun h=>?_)⟩⟩;rw [h];exact List.mem_map.2 ⟨_,List.getElem_mem h1.1,by simpa using h1.2.1⟩
theorem vE {ns:List Nd} {i:Nat} {nd:Nd} (hi:i < ns.length) (p:Nat):ai (ns.set i nd) p=if p=i then nd else ai ns p:=by
 unfold ai;rw [List.getD_eq_getElem?_getD,List.getElem?_set];by_cases h:i=p
 ·subst h;simp [hi]
 ·rw [if_neg h,if_neg (fun hh=>h hh.symm),List.getD_eq_getElem?_getD]
theorem acg (w:World) (a:Nat) (size bB:Int) (old:Nat) (times:Int) (ns:List Nd) (at':Int) (nd:Nd) (v:Value) (F:Nat→Prop) (h:iZ w a size bB old times ns F) (ho:old≤ns.length) (hn:ns.length≤1048576) (dJ:∀ nd∈ns,nd.args.length≤8) (il:Ints w v nd.args) :
   aD Tryz.prog 191 [.pointer (some ⟨a,0,none⟩),I at',.agg #[I nd.kind,I nd.num,v]] w fun r w'=>r=I (p8 ns at' nd).1∧∃ F',iZ w' a size bB old times (p8 ns at' nd).2 F'∧Grow F F' w w':=by
 have U:=il;obtain ⟨va,vc,rfl,hl,_⟩:=il;refine aag.calls rfl ?_;unfold IM;refine σ ?_;refine b8 rfl ?_;intro w1 aq ag cL;have aq:w1.heap[w.heap.size]? = some (.cells #[.pointer (some ⟨a,0,none⟩)] 169 (0,0)):=aq;refine σ ?_;refine b8 rfl ?_;intro w2 an ae dh;have an:w2.heap[w1.heap.size]? = some (.cells #[I nd.kind,I nd.num,.slice va nd.args.length vc] 104 (0,0)):=an;have a7:=ae.at aq (fun h=>h);simp only [go_sem,simprocAttr,cell_of a7];refine dL (by rfl) (by refine σ ?_;rfl) ?_;intro w3 aE ab gj;have dU:=(ag.trans ae).trans ab;have h3:=kq h dU (fun _ _ h=>h);have vo:Ints w3 (.slice (some ⟨w2.heap.size,0,none⟩) 1 1) [at']:=Ey (xs:=[at']) aE (by simp);have anO:=U.mod dU (fun _ _ h=>h);refine σ ?_;refine δ (by rfl) (zS w3 a ns.length old _ [at'] (vA h3) vo) ?_;rintro r w4 ⟨rfl,aj⟩;rw [BK];have iJ:=dU.trans aj;have same:∀ w5,Mod (fun _=>False) w4 w5→∃ F',iZ w5 a size bB old times ns F'∧Grow F F' w w5:=fun w5 ay=>
  ⟨F,kq h (iJ.trans ay) (fun _ _ h=>h),(iJ.trans ay).aB (fun _ h=>h.elim),fun b hb=>.inl hb⟩
 refine σ ?_;refine aX rfl (fun hc=>?_) (fun hc=>?_)
 ·have bE:¬ (0≤at'∧at' < ns.length):=by simp at hc;omega
  refine σ ?_;have e:p8 ns at' nd=(212,ns):=by unfold p8;rw [if_pos bE]
  rw [e];exact ⟨rfl,same w4 (Mod.refl _ _)⟩
 have bE:0≤at'∧at' < ns.length:=by simpa using hc
 obtain ⟨i,rfl⟩:∃ i:Nat,at'=i:=⟨at'.toNat,by omega⟩;have hi:i < ns.length:=by omega
 have kU:=(ab.trans aj).at a7 (fun h=>h);have tS:=(ab.trans aj).at an (fun h=>h);have hd4:cB w4 3 (.pointer (some ⟨w1.heap.size,0,none⟩))=some (.agg #[I nd.kind,I nd.num,.slice va nd.args.length vc]):=dK tS (off:=0) (n:=3) (by simp);simp only [go_sem,simprocAttr,hd4];refine δ (by rfl) (Rq nd.kind nd.num _ nd.args w4 (U.mod iJ (fun _ _ h=>h))) ?_;rintro r w5 ⟨rfl,ay⟩;have mr:=iJ.trans ay;have jZ:=ay.at kU (fun h=>h);have p9:=ay.at tS (fun h=>h);refine σ ?_;refine aX rfl (fun hm=>?_) (fun hm=>?_)
 ·refine σ ?_;have gw:nd.may=false:=by simpa [Nd.may] using hm
  have e:p8 ns i nd=(1,ns):=by unfold p8;rw [if_neg (by simpa using bE),if_pos gw]
  rw [e];exact ⟨rfl,same w5 ay⟩
 have nZ:nd.may=true:=by simpa [Nd.may] using hm
 have h5:=kq h mr (fun _ _ h=>h);simp only [go_sem,simprocAttr,cell_of jZ,cell_of p9];refine δ (by rfl) (zS w5 a ns.length old _ nd.args (vA h5) (U.mod mr (fun _ _ h=>h))) ?_;rintro r w6 ⟨rfl,aH⟩;have oc:=mr.trans aH;have sx:=aH.at jZ (fun h=>h);have tT:=aH.at p9 (fun h=>h);refine σ ?_;refine aX rfl (fun dR=>?_) (fun dR=>?_)
 ·refine σ ?_;have mP:bK ns.length nd.args=false:=by simpa using dR
  have e:p8 ns i nd=(212,ns):=by unfold p8;rw [if_neg (by simpa using bE),if_neg (by simp [nZ]),if_pos mP]
  rw [e];exact ⟨rfl,same w6 (ay.trans aH)⟩
 have gM:bK ns.length nd.args=true:=by simpa using dR
 have e:p8 ns i nd=(0,ns.set i nd):=by unfold p8;rw [if_neg (by simpa using bE),if_neg (by simp [nZ]),if_neg (by simp [gM])];simp
 rw [e];simp only [go_sem,simprocAttr,cell_of tT];refine δ (by rfl) (zP _ nd.args w6 (U.mod oc (fun _ _ h=>h))) ?_;rintro q w7 ⟨aZ,f7,o7,n7⟩;obtain ⟨zU,zV,rfl,_,_⟩:=o7.val;have zW:=aZ.at tT (fun h=>h);have qb:=aZ.at sx (fun h=>h);have B7:=oc.trans aZ;refine σ ?_;refine bL (off:=2) rfl rfl zW rfl (by simp) ?_;intro w8 en bY qZ;have en:w8.heap[w1.heap.size]? = some (.cells #[I nd.kind,I nd.num,.slice zU nd.args.length zV] 104 (0,0)):=en;have RE:=bY.at qb (by have:=lt_of_heap aq;omega);have s1:=ag.size;have s2:=ae.size;have s17:=B7.size;have eu:=zR h;have JA:Mod (fun _=>False) w w8:=B7.step bY (fun x U ah=>by omega);have h8:=kq h JA (fun _ _ h=>h);have s6:=oc.size;have s3:=dU.size;have s4:=aj.size;have s5:=ay.size;have s66:=aH.size;have l2:=lt_of_heap an;have o8:=o7.mod bY (fun b hb hh=>by have:=n7 b hb;omega);have anP:=vA h8;obtain ⟨cv,mb,ld,g1,g2,g3,g4,g5,g6⟩:=h8;obtain ⟨dT,ps,fp,c1,c2,c3,c4,c5⟩:=g3;have jg:ps.length=ns.length:=by rw [← c4];simp
 obtain ⟨bc,cc,tL,rfl,rfl,gc,fo,me⟩:=c1.pos (by omega);have bS:i < ps.length:=by omega
 have Ez:=mg ps;have qF:cB w8.drew 3 (.pointer (some ⟨w1.heap.size,0,none⟩))=some (.agg #[I nd.kind,I nd.num,.slice zU nd.args.length zV]):=dK (w:=w8.drew) en (off:=0) (n:=3) (by simp);have ja:Mod (fun _=>False) w8 w8.drew:=⟨Nat.le_refl _,fun _ _ _=>rfl,rfl,rfl,rfl⟩;have gcd:=ja.at gc (fun h=>h);simp only [go_sem,simprocAttr,ak,bh,cell_of RE,cell_of g1,qF,bE];refine PM rfl rfl gcd rfl (by simp;omega) (by simp [Value.oneCell']) ?_;intro w9 kn dq zN;have bq:a≠bc:=fun hh=>mc g1 (hh ▸ gc) (by decide)
 have gY:=Qo ps i (nd,.slice zU nd.args.length zV) bS tL;have vH:Mod (fun x=>x=bc) w8 w9:=(ja.aB (fun _ h=>h.elim)).step dq (fun x U _=>U);have JB:F bc:=c2 bc rfl;have JC:=vH.at RE (fun hh=>by have:=eu bc JB;omega);have ach:=vH.at en (fun hh=>by have:=eu bc JB;omega);have B8:=vH.at g1 bq;have o9:=o8.mod vH (fun b hb hh=>jk o8 gc (by decide) (by rw [hb,hh]))
 have EN:=dO g4 vH (fun hh=>by
  obtain ⟨es,c,q2,_⟩:=g4
  rw [hh,gc] at q2;cases q2)
 have d9:ko 104 w9 (.slice (some ⟨bc,0,none⟩) ns.length cc) (ns.set i nd) (fun b=>F b∨f7=some b):=by
  refine ⟨some bc,ps.set i (nd,.slice zU nd.args.length zV),_,?_,(fun b hb=>.inl (c2 b hb)),ab3 (Jw (jm c3 vH (fun j b hj hb hh=>jk (c3.1 j hj).1 gc (by decide) (by rw [hb,hh]))) (fun b hb=>.inl hb)) o9 (fun b hb=>.inr hb) (fun j b hj l9 hb hh=>?_),by rw [List.map_set,c4],fun b hb=>?_⟩
  ·refine ⟨by rw [mg];simp;omega,.inr ⟨bc,cc,tL,by simp,rfl,?_,?_,by simpa using fo⟩⟩
   ·rw [← gY];exact kn
   ·rw [List.length_append,mg,List.length_set,← mg,← List.length_append];exact me
  ·have:=eu b ((c3.1 j hj).2 b hb);have:=n7 b hh;omega
  ·have:=JA.size;have:=vH.size;rcases hb with hb | hb
   ·have:=eu b hb;omega
   ·exact o9.lt hb
 have JD:∀ b,(F b∨f7=some b)→F b∨w.heap.size≤b:=fun b hb=>hb.imp (fun h=>h) (fun h=>by have:=n7 b h;omega)
 have tH:Mod F w w9:=(JA.aB (fun _ h=>h.elim)).step vH (fun x U _=>U ▸ JB);simp only [go_sem,simprocAttr,cell_of JC,cell_of B8];refine aX rfl (fun ah=>?_) (fun ah=>?_)
 ·have mW:i < old:=by simpa using ah
  simp only [go_sem,simprocAttr,cell_of JC,cell_of B8];refine ZH (t:=200) (kt:=3) (et:=3) rfl rfl rfl Tryz.underlying200 Tryz.underlying3 EN ?_;intro fM JE ep RF;have tU:a≠mb:=fun hh=>by
   obtain ⟨es,c,q2,_⟩:=EN;rw [← hh,B8] at q2;cases q2
  have EO:=ep.at B8 tU;have RG:=ep.at JC (fun hh=>by have:=eu mb g5;omega);have aci:=ep.at ach (fun hh=>by have:=eu mb g5;omega);have JF:∀ b cs T,w9.heap[b]? = some (.cells cs T (0,0))→b≠mb:=fun b cs T hb hh=>by
   obtain ⟨es,c,q2,_⟩:=EN;rw [← hh,hb] at q2;cases q2
  have d10:ko 104 fM (.slice (some ⟨bc,0,none⟩) ns.length cc) (ns.set i nd) (fun b=>F b∨f7=some b):=by
   obtain ⟨dT,ps,fp,q1,q2,q3,q4,q5⟩:=d9;refine ⟨dT,ps,fp,q1.mod ep (fun b hb=>?_),q2,jm q3 ep (fun j b hj hb=>?_),q4,fun b hb=>by rw [RF];exact q5 b hb⟩
   ·obtain ⟨cs,q6⟩:=su q1 hb;exact JF b cs _ q6
   ·obtain ⟨cs,q6⟩:=su (q3.1 j hj).1 hb;exact JF b cs _ q6
  have o10:=o9.mod ep (fun b hb=>by obtain ⟨cs,q6⟩:=su o9 hb;exact JF b cs _ q6);have acj:nd.args.length≤17592186044416:=hl;have ack:=(o10.ints acj).1;obtain ⟨k1,k2⟩:=acf g6.1 (i:Int);have RH:Mod F w fM:=tH.step ep (fun x U _=>U ▸ g5);simp only [go_sem,simprocAttr,cell_of aci];refine ao (by rfl) ?_;have acm:xQ fM a ns.length old:=⟨_,_,_,_,_,_,EO⟩;refine (Jv _ nd.args fM ack 197 Tryz.f197 #[.pointer (some ⟨w.heap.size,0,none⟩)] (fun x=>decide (x≥old)) Tryz.func197 Rv.1 Rv.2 (fun x _=>ab7 fM a ns.length old w.heap.size x acm RG)).mono ?_;rintro q _ ⟨rfl,rfl⟩;refine σ ?_;have RI:(nd.args.any (fun x=>decide (x≥(old:Int)))=true)↔∃ x∈nd.args,(old:Int)≤x:=by simp [List.any_eq_true]
  refine aX rfl (fun hq=>?_) (fun hq=>?_)
  ·simp only [go_sem,simprocAttr,cell_of RG,cell_of EO];refine Ek (t:=200) (kt:=3) (et:=3) rfl rfl rfl Tryz.underlying200 Tryz.underlying3 JE ?_;intro jI acn hZ B9;refine σ ?_;have RJ:∀ b cs T,fM.heap[b]? = some (.cells cs T (0,0))→b≠mb:=fun b cs T hb hh=>by
    obtain ⟨es,c,q2,_⟩:=JE;rw [← hh,hb] at q2;cases q2
   obtain ⟨k3,k4⟩:=RD k1 (i:Int) 1;refine ⟨fun b=>F b∨f7=some b,⟨_,mb,_,hZ.at EO tU,.inl g2,?_,acn,.inl g5,k3,fun k=>?_⟩,RH.step hZ (fun x U _=>U ▸ g5),JD⟩
   ·obtain ⟨dT,ps,fp,q1,q2,q3,q4,q5⟩:=d10;refine ⟨dT,ps,fp,q1.mod hZ (fun b hb=>?_),q2,jm q3 hZ (fun j b hj hb=>?_),q4,fun b hb=>by rw [B9];exact q5 b hb⟩
    ·obtain ⟨cs,q6⟩:=su q1 hb;exact RJ b cs _ q6
    ·obtain ⟨cs,q6⟩:=su (q3.1 j hj).1 hb;exact RJ b cs _ q6
   ·rw [k4,k2,g6.2];constructor
    ·rintro (⟨⟨p,rfl,hp,iE⟩,Ca⟩ | rfl)
     ·exact ⟨p,rfl,hp,by rw [vE hi,if_neg (fun hh=>Ca (by rw [hh]))];exact iE⟩
     ·exact ⟨i,rfl,mW,by rw [vE hi,if_pos rfl];exact RI.1 hq⟩
    ·rintro ⟨p,rfl,hp,iE⟩;by_cases rf:p=i
     ·exact .inr (by rw [rf])
     ·rw [vE hi,if_neg rf] at iE;exact .inl ⟨⟨p,rfl,hp,iE⟩,by omega⟩
  ·refine σ ?_;refine ⟨fun b=>F b∨f7=some b,⟨_,mb,_,EO,.inl g2,d10,JE,.inl g5,k1,fun k=>?_⟩,RH,JD⟩;rw [k2,g6.2];constructor
   ·rintro ⟨⟨p,rfl,hp,iE⟩,Ca⟩;exact ⟨p,rfl,hp,by rw [vE hi,if_neg (fun hh=>Ca (by rw [hh]))];exact iE⟩
   ·rintro ⟨p,rfl,hp,iE⟩;by_cases rf:p=i
    ·rw [rf,vE hi,if_pos rfl] at iE;rw [RI.2 iE] at hq;cases hq
    ·rw [vE hi,if_neg rf] at iE;exact ⟨⟨p,rfl,hp,iE⟩,by omega⟩
 ·have mW:¬ i < old:=by simpa using ah
  refine σ ?_;refine ⟨fun b=>F b∨f7=some b,⟨_,mb,ld,B8,.inl g2,d9,EN,.inl g5,g6.1,fun k=>?_⟩,tH,JD⟩;rw [g6.2];constructor
  ·rintro ⟨p,rfl,hp,iE⟩;exact ⟨p,rfl,hp,by rw [vE hi,if_neg (by omega)];exact iE⟩
  ·rintro ⟨p,rfl,hp,iE⟩;rw [vE hi,if_neg (by omega)] at iE;exact ⟨p,rfl,hp,iE⟩
end
section
open Go Go.W
def EP (m:Int) (xs:List Int):Prop:=m∈xs∧∀ y∈xs,m≤y
theorem aco (v:Value) (xs:List Int) (w:World) (U:Ints w v xs) (bq:xs≠[]):aD Tryz.prog 213 [v] w fun r w'=>(∃ m,r=I m∧EP m xs)∧w=w':=by
 have il:=U;obtain ⟨a,c,rfl,hl,mh⟩:=U;have gF:0 < xs.length:=by cases xs with | nil=>exact absurd rfl bq | cons y l=>simp
 refine aau.calls rfl ?_;unfold I3;obtain ⟨ad,rfl,h0⟩:=mh 0 gF;rw [add_zero'] at h0;have e1:decide ((xs.length:Int) < 1)=false:=by simp;omega
 have c1:(0:Int)≤0∧(0:Int) < xs.length:=by omega
 simp only [go_sem,simprocAttr,ak,bh,e1,c1,h0];refine dz (fun m ρ w'=>∃ (k:Nat) (q:Int),m=xs.length - k∧1≤k∧k≤xs.length∧w=w'∧EP q (xs.take k)∧ρ=[(0,.slice (some ad) xs.length c),(3,I q),(4,I k)]) (xs.length - 1)
  ⟨1,xs[0],rfl,Nat.le_refl _,gF,rfl,?_,rfl⟩ ?_
 ·have e:xs.take 1=[xs[0]]:=by rw [List.take_succ_eq_append_getElem gF];simp
  rw [e];exact ⟨by simp,fun y hy=>by simp at hy;omega⟩
 rintro m ρ _ ⟨k,q,rfl,eZ,hk,rfl,hq,rfl⟩;unfold Qf;refine σ ?_;refine aX rfl (fun h=>?_) (fun h=>?_)
 ·have ah:k < xs.length:=by simpa using h
  obtain ⟨mR,he,hc⟩:=mh k ah;cases he;have c2:(0:Int)≤k∧(k:Int) < xs.length:=by omega
  have hw:IntKind.i64.wrap ((k:Int)+1)=((k+1:Nat):Int):=by rw [bU]<;>omega
  simp only [go_sem,simprocAttr,ak,bh,c2,hc,hw];refine ⟨_,?_,k+1,_,rfl,by omega,ah,?_,rfl⟩
  ·omega
  ·rw [List.take_succ_eq_append_getElem ah];obtain ⟨q1,q2⟩:=hq;by_cases RK:xs[k] < q
   ·rw [if_pos RK];refine ⟨List.mem_append_right _ (by simp),fun y hy=>?_⟩;rcases List.mem_append.1 hy with hy | hy
    ·have:=q2 y hy;omega
    ·simp at hy;omega
   ·rw [if_neg RK];refine ⟨List.mem_append_left _ q1,fun y hy=>?_⟩;rcases List.mem_append.1 hy with hy | hy
    ·exact q2 y hy
    ·simp at hy;omega
 ·have dS:k=xs.length:=by simp at h;omega
  subst dS;rw [List.take_length] at hq;refine σ ?_;exact ⟨_,rfl,hq⟩
theorem acp (pv v:Value) (xs:List Int) (w:World) (U:Ints w v xs) (bq:xs≠[]):aD Tryz.prog 209 [pv,v] w fun r w'=>(∃ m,r=I m∧EP m xs)∧w=w':=by
 refine aat.calls rfl ?_;unfold I1;refine σ ?_;refine δ (by rfl) (aco v xs w U bq) ?_;rintro q _ ⟨⟨m,rfl,hm⟩,rfl⟩;refine σ ?_;exact ⟨_,rfl,hm⟩
structure qd (ns:List Nd) (l:List Int) (R:List (Int×Int)):Prop where
 len:l.length=ns.length
 val:∀ i,i < ns.length→l.getD i 0 = -1∨l.getD i 0=over ns i
 nd:(R.map (fun q=>q.1)).Nodup
 ring:∀ k:Int,k∈R.map (fun q=>q.1)↔∃ i,i < ns.length∧k=over ns i∧l.getD i 0 ≠ -1∧ind ns (over ns i)=true
theorem RL {ns:List Nd} (hw:WF ns) {l:List Int} {R:List (Int×Int)} (h:qd ns l R) {q p:Nat} (hq:q < ns.length) (hp:p < ns.length) (he:over ns q=over ns p) (hk:l.getD p 0 ≠ -1∨ind ns (over ns p)=false):qd ns (l.set q (over ns p:Nat)) R:=by
 have nh:q < l.length:=by rw [h.len];exact hq
 refine ⟨by simpa using h.len,fun i hi=>?_,h.nd,fun k=>?_⟩
 ·rw [kT l q i _ nh]
  split
  ·rename_i e;subst e;exact .inr (by rw [he])
  ·exact h.val i hi
 ·rw [h.ring];constructor
  ·rintro ⟨i,h1,h2,h3,h4⟩;refine ⟨i,h1,h2,?_,h4⟩;rw [kT l q i _ nh]
   split
   ·omega
   ·exact h3
  ·rintro ⟨i,h1,h2,h3,h4⟩;rw [kT l q i _ nh] at h3
   split at h3
   ·rename_i e;subst e;rcases hk with hk | hk
    ·exact ⟨p,hp,by rw [h2,he],hk,by rw [← he];exact h4⟩
    ·rw [he,hk] at h4;cases h4
   ·exact ⟨i,h1,h2,h3,h4⟩
theorem acq {ns:List Nd} (hw:WF ns) {l:List Int} {R:List (Int×Int)} (h:qd ns l R) {p:Nat} (hp:p < ns.length) (he:over ns p=p) (hi:ind ns p=true):qd ns (l.set p (p:Nat)) (qO R p 1):=by
 have nh:p < l.length:=by rw [h.len];exact hp
 obtain ⟨k1,k2⟩:=RD h.nd (p:Int) 1;refine ⟨by simpa using h.len,fun i hi=>?_,k1,fun k=>?_⟩
 ·rw [kT l p i _ nh]
  split
  ·rename_i e;subst e;exact .inr (by rw [he])
  ·exact h.val i hi
 ·rw [k2,h.ring];constructor
  ·rintro (⟨i,h1,h2,h3,h4⟩ | rfl)
   ·refine ⟨i,h1,h2,?_,h4⟩;rw [kT l p i _ nh]
    split
    ·omega
    ·exact h3
   ·refine ⟨p,hp,by rw [he],?_,by rw [he];exact hi⟩;rw [kT l p p _ nh,if_pos rfl];omega
  ·rintro ⟨i,h1,h2,h3,h4⟩;rw [kT l p i _ nh] at h3
   split at h3
   ·rename_i e;subst e;exact .inr (by rw [h2,he])
   ·exact .inl ⟨i,h1,h2,h3,h4⟩
theorem RM {f:Nat→Nat} {c d:Nat} (h:fit f d c=c):∀ t,fit f (d*t) c=c:=by
 intro t
 induction t with
 | zero=>rfl
 | succ t ih=>rw [Nat.mul_succ,jV,h,ih]
theorem acr {f:Nat→Nat} {n x j k:Nat} (hf:∀ x,x < n→f x < n) (U:x < n) (l9:j < k) (hc:fit f k x=fit f j x) {m:Int} (hm:EP m (((List.range k).map (fun i=>(fit f i x:Int))).drop j)):m=(ov f n x:Nat):=by
 have ee:∀ y:Int,y∈((List.range k).map (fun i=>(fit f i x:Int))).drop j↔∃ i,j≤i∧i < k∧y=(fit f i x:Nat):=by
  intro y;rw [List.mem_iff_getElem?];constructor
  ·rintro ⟨i,hi⟩;rw [List.getElem?_drop,List.getElem?_map] at hi;cases hr:(List.range k)[j+i]? with
   | none=>rw [hr] at hi;cases hi
   | some t=>
    rw [hr] at hi;have ht:j+i < k∧t=j+i:=by
     have:=List.getElem?_eq_some_iff.1 hr;obtain ⟨h1,h2⟩:=this;simp at h1 h2;exact ⟨h1,h2.symm⟩
    simp only [Option.map_some,Option.some.injEq] at hi;exact ⟨j+i,by omega,ht.1,by rw [← hi,ht.2]⟩
  ·rintro ⟨i,h1,h2,rfl⟩;refine ⟨i - j,?_⟩;rw [List.getElem?_drop,List.getElem?_map,show j+(i - j)=i by omega,List.getElem?_range h2];rfl
 obtain ⟨ag,ae⟩:=hm;obtain ⟨i,qX,jq,rfl⟩:=(ee m).1 ag;have hd:fit f (k - j) (fit f j x)=fit f j x:=by rw [← jV,show k - j+j=k by omega,hc]
 have h1:ov f n x≤fit f i x:=by
  have qU:1≤k - j:=by omega
  have hmul:=Nat.mul_le_mul_right n qU;have:=BM hf U (i+(k - j)*n) (by omega);have e:fit f (i+(k - j)*n) x=fit f i x:=by
   rw [show i+(k - j)*n=(i - j)+((k - j)*n+j) by omega,jV,jV f ((k - j)*n) j,RM hd,← jV]
   congr 1;omega
  rwa [e] at this
 have h2:(fit f i x:Int)≤(ov f n x:Nat):=by
  obtain ⟨M,_,hM⟩:=oa f n (fit f j x);rw [vq hf U j] at hM;refine ae _ ((ee _).2 ⟨j+(M+n) % (k - j),by omega,by have:=Nat.mod_lt (M+n) (show 0 < k - j by omega);omega,?_⟩);rw [hM];have e:fit f (M+n) (fit f j x)=fit f ((M+n) % (k - j)) (fit f j x):=by
   conv=>lhs;rw [← Nat.mod_add_div (M+n) (k - j)]
   rw [jV,RM hd]
  rw [e,← jV]
  congr 2;omega
 omega
def qe (g:Nat→Nat) (k:Nat):List (Int×Int):=(List.range k).map fun j=>((g j:Int),(j:Int))
theorem RN (g:Nat→Nat) (k:Nat):qe g (k+1)=qe g k++[((g k:Int),(k:Int))]:=by simp [qe,List.range_succ]
theorem acs {g:Nat→Nat} {k:Nat} {c:Nat} (h:∀ j,j < k→g j≠c):mS (qe g k) c=none∧∀ v,qO (qe g k) c v=qe g k++[((c:Int),v)]:=by
 have hf:(qe g k).findIdx? (fun p=>p.1 == (c:Int))=none:=by
  rw [List.findIdx?_eq_none_iff];intro q hq;obtain ⟨j,hj,rfl⟩:=List.mem_map.1 hq;have:=h j (List.mem_range.1 hj);simp;omega
 refine ⟨by rw [Ir,hf];rfl,fun v=>by unfold qO;rw [hf]⟩
theorem acu {g:Nat→Nat}:∀ (k:Nat),(∀ i j,i < k→j < k→g i=g j→i=j)→∀ j,j < k→mS (qe g k) (g j)=some (j:Int):=by
 intro k
 induction k with
 | zero=>intro _ j hj;omega
 | succ k ih=>
  intro hd j hj;rw [RN];unfold mS;rw [List.find?_append];by_cases l9:j < k
  ·have:=ih (fun i j hi hj=>hd i j (by omega) (by omega)) j l9;unfold mS at this;cases hq:(qe g k).find? (fun p=>p.1 == (g j:Int)) with
   | none=>rw [hq] at this;cases this
   | some q=>rw [hq] at this;simpa using this
  ·have e:j=k:=by omega
   subst e;have hn:(qe g j).find? (fun p=>p.1 == (g j:Int))=none:=by
    rw [List.find?_eq_none];intro q hq;obtain ⟨i,hi,rfl⟩:=List.mem_map.1 hq;have bS:=List.mem_range.1 hi;have:g i≠g j:=fun hh=>by have:=hd i j (by omega) (by omega) hh;omega
    simp;omega
   rw [hn];simp
end
section
open Go Go.W
theorem JG {P:Program} {N id:Nat} {a:IR} {next:Env→World→Prop} {Q:gy} {ρ:Env} {w:World} (jP:Env→World→Prop) (h:cD P N a (ji id (kO jP Q)) ρ w) (hk:∀ ρ w,jP ρ w→next ρ w):cD P N a (ji id (kO next Q)) ρ w:=
 xv a _ _ (zp (zo hk (fun _ _ _ h=>h))) ρ w h
def sy (g:Nat→Nat) (k:Nat):List Int:=(List.range k).map fun i=>(g i:Int)
theorem acw (g:Nat→Nat) (k:Nat):sy g (k+1)=sy g k++[(g k:Int)]:=by simp [sy,List.range_succ]
theorem acx (g:Nat→Nat) (k:Nat):(sy g k).length=k:=by simp [sy]
theorem acy {w:World} {va:Option Addr} {n vc:Nat} {xs:List Int} {q:Int} (h:Ints w (.slice va n vc) xs) (U:xs=[q]):∃ ad,va=some ad∧w.cell? ad=some (I q):=by
 subst U;obtain ⟨xb,xd,ev,_,mh⟩:=h;obtain ⟨ad,h1,ef⟩:=mh 0 (by simp);cases ev;rw [add_zero'] at ef;exact ⟨ad,h1,ef⟩
theorem JH {w:World} {T n:Nat} {v:Value} {xs:List Value} {fp:Option Nat} (h:ax w T 1 v xs n fp) {i:Nat} (hi:i < n) {u:Value} (hu:xs[i]? = some u):∃ b c,v = .slice (some ⟨b,0,none⟩) n c∧w.cell? ⟨b,i,none⟩=some u:=by
 have hl:=h.1;obtain ⟨b,c,cN,hv,_,hb,_,_⟩:=h.pos (by omega);refine ⟨b,c,hv,?_⟩;rw [cell_of hb,List.getElem?_toArray,List.getElem?_append_left (by omega)];exact hu
theorem acz {w:World} {xs:List Int} {fp:Option Nat} {a:Option Addr} {c j:Nat} (h:ax w 3 1 (.slice a xs.length c) (xs.map I) xs.length fp) (hj:j < xs.length) (hl:xs.length≤17592186044416) :
   Ints w (.slice (if c=j then a else a.map (fun x=>x.add j)) (xs.length - j) (c - j)) (xs.drop j):=by
 obtain ⟨b,c',cN,he,_,hb,hc,me⟩:=h.pos (by omega);cases he;have hcj:¬ c=j:=by omega
 rw [if_neg hcj];refine ⟨_,c - j,by rw [List.length_drop];rfl,by rw [List.length_drop];omega,fun i hi=>⟨_,rfl,?_⟩⟩;rw [List.length_drop] at hi;show w.cell? ((Addr.add ⟨b,0,none⟩ j).add i)=_;rw [c8,c8,cell_of hb];rw [List.getElem?_toArray,List.getElem?_append_left (by simp;omega)];simp [Nat.mul_one,show j+i < xs.length by omega]
def acA (ns:List Nd) (w:World) (bo br:Nat) (l:List Int) (p:Nat) (w':World):Prop:=
 ∃ l' R',qd ns l' R'∧l'.getD p 0=over ns p∧(∀ i,i < ns.length→l.getD i 0 ≠ -1→l'.getD i 0 ≠ -1)∧w'.heap[bo]? = some (.cells (l'.map I).toArray 3 (0,0))∧gi w' br R'∧Mod (fun x=>x=bo∨x=br) w w'
theorem acB (ns:List Nd) (hw:WF ns) (hn:ns.length≤1048576) (w:World) (a bo br:Nat) (c0 c1 cv c3 c4 c5:Value) (l:List Int) (R:List (Int×Int)) (F:Nat→Prop)
   (ha:w.heap[a]? = some (.cells #[c0,c1,cv,c3,c4,c5] 202 (0,0))) (bC:pZ 104 w cv ns F) (hb:w.heap[bo]? = some (.cells (l.map I).toArray 3 (0,0))) (hr:gi w br R) (ct:qd ns l R) (JI:∀ x,F x→x≠bo∧x≠br) (p:Nat) (hp:p < ns.length) :
   aD Tryz.prog 205 [.pointer (some ⟨a,0,none⟩),I p,.agg #[.slice (some ⟨bo,0,none⟩) ns.length ns.length,.map (some br)]] w fun r w'=>acA ns w bo br l p w':=by
 have dJ:=BO hw;have hf:=eX hw;have ah:∀ j,fit (au ns) j p < ns.length:=fun j=>xE hf j hp
 have lb:=lt_of_heap hb;obtain ⟨jD,crs,vd,_⟩:=id hr;have lr:=lt_of_heap vd;refine aas.calls rfl ?_;unfold I0;refine σ ?_;refine b8 rfl ?_;intro w1 aq ag cL;have aq:w1.heap[w.heap.size]? = some (.cells #[.slice (some ⟨bo,0,none⟩) ns.length ns.length,.map (some br)] 246 (0,0)):=aq;refine σ ?_;refine zt ?_;intro w2 an ae dh;have a7:=ae.at aq (fun h=>h);refine σ ?_
 refine JG (fun ρ w'=>∃ (k pf:Nat) (l1:List Int) (R1:List (Int×Int)) (v:Value) (fp:Option Nat),k≤ns.length∧pf < ns.length∧qd ns l1 R1∧l1.getD pf 0=over ns p∧over ns pf=over ns p∧(k=0→pf=p)∧(∀ i,i < ns.length→l.getD i 0 ≠ -1→l1.getD i 0 ≠ -1) ∧
     w'.heap[bo]? = some (.cells (l1.map I).toArray 3 (0,0))∧gi w' br R1∧Mod (fun x=>x=bo∨x=br) w w'∧w'.heap[w.heap.size]? = some (.cells #[.slice (some ⟨bo,0,none⟩) ns.length ns.length,.map (some br)] 246 (0,0)) ∧
     ax w' 3 1 v ((sy (fun i=>fit (au ns) i p) k).map I) k fp∧(∀ b,fp=some b→w.heap.size < b) ∧
     ρ.get 1=some (I pf)∧ρ.get 5=some (.pointer (some ⟨w.heap.size,0,none⟩))∧ρ.get 7=some v) ?_ ?_
 ·refine dz (fun m ρ w' => ∃ (k : Nat) (v : Value) (fp : Option Nat), m = ns.length - k ∧ k ≤ ns.length ∧ (∀ j, j < k → ind ns (fit (au ns) j p) = true ∧ l.getD (fit (au ns) j p) 0 = -1) ∧ (∀ i j, i < k → j < k → fit (au ns) i p = fit (au ns) j p → i = j) ∧
      Mod (fun _=>False) w w'∧w'.heap[w.heap.size]? = some (.cells #[.slice (some ⟨bo,0,none⟩) ns.length ns.length,.map (some br)] 246 (0,0))∧gi w' w1.heap.size (qe (fun i=>fit (au ns) i p) k) ∧
      ax w' 3 1 v ((sy (fun i=>fit (au ns) i p) k).map I) k fp∧(∀ b,fp=some b→w1.heap.size < b) ∧
      ρ=[(0,.pointer (some ⟨a,0,none⟩)),(1,I (fit (au ns) k p:Nat)),(5,.pointer (some ⟨w.heap.size,0,none⟩)),(6,.map (some w1.heap.size)),(7,v)]) ns.length
   ⟨0,_,none,rfl,Nat.zero_le _,(fun j hj=>by omega),(fun i j hi=>by omega),ag.trans ae,a7,an,ax.nil _ _ _,(fun b hb=>by cases hb),rfl⟩ ?_
  rintro m ρ w3 ⟨k,v,fp,rfl,hk,zK,JJ,ab,aE,zc,gS,j0,rfl⟩;have vJ:=ab.at hb (fun h=>h);have zX:=dO hr ab (fun h=>h);have ha3:=ab.at ha (fun h=>h);have vK:=bC.mod ab (fun _ _ h=>h);obtain ⟨bc,cc,nv,rfl,d0,d1,d2,dx,db,_⟩:=xG vK dJ (ah k);have U:=oW vJ (i:=fit (au ns) k p) (by rw [ct.len];exact ah k);have b1:(0:Int)≤(fit (au ns) k p:Nat)∧((fit (au ns) k p:Nat):Int) < ns.length:=by have:=ah k;omega
  have jW:over ns (fit (au ns) k p)=over ns p:=vq hf hp k;obtain ⟨va,vc,rfl,_,_⟩:=gS.val;unfold Qd;simp only [go_sem,simprocAttr,ak,bh,cell_of aE,b1,U];refine aX rfl (fun hc=>?_) (fun hc=>?_)
  ·have bE:l.getD (fit (au ns) k p) 0 = -1:=by
    have h1:l.getD (fit (au ns) k p) 0 < 0:=by simpa using hc
    rcases ct.val _ (ah k) with h | h
    ·exact h
    ·omega
   simp only [go_sem,simprocAttr,ak,bh,cell_of ha3,b1,d0];refine aX rfl (fun hi=>?_) (fun hi=>?_)
   ·have bS:ind ns (fit (au ns) k p)=false:=by simpa [ind] using hi
    simp only [go_sem,simprocAttr,ak,bh,cell_of aE,b1];refine bL (off:=fit (au ns) k p) rfl rfl vJ rfl (by simp;rw [ct.len];exact ah k) ?_;intro w4 aJ aj eA;rw [map_set] at aJ;have JK:over ns (fit (au ns) k p)=fit (au ns) k p:=zG (ob bS);have acC:qd ns (l.set (fit (au ns) k p) (fit (au ns) k p:Nat)) R:=by
     have:=RL hw ct (ah k) (ah k) rfl (.inr (by rw [JK];exact bS))
     rwa [JK] at this
    have bq:bo≠br:=fun hh=>by rw [hh,vd] at hb;cases hb
    refine σ ?_;refine ⟨k,fit (au ns) k p,_,R,_,fp,hk,ah k,acC,?_,jW,(fun h=>by subst h;rfl),fun i jq h=>?_,aJ,dO zX aj (fun hh=>bq hh.symm),(ab.aB (fun _ h=>h.elim)).step aj (fun x U _=>.inl U),aj.at aE (fun hh=>by omega),gS.mod aj (fun b hb hh=>by have:=j0 b hb;have:=ag.size;omega),fun b hb=>by have:=j0 b hb;omega,rfl,rfl⟩
    ·rw [kT _ _ _ _ (by rw [ct.len];exact ah k),if_pos rfl,← jW,JK]
    ·rw [kT _ _ _ _ (by rw [ct.len];exact ah k)]
     split
     ·omega
     ·exact h
   ·have bS:ind ns (fit (au ns) k p)=true:=by simpa [ind] using hi
    obtain ⟨q',hq',RO,fJ⟩:=pX hw (ah k) bS;by_cases Cb:∃ j,j < k∧fit (au ns) j p=fit (au ns) k p
    ·obtain ⟨j,l9,xN⟩:=Cb;have acD:mS (qe (fun i=>fit (au ns) i p) k) (fit (au ns) k p:Nat)=some (j:Int):=by
      rw [← xN];exact acu k JJ j l9
     refine σ ?_;refine Is (t:=200) (kt:=3) (et:=3) rfl rfl Tryz.underlying200 Tryz.underlying3 (Tryz.zeroValue3 _) zc ?_;rw [acD];have b2:(0:Int)≤j∧(j:Int)≤k:=by omega
     have o0:=acx (fun i=>fit (au ns) i p) k;simp only [go_sem,simprocAttr,ak,bh,Option.getD_some,Option.isSome_some,b2];have EQ:=acz (xs:=sy (fun i=>fit (au ns) i p) k) (a:=va) (c:=vc) (j:=j) (by rw [o0];exact gS) (by rw [o0];exact l9) (by rw [o0];omega);rw [o0] at EQ;have acE:(sy (fun i=>fit (au ns) i p) k).drop j≠[]:=fun hh=>by
      have:=congrArg List.length hh;rw [List.length_drop,o0] at this;simp at this;omega
     refine δ (by rfl) (acp _ _ _ w3 EQ acE) ?_;rintro q _ ⟨⟨mm,rfl,se⟩,rfl⟩;have RP:mm=(over ns p:Nat):=acr hf hp l9 xN.symm se;have zY:over ns p < ns.length:=pW hf hp;have RQ:over ns (over ns p)=over ns p:=qT hf hp;have H3:ind ns (over ns p)=true:=by
      have h1:=List.mem_of_mem_drop se.1;obtain ⟨i,pb,ER⟩:=List.mem_map.1 h1;have ES:=List.mem_range.1 pb;have tW:((fit (au ns) i p:Nat):Int)=mm:=ER;have:over ns p=fit (au ns) i p:=by rw [RP] at tW;omega
      rw [this];exact (zK i ES).1
     subst RP;simp only [go_sem,simprocAttr,cell_of aE];refine Ek (t:=200) (kt:=3) (et:=3) rfl rfl rfl Tryz.underlying200 Tryz.underlying3 zX ?_;intro w4 acF aj eA;have bq:bo≠br:=fun hh=>by rw [hh,vd] at hb;cases hb
     have Cc:=aj.at vJ bq;have aJ:=aj.at aE (fun hh=>by omega);have b3:(0:Int)≤(over ns p:Nat)∧((over ns p:Nat):Int) < ns.length:=by omega
     simp only [go_sem,simprocAttr,ak,bh,cell_of aJ,b3];refine bL (off:=over ns p) rfl rfl Cc rfl (by simp;rw [ct.len];exact zY) ?_;intro w5 cd ay iq;rw [map_set] at cd;refine σ ?_;have s1:=ag.size;have s3:=ab.size;have Cd:Mod (fun x=>x=bo∨x=br) w3 w5:=(aj.aB (S':=fun x=>x=bo∨x=br) (fun x U=>.inr U)).step ay (fun x U _=>.inl U);refine ⟨k,over ns p,_,_,_,fp,hk,zY,acq hw ct zY RQ H3,?_,RQ,(fun h=>by omega),fun i jq h=>?_,cd,dO acF ay (fun hh=>bq hh.symm),(ab.aB (fun _ h=>h.elim)).trans Cd,Cd.at aE (fun hh=>by omega),gS.mod Cd (fun b hb hh=>by have:=j0 b hb;omega),fun b hb=>by have:=j0 b hb;omega,rfl,rfl⟩
     ·rw [kT _ _ _ _ (by rw [ct.len];exact zY),if_pos rfl]
     ·rw [kT _ _ _ _ (by rw [ct.len];exact zY)]
      split
      ·omega
      ·exact h
    ·have xS:=acs (g:=fun i=>fit (au ns) i p) (k:=k) (c:=fit (au ns) k p) (fun j hj hh=>Cb ⟨j,hj,hh⟩);refine σ ?_;refine Is (t:=200) (kt:=3) (et:=3) rfl rfl Tryz.underlying200 Tryz.underlying3 (Tryz.zeroValue3 _) zc ?_;rw [xS.1];simp only [go_sem,simprocAttr,ak,bh,Option.getD_none,Option.isSome_none];refine Ek (t:=200) (kt:=3) (et:=3) rfl rfl rfl Tryz.underlying200 Tryz.underlying3 zc ?_;intro w4 RR aj eA;rw [xS.2,← RN (fun i=>fit (au ns) i p) k] at RR;have s1:=ag.size;have s3:=ab.size;have lm:=(by obtain ⟨es,c,h,_⟩:=zc;exact lt_of_heap h:w1.heap.size < w3.heap.size);have ey:Mod (fun _=>False) w w4:=ab.step aj (fun x U ah=>by omega);have aJ:=aj.at aE (fun hh=>by omega);have JL:=gS.mod aj (fun b hb hh=>by have:=j0 b hb;omega);refine σ ?_;refine dL (by rfl) (by refine σ ?_;rfl) ?_;intro w5 cd ay iq;have acG:=JL.mod ay (fun _ _ h=>h);refine σ ?_;refine gN (m:=1) (news:=[I (fit (au ns) k p:Nat)]) rfl acG rfl (fun h=>by cases h) (jR cd) (by simp [Value.oneCell']) rfl (by omega) (by omega) ?_;intro v6 w6 vL jr aH jJ;obtain ⟨vC,vD,rfl,_,_⟩:=jr.val;have s4:=aj.size;have s5:=ay.size;have s6:=aH.size;have gH:Mod (fun _=>False) w w6:=(ey.trans ay).step aH (fun x U ah=>by have:=j0 x U;omega);have JM:=gH.at ha (fun h=>h);obtain ⟨bc',xH,nv',vM,e0,e1,e2,ex,eb,_⟩:=xG (bC.mod gH (fun _ _ h=>h)) dJ (ah k);cases vM;obtain ⟨xa,xc,rfl,_,_⟩:=id ex;obtain ⟨ad,rfl,ef⟩:=acy ex RO;have j8:(ai ns (fit (au ns) k p)).args.length=1:=by rw [RO];rfl
     have z3:(0:Int)≤0∧(0:Int) < ((1:Nat):Int):=by omega
     simp only [go_sem,simprocAttr,ak,bh,cell_of JM,b1,e2,j8,z3,ef];have eZ:k+1≤ns.length:=by
      have b9:((List.range (k+1)).map (fun i=>fit (au ns) i p)).Nodup:=by
       rw [List.range_succ,List.map_append,List.nodup_append];refine ⟨?_,by simp,fun x U y hy zu=>?_⟩
       ·unfold List.Nodup;rw [List.pairwise_map];refine List.Pairwise.imp_of_mem ?_ (List.nodup_range (n:=k));intro i j hi hj ek hh;exact ek (JJ i j (List.mem_range.1 hi) (List.mem_range.1 hj) hh)
       ·obtain ⟨i,hi,rfl⟩:=List.mem_map.1 U;simp at hy;exact Cb ⟨i,List.mem_range.1 hi,by rw [zu,hy]⟩
      have:=zF ns.length _ b9 (fun x U=>by obtain ⟨i,_,rfl⟩:=List.mem_map.1 U;exact ah i)
      simpa using this
     have anQ:∀ b,fp=some b→w1.heap.size < b:=j0;have cO:=aH.at (ay.at aJ (fun h=>h)) (fun hh=>by have:=j0 _ hh;omega);have JN:=dO (dO RR ay (fun h=>h)) aH (fun hh=>by have:=j0 _ hh;omega);refine ⟨_,?_,k+1,.slice vC (k+1) vD,vL,rfl,eZ,fun j hj=>?_,fun i j hi hj ek=>?_,gH,cO,JN,?_,fun b hb=>?_,?_⟩
     ·omega
     ·rcases Nat.lt_or_ge j k with h | h
      ·exact zK j h
      ·obtain rfl:j=k:=by omega
       exact ⟨bS,bE⟩
     ·rcases Nat.lt_or_ge i k with h1 | h1
      ·rcases Nat.lt_or_ge j k with h2 | h2
       ·exact JJ i j h1 h2 ek
       ·obtain rfl:j=k:=by omega
        exact absurd ⟨i,h1,ek⟩ Cb
      ·obtain rfl:i=k:=by omega
       rcases Nat.lt_or_ge j i with h2 | h2
       ·exact absurd ⟨j,h2,ek.symm⟩ Cb
       ·omega
     ·rw [acw,List.map_append];exact jr
     ·rcases jJ b hb with h | h
      ·exact j0 b h
      ·omega
     ·rw [pV,fJ]
  ·have bE:l.getD (fit (au ns) k p) 0 ≠ -1:=fun h=>by rw [h] at hc;simp at hc
   refine σ ?_;refine ⟨k,fit (au ns) k p,l,R,_,fp,hk,ah k,ct,?_,jW,(fun h=>by subst h;rfl),fun i _ h=>h,vJ,zX,ab.aB (fun _ h=>h.elim),aE,gS,fun b hb=>by have:=j0 b hb;omega,rfl,rfl⟩;rcases ct.val _ (ah k) with h | h
   ·exact absurd h bE
   ·rw [h,jW]
 ·rintro ρ w3 ⟨k,pf,l1,R1,v,fp,hk,vv,zZ,mw,jW,qf,Jl,vJ,zX,hm,aE,gS,j0,r1,r5,r7⟩;obtain ⟨va,vc,rfl,_,_⟩:=gS.val;simp only [go_sem,simprocAttr,r1,r5,r7];have JO:=lt_of_heap vJ;have s1:=ag.size
  refine dz (fun m ρ w'=>∃ (t:Nat) (l2:List Int),m=k - t∧t≤k∧qd ns l2 R1∧l2.getD pf 0=over ns p∧(∀ j,j < t→l2.getD (fit (au ns) j p) 0=over ns p)∧(∀ i,i < ns.length→l1.getD i 0 ≠ -1→l2.getD i 0 ≠ -1) ∧
      w'.heap[bo]? = some (.cells (l2.map I).toArray 3 (0,0))∧Mod (fun x=>x=bo) w3 w' ∧
      ρ=[(1,I pf),(5,.pointer (some ⟨w.heap.size,0,none⟩)),(71,.slice va k vc),(72,I k),(73,I t)]) k
   ⟨0,l1,rfl,Nat.zero_le _,zZ,mw,(fun j hj=>by omega),(fun i _ h=>h),vJ,Mod.refl _ _,rfl⟩ ?_
  rintro m ρ w4 ⟨t,l2,rfl,ht,rh,Ce,mn,RS,Cc,aj,rfl⟩;unfold Qe;have bq:bo≠br:=fun hh=>by rw [hh,vd] at hb;cases hb
  have JL:=gS.mod aj (fun b fH hh=>by have:=j0 b fH;omega);have aJ:=aj.at aE (fun hh=>by omega);refine σ ?_;refine aX rfl (fun hc=>?_) (fun hc=>?_)
  ·have jG:t < k:=by simpa using hc
   have b1:(0:Int)≤t∧(t:Int) < k:=by omega
   obtain ⟨bw,cw,ew,tw⟩:=JH JL jG (u:=I (fit (au ns) t p:Nat)) (by simp [sy,jG]);cases ew;have rj:IntKind.i64.wrap ((t:Int)+1)=((t+1:Nat):Int):=by rw [bU]<;>omega
   have b2:(0:Int)≤(fit (au ns) t p:Nat)∧((fit (au ns) t p:Nat):Int) < ns.length:=by have:=ah t;omega
   have b3:(0:Int)≤(pf:Nat)∧((pf:Nat):Int) < ns.length:=by omega
   have hxp:=oW Cc (i:=pf) (by rw [rh.len];exact vv);have ja:Mod (fun _=>False) w4 w4.drew:=⟨Nat.le_refl _,fun _ _ _=>rfl,rfl,rfl,rfl⟩;simp only [go_sem,simprocAttr,ak,bh,b1,tw,cell_of aJ,b2,b3,hxp];refine bL (off:=fit (au ns) t p) rfl rfl (ja.at Cc (fun h=>h)) rfl (by simp;rw [rh.len];exact ah t) ?_;intro w5 cd ay iq;rw [map_set,Ce] at cd;simp only [go_sem,simprocAttr,rj];have acH:over ns (fit (au ns) t p)=over ns p:=vq hf hp t;have JP:qd ns (l2.set (fit (au ns) t p) (over ns p:Nat)) R1:=by
    have:=RL hw rh (ah t) vv (by rw [acH,jW]) (.inl (by rw [Ce];omega))
    rwa [jW] at this
   have nh:fit (au ns) t p < l2.length:=by rw [rh.len];exact ah t
   refine ⟨_,?_,t+1,_,rfl,jG,JP,?_,fun j hj=>?_,fun i hi h=>?_,cd,aj.trans ((ja.aB (fun _ h=>h.elim)).step ay (fun x U _=>U)),rfl⟩
   ·omega
   ·rw [kT _ _ _ _ nh]
    split
    ·rfl
    ·exact Ce
   ·rw [kT _ _ _ _ nh]
    split
    ·rfl
    ·rename_i Ca;rcases Nat.lt_or_ge j t with h | h
     ·exact mn j h
     ·obtain rfl:j=t:=by omega
      exact absurd rfl Ca
   ·rw [kT _ _ _ _ nh]
    split
    ·omega
    ·exact RS i hi h
  ·have jG:t=k:=by simp at hc;omega
   subst jG;refine σ ?_;refine ⟨l2,R1,rh,?_,fun i hi h=>RS i hi (Jl i hi h),Cc,dO zX aj (fun hh=>bq hh.symm),hm.step aj (fun x U _=>.inl U)⟩;rcases Nat.eq_zero_or_pos t with h0 | h0
   ·have e:=qf h0;rw [e] at Ce;exact Ce
   ·exact mn 0 h0
end
section
open Go Go.W
structure JQ (w:World) (bo br:Nat) (ns:List Nd) (R:List (Int×Int)):Prop where
 of:w.heap[bo]? = some (.cells (((List.range ns.length).map fun i=>(over ns i:Int)).map I).toArray 3 (0,0))
 ring:gi w br R
 nd:(R.map (fun q=>q.1)).Nodup
 keys:∀ k:Int,k∈R.map (fun q=>q.1)↔∃ i,i < ns.length∧k=over ns i∧ind ns (over ns i)=true
theorem acI {ns:List Nd} {l:List Int} (hl:l.length=ns.length) (h:∀ i,i < ns.length→l.getD i 0=over ns i):l=(List.range ns.length).map fun i=>(over ns i:Int):=by
 apply List.ext_getElem?;intro i;by_cases hi:i < ns.length
 ·have:=h i hi;rw [List.getD_eq_getElem?_getD,List.getElem?_eq_getElem (by omega)] at this;rw [List.getElem?_eq_getElem (by omega),List.getElem?_map,List.getElem?_range hi]
  simpa using this
 ·rw [List.getElem?_eq_none (by omega),List.getElem?_eq_none (by simp;omega)]
theorem JR (ns:List Nd) (hw:WF ns) (hn:ns.length≤1048576) (w:World) (a:Nat) (c0 c1 cv c3 c4 c5:Value) (F:Nat→Prop) (ha:w.heap[a]? = some (.cells #[c0,c1,cv,c3,c4,c5] 202 (0,0))) (bC:pZ 104 w cv ns F) :
   aD Tryz.prog 199 [.pointer (some ⟨a,0,none⟩)] w fun r w'=>∃ bo br R,r = .agg #[.slice (some ⟨bo,0,none⟩) ns.length ns.length,.map (some br)]∧JQ w' bo br ns R∧w.heap.size≤bo∧w.heap.size≤br∧bo≠br∧Mod (fun _=>False) w w':=by
 obtain ⟨_,_,Jf,_,_,_,eu⟩:=id bC;obtain ⟨ca,cc,rfl,_,_⟩:=Jf.val;refine aao.calls rfl ?_;unfold IW;refine σ ?_;refine de ?_;intro w1 aq ag cL;have aq:w1.heap[w.heap.size]? = some (.cells #[.slice none 0 0,.map none] 246 (0,0)):=aq;have mY:=ag.at ha (fun h=>h);simp only [go_sem,simprocAttr,cell_of mY];refine sb (n:=ns.length) rfl (by omega) (by omega) ?_;intro w2 an ae dh;have an:w2.heap[w1.heap.size]? = some (.cells ((List.replicate ns.length (0:Int)).map I).toArray 3 (0,0)):=by simpa using an
 refine σ ?_;refine zt ?_;intro w3 aE ab gj;refine σ ?_;refine de ?_;intro w4 aJ aj eA;have aJ:w4.heap[w3.heap.size]? = some (.cells #[.slice none 0 0,.map none] 246 (0,0)):=aJ;refine σ ?_;refine cu rfl rfl aJ rfl rfl (by simp [Value.oneCell']) ?_;intro w5 cd ay iq;have s1:=ag.size;have s2:=ae.size;have s3:=ab.size;have s4:=aj.size;have l2:=lt_of_heap an;have ni:Mod (fun _=>False) w2 w5:=(ab.trans aj).step ay (fun x U ah=>by omega);have dt:Mod (fun _=>False) w w5:=(ag.trans ae).trans ni;have p9:=ni.at an (fun h=>h);have acJ:gi w5 w2.heap.size []:=dO (dO aE aj (fun h=>h)) ay (by omega);have jZ:=(ae.trans ni).at aq (fun h=>h);simp only [go_sem,simprocAttr,cell_of cd]
 refine dz (fun m ρ w'=>∃ k:Nat,m=ns.length - k∧k≤ns.length∧w'.heap[w1.heap.size]? = some (.cells ((List.replicate k (-1:Int)++List.replicate (ns.length - k) 0).map I).toArray 3 (0,0))∧Mod (fun x=>x=w1.heap.size) w5 w'∧w'.heap.size=w5.heap.size ∧
     ρ=[(0,.pointer (some ⟨a,0,none⟩)),(2,.pointer (some ⟨w.heap.size,0,none⟩)),(3,.pointer (some ⟨w3.heap.size,0,none⟩)),(16,I ns.length),(17,I k)]) ns.length
  ⟨0,rfl,Nat.zero_le _,by simpa using p9,Mod.refl _ _,rfl,rfl⟩ ?_
 rintro m ρ w6 ⟨k,rfl,hk,cO,aH,mV,rfl⟩;have ET:=aH.at cd (by omega);unfold P';refine σ ?_;refine aX rfl (fun hc=>?_) (fun hc=>?_)
 ·have dS:k < ns.length:=by simpa using hc
  have b1:(0:Int)≤k∧(k:Int) < ns.length:=by omega
  have rj:IntKind.i64.wrap ((k:Int)+1)=((k+1:Nat):Int):=by rw [bU]<;>omega
  simp only [go_sem,simprocAttr,ak,bh,cell_of ET,b1];refine bL (off:=k) rfl rfl cO rfl (by simp;omega) ?_;intro w7 cj aZ mX;rw [map_set] at cj;simp only [go_sem,simprocAttr,rj];refine ⟨_,?_,k+1,rfl,dS,?_,aH.trans aZ,by omega,rfl⟩
  ·omega
  ·have e:(List.replicate k (-1:Int)++List.replicate (ns.length - k) 0).set k (-1)=List.replicate (k+1) (-1)++List.replicate (ns.length - (k+1)) 0:=by
    rw [List.set_append,if_neg (by simp),List.length_replicate,Nat.sub_self,show ns.length - k=(ns.length - (k+1))+1 by omega,List.replicate_succ,List.set_cons_zero,List.replicate_succ' (n:=k)];simp
   rw [e] at cj;exact cj
 have dS:k=ns.length:=by simp at hc;omega
 subst dS;rw [Nat.sub_self,List.replicate_zero,List.append_nil] at cO;have JN:=dO acJ aH (by omega);have gH:Mod (fun _=>False) w w6:=dt.step aH (fun x U ah=>by omega);have JM:=gH.at ha (fun h=>h);have acK:qd ns (List.replicate ns.length (-1)) []:=by
  refine ⟨by simp,fun i hi=>.inl (by simp [List.getElem?_replicate,hi]),by simp,fun k=>⟨fun h=>by simp at h,fun ⟨i,h1,_,h3,_⟩=>absurd (by simp [List.getElem?_replicate,h1]) h3⟩⟩
 simp only [go_sem,simprocAttr,cell_of JM]
 refine dz (fun m ρ w'=>∃ (k:Nat) (l:List Int) (R:List (Int×Int)),m=ns.length - k∧k≤ns.length∧qd ns l R∧(∀ i,i < k→l.getD i 0=over ns i)∧w'.heap[w1.heap.size]? = some (.cells (l.map I).toArray 3 (0,0))∧gi w' w2.heap.size R ∧
     Mod (fun x=>x=w1.heap.size∨x=w2.heap.size) w6 w' ∧
     ρ=[(0,.pointer (some ⟨a,0,none⟩)),(2,.pointer (some ⟨w.heap.size,0,none⟩)),(3,.pointer (some ⟨w3.heap.size,0,none⟩)),(29,I ns.length),(30,I k)]) ns.length
  ⟨0,_,[],rfl,Nat.zero_le _,acK,(fun i hi=>by omega),cO,JN,Mod.refl _ _,rfl⟩ ?_
 rintro m ρ w7 ⟨k,l,R,rfl,hk,ct,cA,cj,RT,aZ,rfl⟩;have RU:=aZ.at ET (by omega);have gI:Mod (fun _=>False) w w7:=gH.step aZ (fun x U ah=>by omega);unfold Qa;refine σ ?_;refine aX rfl (fun hc=>?_) (fun hc=>?_)
 ·have dS:k < ns.length:=by simpa using hc
  have rj:IntKind.i64.wrap ((k:Int)+1)=((k+1:Nat):Int):=by rw [bU]<;>omega
  simp only [go_sem,simprocAttr,dK RU (off:=0) (n:=2) (by simp)];refine δ (by rfl) (acB ns hw hn w7 a w1.heap.size w2.heap.size c0 c1 _ c3 c4 c5 l R F (gI.at ha (fun h=>h)) (bC.mod gI (fun _ _ h=>h)) cj RT ct (fun x U=>by have:=eu x U;omega) k dS) ?_;rintro q w8 ⟨l8,R8,RW,JS,acL,en,acM,bY⟩;simp only [go_sem,simprocAttr,rj];refine ⟨_,?_,k+1,l8,R8,rfl,dS,RW,fun i hi=>?_,en,acM,aZ.trans bY,rfl⟩
  ·omega
  ·rcases Nat.lt_or_ge i k with h | h
   ·rcases RW.val i (by omega) with h2 | h2
    ·exact absurd h2 (acL i (by omega) (by rw [cA i h];omega))
    ·exact h2
   ·obtain rfl:i=k:=by omega
    exact JS
 ·have dS:k=ns.length:=by simp at hc;omega
  subst dS;have el:=acI ct.len cA;have qb:=(aH.aB (S':=fun x=>x=w1.heap.size∨x=w2.heap.size) (fun x U=>.inl U)).trans aZ |>.at jZ (by omega);simp only [go_sem,simprocAttr,dK RU (off:=0) (n:=2) (by simp)];refine cu rfl rfl qb rfl rfl (by simp [Value.oneCell']) ?_;intro w8 en bY qZ;simp only [go_sem,simprocAttr,dK en (off:=0) (n:=2) (by simp)];refine ⟨_,_,R,rfl,⟨?_,dO RT bY (by omega),ct.nd,fun k=>?_⟩,by omega,by omega,by omega,gI.step bY (fun x U ah=>by omega)⟩
  ·rw [← el];exact bY.at cj (by omega)
  ·rw [ct.ring];exact ⟨fun ⟨i,h1,h2,_,h4⟩=>⟨i,h1,h2,h4⟩,fun ⟨i,h1,h2,h4⟩=>⟨i,h1,h2,by rw [cA i h1];omega,h4⟩⟩
end
section
open Go Go.W
def gk (ns:List Nd) (fr:Nat) (out:List Nat) (p:Nat):List Nat:=if over ns p < fr∨over ns p∈out then out else out++[over ns p]
def di (ns:List Nd) (fr:Nat) (out:List Nat) (l:List Int):List Nat:=l.foldl (fun o (p:Int)=>gk ns fr o p.toNat) out
def dD (ns:List Nd) (fr:Nat) (out:List Nat) (p:Int):Int:=if over ns p.toNat < fr then over ns p.toNat else (fr+out.idxOf (over ns p.toNat):Nat)
def gT (ns:List Nd) (fr:Nat):Nat→Nat→List Nat→List Nat
 | 0,_,out=>out
 | f+1,i,out=>match out[i]? with
  | some x=>gT ns fr f (i+1) (di ns fr out (ai ns x).args)
  | none=>out
def jK (ns:List Nd) (fr:Nat) (out:List Nat):Prop:=out.Nodup∧∀ x∈out,x < ns.length∧over ns x=x∧fr≤x
theorem xT (ns:List Nd) (fr:Nat):jK ns fr []:=⟨List.nodup_nil,fun x h=>by cases h⟩
theorem vN {ns:List Nd} {fr:Nat} {out:List Nat} (h:jK ns fr out):out.length≤ns.length:=zF _ _ h.1 (fun x U=>(h.2 x U).1)
theorem acN {ns:List Nd} (hw:WF ns) {fr:Nat} {out:List Nat} (h:jK ns fr out) {p:Nat} (hp:p < ns.length):jK ns fr (gk ns fr out p):=by
 unfold gk
 split
 ·exact h
 ·rename_i hn;refine ⟨?_,?_⟩
  ·rw [List.nodup_append];refine ⟨h.1,by simp,?_⟩;intro a ha b hb gO;simp at hb;exact hn (.inr (hb ▸ gO ▸ ha))
  ·intro x U;rcases List.mem_append.1 U with U | U
   ·exact h.2 x U
   ·simp at U;subst U;exact ⟨pW (eX hw) hp,qT (eX hw) hp,by omega⟩
theorem acO (ns:List Nd) (fr:Nat) (out:List Nat) (p:Nat):out <+: gk ns fr out p:=by
 unfold gk;split
 ·exact List.prefix_rfl
 ·exact List.prefix_append _ _
theorem vO (ns:List Nd) (fr:Nat) (l:List Int):∀ out,out <+: di ns fr out l:=by
 induction l with
 | nil=>intro out;exact List.prefix_rfl
 | cons a l ih=>intro out;exact (acO ns fr out a.toNat).trans (ih _)
theorem Cf (ns:List Nd) (fr:Nat):∀ f i out,out <+: gT ns fr f i out:=by
 intro f
 induction f with
 | zero=>intro i out;exact List.prefix_rfl
 | succ f ih=>
  intro i out;unfold gT
  split
  ·exact (vO ns fr _ _).trans (ih _ _)
  ·exact List.prefix_rfl
theorem vP (ns:List Nd) (fr f i:Nat) (out:List Nat) (h:out.length≤i):gT ns fr f i out=out:=by
 cases f with
 | zero=>rfl
 | succ f=>simp [gT,List.getElem?_eq_none h]
theorem z7 (ns:List Nd) (fr f i:Nat) (out:List Nat) (h:i < out.length):gT ns fr (f+1) i out=gT ns fr f (i+1) (di ns fr out (ai ns out[i]).args):=by
 simp [gT,h]
theorem qg {ns:List Nd} (hw:WF ns) {fr:Nat}:∀ (l:List Int) {out:List Nat},jK ns fr out→bK ns.length l=true→jK ns fr (di ns fr out l):=by
 intro l
 induction l with
 | nil=>intro out h _;exact h
 | cons a l ih=>
  intro out h ho;simp only [bK,List.all_cons,Bool.and_eq_true,decide_eq_true_eq] at ho;exact ih (acN hw h (by omega)) (by simpa [bK] using ho.2)
theorem acP (ns:List Nd) (fr:Nat) (out:List Nat) (p:Nat) (h:fr≤over ns p):over ns p∈gk ns fr out p:=by
 unfold gk;split
 ·rename_i hh;exact hh.resolve_left (by omega)
 ·simp
theorem Cg {ns:List Nd} {fr:Nat} {a b:List Nat} (h:a <+: b) {p:Int} (U:over ns p.toNat < fr∨over ns p.toNat∈a):dD ns fr b p=dD ns fr a p:=by
 unfold dD
 split
 ·rfl
 ·rename_i hn;rw [QH h (U.resolve_left hn)]
theorem RX (ns:List Nd) (fr:Nat) (out:List Nat) (p:Nat):over ns p < fr∨over ns p∈gk ns fr out p:=by
 rcases Nat.lt_or_ge (over ns p) fr with h | h
 ·exact .inl h
 ·exact .inr (acP ns fr out p h)
theorem acQ {ns:List Nd} {fr:Nat} {out:List Nat} {p:Nat} (hn:¬ over ns p < fr) (iD:over ns p∉out):dD ns fr (gk ns fr out p) p=(fr+out.length:Nat):=by
 unfold dD gk;rw [Int.toNat_natCast,if_neg hn,if_neg (by simp [hn,iD]),List.idxOf_append,if_neg iD];simp
theorem Ch (ns:List Nd) (fr:Nat) (out:List Nat) (a:Int) (l:List Int):di ns fr out (a::l)=di ns fr (gk ns fr out a.toNat) l:=rfl
theorem acR (ns:List Nd) (fr:Nat) (l:List Int) (out:List Nat) {k:Nat} {a:Int} (h:l[k]? = some a):di ns fr out (l.take (k+1))=gk ns fr (di ns fr out (l.take k)) a.toNat:=by
 obtain ⟨hk,rfl⟩:=List.getElem?_eq_some_iff.1 h;rw [List.take_succ_eq_append_getElem hk];unfold di;rw [List.foldl_append];rfl
theorem xU (ns:List Nd) (fr:Nat):∀ (l:List Int) (out:List Nat) (a:Int),a∈l→over ns a.toNat < fr∨over ns a.toNat∈di ns fr out l:=by
 intro l
 induction l with
 | nil=>intro out a h;cases h
 | cons b l ih=>
  intro out a h;rw [Ch];rcases List.mem_cons.1 h with rfl | h
  ·exact (RX ns fr out a.toNat).imp (fun h=>h) (fun h=>(vO ns fr l _).subset h)
  ·exact ih _ a h
end
end Go.Proofs.YtnjobkbblhaliaaGreatDoor