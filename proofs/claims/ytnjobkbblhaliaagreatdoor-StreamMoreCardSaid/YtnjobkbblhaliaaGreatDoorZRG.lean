/- The row and the card of StreamMore. -/
import Derived.Test.YtnjobkbblhaliaaGreatDoorZRA
import Derived.KernelRfl
import Derived.Test.YtnjobkbblhaliaaGreatDoorZRF
import Derived.Test.YtnjobkbblhaliaaGreatDoorZRE
import Derived.Laws.IdiomStrings
import Derived.Lib.BufferRead
set_option linter.unusedSimpArgs false
set_option linter.unusedVariables false
set_option maxRecDepth 100000
namespace Go.Proofs.YtnjobkbblhaliaaGreatDoor
section
open Go Go.W Go.W.Z
def XY:IR:=.seq (z [f 24 1 1,l 25 24,le 26 25,bi 27 .lss 5 26] [1,5,27] <| j 27 (.skip) ((.exit 0))) <| .seq (.block 1 (.seq (q' [ln 30 2 1,f 31 1 1,l 32 31,m 33 5,ia 34 3 32 33,f 35 2 34,l 36 35,c 37 36 [30,36],m 4 37] [1,4,5]) <| .seq (z [bk 39 .neq 4 0] [1,4,5,39] <| j 39 (z [m 2 4] [2] <| .ret) (.skip)) <| .seq (q' [ln 42 2 1,f 43 1 1,l 44 43,m 45 5,ia 46 3 44 45,ln 47 3 46,c 48 37 [42,47],m 41 48,ex 49 0 41,ex 50 1 41,m 6 49,m 7 50] [1,5,7]) <| z [bk 52 .neq 7 0] [1,5,7,52] <| j 52 (z [m 2 7] [2] <| .ret) (.skip))) <| q [bk 29 .add 5 1,m 5 29] [1,5]
def Ow:IR:=z [.e (some 1) (.bx 25 (.t 0))] [1] <| z [ln 8 2 1,c 9 33 [8],m 3 9] [1,3] <| .seq (z [m 10 3] [1,10] <| j 10 (z [mk 2 4] [2] <| .ret) (.skip)) <| z [f 11 0 1,l 12 11,c 13 34 [12],m 4 13] [1,4] <| .seq (z [bk 15 .neq 4 0] [1,4,15] <| j 15 (z [m 2 4] [2] <| .ret) (.skip)) <| z [f 17 1 1,l 18 17,c 19 35 [18],m 4 19] [1,4] <| .seq (z [bk 21 .neq 4 0] [1,4,21] <| j 21 (z [m 2 4] [2] <| .ret) (.skip)) <| .seq (z [mk 5 0] [1,5] <| .block 0 (.loop XY)) <| z [mk 2 0] [2] <| .ret
theorem ak6:Fits Tryz.prog 16 1 (bb Tryz.f16 Ow) Ow [.t 2] 54:=.m Tryz.f16 _
def XZ:IR:=.seq (z [f 7 1 1,l 8 7,le 9 8,bi 10 .lss 4 9] [1,3,4,10] <| j 10 (.skip) ((.exit 0))) <| .seq (.block 1 (z [f 13 1 1,l 14 13,ia 16 3 14 4,f 17 2 16,l 18 17,le 19 18,m 5 19] [1,3,4,5] <| .seq (z [bk 21 .gtr 5 8000] [1,3,4,5,21] <| j 21 (z [.r (some 2) (.mv (.c (.bool true)))] [2] <| .ret) (.skip)) <| q [bi 24 .add 3 5,m 3 24] [1,3,4])) <| q [bk 12 .add 4 1,m 4 12] [1,3,4]
def Ox:IR:=z [.e (some 1) (.bx 25 (.t 0))] [1] <| z [mk 3 0] [1,3] <| .seq (z [mk 4 0] [1,3,4] <| .block 0 (.loop XZ)) <| z [f 25 0 1,l 26 25,le 27 26,bk 28 .gtr 27 2000,f' 28 false 30 1 1,l' 28 false 31 30,jF 28 false 32 31,bX 28 false 33 .gtr 32 2000,u 34 28 33,m' 34 false 36 3,bX 34 false 37 .gtr 36 200000,u 38 34 37,m 2 38] [2] <| .ret
theorem ak7:Fits Tryz.prog 33 1 (bb Tryz.f33 Ox) Ox [.t 2] 39:=.m Tryz.f33 _
def Oy:IR:=.seq (z [bi 40 .lss 5 3] [0,3,5,40] <| j 40 (.skip) ((.exit 2))) <| .seq (.block 3 (.seq (q' [m 43 0,m 44 5,ia 45 2 43 44,f 46 0 45,l 47 46,m 48 0,m 49 3,ia 50 2 48 49,f 51 0 50,l 52 51,bi 53 .eql 47 52] [0,3,5,53]) <| j 53 (z [mk 2 172] [2] <| .ret) (.skip))) <| q [bk 42 .add 5 1,m 5 42] [0,3,5]
def Oz:IR:=.seq (z [le 10 0,bi 11 .lss 3 10] [0,3,11] <| j 11 (.skip) ((.exit 0))) <| .seq (.block 1 (z [ia 16 2 0 3,f 17 0 16,l 18 17,c 19 54 [18],m 4 19] [0,3,4] <| .seq (z [no 21 4,m' 21 false 23 0,m' 21 false 24 3,mU 21 false 25 2 23 24,f' 21 false 26 1 25,l' 21 false 27 26,bX 21 false 28 .lss 27 0,u 29 21 28,m' 29 false 31 0,m' 29 false 32 3,mU 29 false 33 2 31 32,f' 29 false 34 1 33,l' 29 false 35 34,bX 29 false 36 .gtr 35 8,u 37 29 36] [0,3,37] <| j 37 (z [mk 2 172] [2] <| .ret) (.skip)) <| z [mk 5 0] [0,3,5] <| .block 2 (.loop Oy))) <| q [bk 13 .add 3 1,m 3 13] [0,3]
def X0:IR:=.seq (z [le 62 6,bi 63 .lss 7 62] [0,6,7,63] <| j 63 (.skip) ((.exit 4))) <| .seq (.block 5 (.seq (q' [m 66 0,m 67 7,ia 68 2 66 67,ln 69 2 68,m 70 6,m 71 7,ia 72 2 70 71,ln 73 2 72,.r (some 74) (.oK true [(0,.str),(1,.int)] (.t 69) (.t 73))] [0,6,7,74]) <| j 74 (z [mk 2 172] [2] <| .ret) (.skip))) <| q [bk 65 .add 7 1,m 7 65] [0,6,7]
def OA:IR:=z [] [0] <| .seq (z [mk 3 0] [0,3] <| .block 0 (.loop Oz)) <| z [c 54 55 [],m 6 54] [0,6] <| .seq (z [le 56 0,le 58 6,bi 59 .lss 56 58] [0,6,59] <| j 59 (z [mk 2 172] [2] <| .ret) (.skip)) <| .seq (z [mk 7 0] [0,6,7] <| .block 4 (.loop X0)) <| z [mk 2 0] [2] <| .ret
theorem ak8:Fits Tryz.prog 34 1 (bb Tryz.f34 OA) OA [.t 2] 75:=.m Tryz.f34 _
def OB:IR:=.seq (z [bi 38 .lss 5 3] [0,3,5,38] <| j 38 (.skip) ((.exit 2))) <| .seq (.block 3 (.seq (q' [m 41 0,m 42 5,ia 43 3 41 42,f 44 0 43,l 45 44,m 46 0,m 47 3,ia 48 3 46 47,f 49 0 48,l 50 49,bi 51 .eql 45 50] [0,3,5,51]) <| j 51 (z [mk 2 172] [2] <| .ret) (.skip))) <| q [bk 40 .add 5 1,m 5 40] [0,3,5]
def OC:IR:=.seq (z [le 8 0,bi 9 .lss 3 8] [0,3,9] <| j 9 (.skip) ((.exit 0))) <| .seq (.block 1 (z [ia 14 3 0 3,f 15 0 14,l 16 15,c 17 54 [16],m 4 17] [0,3,4] <| .seq (z [no 19 4,m' 19 false 21 0,m' 19 false 22 3,mU 19 false 23 3 21 22,f' 19 false 24 1 23,l' 19 false 25 24,bX 19 false 26 .lss 25 0,u 27 19 26,m' 27 false 29 0,m' 27 false 30 3,mU 27 false 31 3 29 30,f' 27 false 32 1 31,l' 27 false 33 32,bX 27 false 34 .gtr 33 24,u 35 27 34] [0,3,35] <| j 35 (z [mk 2 172] [2] <| .ret) (.skip)) <| z [mk 5 0] [0,3,5] <| .block 2 (.loop OB))) <| q [bk 11 .add 3 1,m 3 11] [0,3]
def OD:IR:=z [] [0] <| .seq (z [mk 3 0] [0,3] <| .block 0 (.loop OC)) <| z [mk 2 0] [2] <| .ret
theorem ak9:Fits Tryz.prog 35 1 (bb Tryz.f35 OD) OD [.t 2] 52:=.m Tryz.f35 _
def X6:IR:=.seq (z [le 11 1,bi 12 .lss 5 11] [1,2,5,12] <| j 12 (.skip) ((.exit 0))) <| .seq (.block 1 (.seq (q' [ln 15 2 2,m 16 1,m 17 5,ia 18 3 16 17,ln 19 3 18,c 20 56 [15,19],m 6 20] [1,2,5,6]) <| .seq (z [no 22 6] [1,2,5,22] <| j 22 (z [mk 4 172] [4] <| .ret) (.skip)) <| z [ia 25 3 1 5,ln 26 3 25,c 27 57 [26],m 7 27] [1,2,5,7] <| z [ia 30 3 1 5,ln 31 3 30,c 32 58 [31],m 8 32] [1,2,5,7,8] <| z [m' 7 true 35 8,m' 7 true 36 5,eW 7 true 37 .leq 35 36,m' 7 true 38 37,m' 38 false 39 8,m' 38 false 40 1,jF 38 false 41 40,eW 38 false 42 .geq 39 41,.gr 7 true (some 43) (.pk (.t 38) (.c (.bool true)) (.t 42)),a 44 7 43] [1,2,5,44] <| j 44 (z [mk 4 174] [4] <| .ret) (.skip))) <| q [bk 14 .add 5 1,m 5 14] [1,2,5]
def OE:IR:=z [.e (some 2) (.bx 25 (.t 0))] [1,2] <| .seq (z [mk 5 0] [1,2,5] <| .block 0 (.loop X6)) <| .seq (z [le 46 1,bk 47 .eql 46 0] [47] <| j 47 (z [mk 4 174] [4] <| .ret) (.skip)) <| z [mk 4 0] [4] <| .ret
theorem ak':Fits Tryz.prog 36 2 (bb Tryz.f36 OE) OE [.t 4] 48:=.m Tryz.f36 _
def xh:IR:=.seq (z [f 25 2 3,l 26 25,le 27 26,bi 28 .lss 7 27] [2,3,6,7,28] <| j 28 (.skip) ((.exit 0))) <| .seq (.block 1 (z [f 31 2 3,l 32 31,ia 34 3 32 7,ln 35 3 34,.e (some 8) (.al 61 (.agg #[(i 0),(i 0),(i 0)])),s 3 8 35] [2,3,6,7,8] <| z [ia 38 1 6 7,l 39 38,m 9 39] [2,3,6,7,8,9] <| .seq (z [bk 41 .eql 9 0] [2,3,6,7,8,9,41] <| j 41 (z [m 4 6,mk 5 174] [4,5] <| .ret) (.skip)) <| z [ln 43 2 2,ln 44 3 8,c 46 59 [43,44,9],m 10 46] [2,3,6,7,8,9,10] <| .seq (z [no 48 10] [2,3,6,7,8,9,48] <| j 48 (z [m 4 6,mk 5 173] [4,5] <| .ret) (.skip)) <| z [ln 50 2 2,ln 51 3 8,c 53 60 [50,51,9],m 11 53] [2,3,6,7,8,11] <| .seq (z [bk 55 .gtr 11 8000] [2,3,6,7,8,11,55] <| j 55 (z [m 4 6,mk 5 173] [4,5] <| .ret) (.skip)) <| z [ln 57 3 8,c 58 61 [57],m 12 58] [2,3,6,7,8,11,12] <| z [ln 59 3 8,c 60 58 [59],m 13 60] [2,3,6,7,8,11,12,13] <| z [no 62 12,f' 62 true 64 0 8,l' 62 true 65 64,bX 62 true 66 .neq 65 13,a 67 62 66,m 14 67] [2,3,6,7,11,13,14] <| .seq (z [m' 14 true 70 7,bX 14 true 71 .add 70 1,f' 14 true 72 2 3,l' 14 true 73 72,jF 14 true 74 73,eW 14 true 75 .geq 71 74,a 76 14 75] [2,3,6,7,11,13,14,76] <| j 76 (z [m 4 6,mk 5 174] [4,5] <| .ret) (.skip)) <| .seq (z [m' 14 true 80 6,m' 14 true 81 7,bX 14 true 82 .add 81 1,mU 14 true 83 1 80 82,l' 14 true 84 83,bX 14 true 85 .neq 84 0,a 86 14 85,m' 86 true 88 6,m' 86 true 89 7,bX 86 true 90 .add 89 1,mU 86 true 91 1 88 90,l' 86 true 92 91,m' 86 true 93 11,eW 86 true 94 .neq 92 93,a 95 86 94] [2,3,6,7,11,13,14,95] <| j 95 (z [m 4 6,mk 5 173] [4,5] <| .ret) (.skip)) <| .seq (z [m 97 14] [2,3,6,7,11,13,97] <| j 97 (q [bk 100 .add 7 1,ia 102 1 6 100,s 1 102 11] [2,3,6,7,11,13]) (.skip)) <| .seq (z [bk 104 .geq 13 0,m' 104 true 106 6,m' 104 true 107 13,mU 104 true 108 1 106 107,l' 104 true 109 108,bX 104 true 110 .neq 109 0,a 111 104 110,m' 111 true 113 6,m' 111 true 114 13,mU 111 true 115 1 113 114,l' 111 true 116 115,m' 111 true 117 11,eW 111 true 118 .neq 116 117,a 119 111 118] [2,3,6,7,11,13,119] <| j 119 (z [m 4 6,mk 5 173] [4,5] <| .ret) (.skip)) <| z [bk 122 .geq 13 0] [2,3,6,7,11,13,122] <| j 122 (q [ia 126 1 6 13,s 1 126 11] [2,3,6,7]) (.skip))) <| q [bk 30 .add 7 1,m 7 30] [2,3,6,7]
def OF:IR:=z [.e (some 2) (.bx 25 (.t 0)),.e (some 3) (.bx 59 (.t 1))] [2,3] <| z [f 15 2 3,l 16 15,le 17 16,.e (some 18) (.ms 3 1 8 #[(i 0)] (.t 17) (.t 17)),m 6 18] [2,3,6] <| z [f 20 1 3,l 21 20,bk 22 .add 21 1,.r (some 23) (.ia 1 (.t 6) (k 0)),s 1 23 22] [2,3,6] <| .seq (z [mk 7 0] [2,3,6,7] <| .block 0 (.loop xh)) <| z [m 4 6,mk 5 0] [4,5] <| .ret
theorem ala:Fits Tryz.prog 37 2 (bb Tryz.f37 OF) OF [.t 4,.t 5] 128:=.m Tryz.f37 _
def X7:IR:=.seq (z [.r (some 6) (.oJ (.t 0)),bi 7 .lss 3 6] [0,3,7] <| j 7 (.skip) ((.exit 0))) <| .seq (.block 1 (z [.r (some 12) (.rR (.t 0) (.t 3)),.r (some 13) (.bi .lss (.t 12) (.c (.int .u8 32))),m' 13 false 15 0,m' 13 false 16 3,.gr 13 false (some 17) (.rR (.t 15) (.t 16)),.gr 13 false (some 18) (.bi .gtr (.t 17) (.c (.int .u8 126))),u 19 13 18] [0,3,19] <| j 19 (z [.r (some 2) (.mv (.c (.bool false)))] [2] <| .ret) (.skip))) <| q [bk 9 .add 3 1,m 3 9] [0,3]
def OG:IR:=z [] [0] <| .seq (z [mk 3 0] [0,3] <| .block 0 (.loop X7)) <| z [.r (some 21) (.oJ (.t 0)),bk 22 .geq 21 1,m' 22 true 24 0,.gr 22 true (some 25) (.oJ (.t 24)),bX 22 true 26 .leq 25 4096,a 27 22 26,m 2 27] [2] <| .ret
theorem alb:Fits Tryz.prog 54 1 (bb Tryz.f54 OG) OG [.t 2] 28:=.m Tryz.f54 _
def OH:IR:=z [] [] <| z [.r (some 1) (.bd #[(.string ⟨#[]⟩),(i 0)] [(0,1,(.c (.string ⟨#[70,97,108,115,101]⟩)))]),.r (some 2) (.bd #[(.string ⟨#[]⟩),(i 0)] [(0,1,(.c (.string ⟨#[84,114,117,101]⟩)))]),.r (some 3) (.bd #[(.string ⟨#[]⟩),(i 0)] [(0,1,(.c (.string ⟨#[85,110,105,116]⟩)))]),.r (some 4) (.bd #[(.string ⟨#[]⟩),(i 0)] [(0,1,(.c (.string ⟨#[78,105,108]⟩)))]),.r (some 5) (.bd #[(.string ⟨#[]⟩),(i 0)] [(0,1,(.c (.string ⟨#[67,111,110,115]⟩))),(1,1,(k 2))]),.r (some 6) (.bd #[(.string ⟨#[]⟩),(i 0)] [(0,1,(.c (.string ⟨#[80,97,105,114]⟩))),(1,1,(k 2))]),.r (some 7) (.bd #[(.string ⟨#[]⟩),(i 0)] [(0,1,(.c (.string ⟨#[84,114,105,112,108,101]⟩))),(1,1,(k 3))]),.e (some 8) (.bs 47 7 #[(.string ⟨#[]⟩),(i 0),(.string ⟨#[]⟩),(i 0),(.string ⟨#[]⟩),(i 0),(.string ⟨#[]⟩),(i 0),(.string ⟨#[]⟩),(i 0),(.string ⟨#[]⟩),(i 0),(.string ⟨#[]⟩),(i 0)] [(0,2,(.t 1)),(2,2,(.t 2)),(4,2,(.t 3)),(6,2,(.t 4)),(8,2,(.t 5)),(10,2,(.t 6)),(12,2,(.t 7))]),m 0 8] [0] <| .ret
theorem alc:Fits Tryz.prog 55 0 (bb Tryz.f55 OH) OH [.t 0] 9:=.m Tryz.f55 _
def OI:IR:=z [.e (some 2) (.bx 25 (.t 0)),.e (some 3) (.bx 61 (.t 1))] [2,3] <| z [f 7 1 3,l 8 7,bk 9 .geq 8 0,f' 9 true 11 1 3,l' 9 true 12 11,f' 9 true 13 0 2,l' 9 true 14 13,jF 9 true 15 14,eW 9 true 16 .lss 12 15,a 17 9 16,m 5 17] [2,3,5] <| z [f 18 1 3,l 19 18,bk 20 .geq 19 (-4611686018427387904),f' 20 true 22 1 3,l' 20 true 23 22,bX 20 true 24 .leq 23 4611686018427387903,a 25 20 24,m 6 25] [2,3,5,6] <| .seq (z [f 26 0 3,l 27 26] [2,3,5,6,27] <| .block 0 (.seq (z [bk 29 .eql 27 1,m 28 29] [2,3,5,6,27,28] <| j 28 (.skip) (z [bk 30 .eql 27 4,m 28 30] [2,3,5,6,27,28] <| j 28 (.skip) (z [bk 31 .eql 27 5,m 28 31] [2,3,5,6,27,28] <| j 28 (.skip) (q [bk 32 .eql 27 8,m 28 32] [2,3,5,6,27,28])))) <| j 28 (z [f 33 1 3,l 34 33,bk 35 .geq 34 0,f' 35 true 37 2 3,l' 35 true 38 37,bX 35 true 39 .eql 38 0,a 40 35 39,m 4 40] [4] <| .ret) (z [bk 42 .eql 27 2,m 41 42] [2,3,5,6,27,41] <| j 41 (z [f 43 1 3,l 44 43,bk 45 .geq 44 0,f' 45 true 47 1 3,l' 45 true 48 47,f' 45 true 49 1 2,l' 45 true 50 49,jF 45 true 51 50,eW 45 true 52 .lss 48 51,a 53 45 52,f' 53 true 55 2 3,l' 53 true 56 55,bX 53 true 57 .eql 56 0,a 58 53 57,m 4 58] [4] <| .ret) (z [bk 60 .eql 27 3,m 59 60] [3,5,6,27,59] <| j 59 (z [f' 6 true 63 2 3,l' 6 true 64 63,bX 6 true 65 .eql 64 0,a 66 6 65,m 4 66] [4] <| .ret) (.seq (z [bk 68 .eql 27 6,m 67 68] [3,5,6,27,67] <| j 67 (.skip) (z [bk 69 .eql 27 11,m 67 69] [3,5,6,27,67] <| j 67 (.skip) (q [bk 70 .eql 27 17,m 67 70] [3,5,6,27,67]))) <| j 67 (z [f 71 1 3,l 72 71,bk 73 .eql 72 0,f' 73 true 75 2 3,l' 73 true 76 75,bX 73 true 77 .eql 76 0,a 78 73 77,m 4 78] [4] <| .ret) (z [bk 80 .eql 27 7,m 79 80] [3,5,6,27,79] <| j 79 (z [f 81 1 3,l 82 81,bk 83 .geq 82 1,f' 83 true 85 2 3,l' 83 true 86 85,bX 83 true 87 .eql 86 0,a 88 83 87,m 4 88] [4] <| .ret) (.seq (z [bk 90 .eql 27 9,m 89 90] [3,5,6,27,89] <| j 89 (.skip) (q [bk 91 .eql 27 10,m 89 91] [3,5,6,27,89])) <| j 89 (z [f' 5 true 94 2 3,l' 5 true 95 94,bX 5 true 96 .eql 95 0,a 97 5 96,m 4 97] [4] <| .ret) (z [bk 99 .eql 27 12,m 98 99] [3,5,6,27,98] <| j 98 (z [f 100 1 3,l 101 100,bk 102 .geq 101 1,f' 102 true 104 1 3,l' 102 true 105 104,bX 102 true 106 .leq 105 11,a 107 102 106,f' 107 true 109 2 3,l' 107 true 110 109,bX 107 true 111 .eql 110 0,a 112 107 111,m 4 112] [4] <| .ret) (z [bk 114 .eql 27 13,m 113 114] [3,5,6,27,113] <| j 113 (z [f 115 2 3,l 116 115,bk 117 .eql 116 0,m 4 117] [4] <| .ret) (z [bk 119 .eql 27 14,m 118 119] [3,5,6,27,118] <| j 118 (z [m 4 5] [4] <| .ret) (z [bk 122 .eql 27 15,m 121 122] [3,6,27,121] <| j 121 (z [m 4 6] [4] <| .ret) (z [bk 125 .eql 27 16,m 124 125] [3,124] <| j 124 (z [f 126 1 3,l 127 126,bk 128 .geq 127 1,f' 128 true 130 1 3,l' 128 true 131 130,bX 128 true 132 .leq 131 4,a 133 128 132,f' 133 true 135 2 3,l' 133 true 136 135,bX 133 true 137 .eql 136 0,a 138 133 137,m 4 138] [4] <| .ret) (.skip))))))))))))) <| z [.r (some 4) (.mv (.c (.bool false)))] [4] <| .ret
theorem ald:Fits Tryz.prog 56 2 (bb Tryz.f56 OI) OI [.t 4] 139:=.m Tryz.f56 _
def OJ:IR:=z [.e (some 1) (.bx 61 (.t 0))] [1] <| z [f 3 0 1,l 4 3,bk 5 .eql 4 13,f' 5 false 7 0 1,l' 5 false 8 7,bX 5 false 9 .eql 8 14,u 10 5 9,f' 10 false 12 0 1,l' 10 false 13 12,bX 10 false 14 .eql 13 15,u 15 10 14,m 2 15] [2] <| .ret
theorem ale:Fits Tryz.prog 57 1 (bb Tryz.f57 OJ) OJ [.t 2] 16:=.m Tryz.f57 _
def OK:IR:=z [.e (some 1) (.bx 61 (.t 0))] [1] <| .seq (z [f 3 0 1,l 4 3] [1,4] <| .block 0 (z [bk 6 .eql 4 13,m 5 6] [1,4,5] <| j 5 (z [f 7 1 1,l 8 7,m 2 8] [2] <| .ret) (.seq (z [bk 10 .eql 4 14,m 9 10] [1,4,9] <| j 9 (.skip) (q [bk 11 .eql 4 15,m 9 11] [1,9])) <| j 9 (z [f 12 2 1,l 13 12,m 2 13] [2] <| .ret) (.skip)))) <| z [mk 2 (-1)] [2] <| .ret
theorem alf:Fits Tryz.prog 58 1 (bb Tryz.f58 OK) OK [.t 2] 14:=.m Tryz.f58 _
def OL:IR:=z [.e (some 3) (.bx 25 (.t 0)),.e (some 4) (.bx 61 (.t 1))] [2,3,4] <| .seq (z [f 7 0 4,l 8 7] [2,3,4,8] <| .block 0 (.seq (z [bk 10 .eql 8 1,m 9 10] [2,3,4,8,9] <| j 9 (.skip) (z [bk 11 .eql 8 4,m 9 11] [2,3,4,8,9] <| j 9 (.skip) (q [bk 12 .eql 8 7,m 9 12] [2,3,4,8,9]))) <| j 9 (z [f 13 1 4,l 14 13,bi 16 .lss 14 2,m 6 16] [6] <| .ret) (z [bk 18 .eql 8 5,m 17 18] [2,3,4,8,17] <| j 17 (z [f 19 1 4,l 20 19,bk 22 .sub 2 1,bi 23 .lss 20 22,m 6 23] [6] <| .ret) (.seq (z [bk 25 .eql 8 6,m 24 25] [2,3,4,8,24] <| j 24 (.skip) (q [bk 26 .eql 8 12,m 24 26] [2,3,4,8,24])) <| j 24 (z [bk 28 .gtr 2 2,m 6 28] [6] <| .ret) (z [bk 30 .eql 8 9,m 29 30] [2,3,4,8,29] <| j 29 (z [f 31 0 3,l 32 31,f 33 1 4,l 34 33,ia 35 2 32 34,f 36 1 35,l 37 36,bi 39 .lss 37 2,m 6 39] [6] <| .ret) (.seq (z [bk 41 .eql 8 10,m 40 41] [2,8,40] <| j 40 (.skip) (z [bk 42 .eql 8 11,m 40 42] [2,8,40] <| j 40 (.skip) (z [bk 43 .eql 8 14,m 40 43] [2,8,40] <| j 40 (.skip) (q [bk 44 .eql 8 15,m 40 44] [2,8,40])))) <| j 40 (z [bk 46 .gtr 2 1,m 6 46] [6] <| .ret) (z [bk 48 .eql 8 17,m 47 48] [2,47] <| j 47 (z [bk 50 .eql 2 1,m 6 50] [6] <| .ret) (.skip)))))))) <| z [.r (some 6) (.mv (.c (.bool true)))] [6] <| .ret
theorem alg:Fits Tryz.prog 59 3 (bb Tryz.f59 OL) OL [.t 6] 51:=.m Tryz.f59 _
def OM:IR:=z [.e (some 3) (.bx 25 (.t 0)),.e (some 4) (.bx 61 (.t 1))] [2,3,4] <| .seq (z [f 7 0 4,l 8 7] [2,3,4,8] <| .block 0 (.seq (z [bk 10 .eql 8 1,m 9 10] [2,3,4,8,9] <| j 9 (.skip) (z [bk 11 .eql 8 2,m 9 11] [2,3,4,8,9] <| j 9 (.skip) (q [bk 12 .eql 8 3,m 9 12] [2,3,4,8,9]))) <| j 9 (z [bk 14 .add 2 1,m 6 14] [6] <| .ret) (.seq (z [bk 16 .eql 8 4,m 15 16] [2,3,4,8,15] <| j 15 (.skip) (q [bk 17 .eql 8 5,m 15 17] [2,3,4,8,15])) <| j 15 (z [f 19 1 4,l 20 19,bi 21 .sub 2 20,m 6 21] [6] <| .ret) (.seq (z [bk 23 .eql 8 6,m 22 23] [2,3,4,8,22] <| j 22 (.skip) (z [bk 24 .eql 8 7,m 22 24] [2,3,4,8,22] <| j 22 (.skip) (q [bk 25 .eql 8 12,m 22 25] [2,3,4,8,22]))) <| j 22 (z [bk 27 .sub 2 1,m 6 27] [6] <| .ret) (z [bk 29 .eql 8 8,m 28 29] [2,3,4,8,28] <| j 28 (z [f 31 1 4,l 32 31,.r (some 33) (.mm false (.t 32) (k 8000)),bi 34 .add 2 33,m 6 34] [6] <| .ret) (z [bk 36 .eql 8 9,m 35 36] [2,3,4,8,35] <| j 35 (z [f 38 0 3,l 39 38,f 40 1 4,l 41 40,ia 42 2 39 41,f 43 1 42,l 44 43,bi 45 .sub 2 44,bk 46 .add 45 1,m 6 46] [6] <| .ret) (z [bk 48 .eql 8 10,m 47 48] [2,3,4,47] <| j 47 (z [bk 50 .sub 2 1,f 51 0 3,l 52 51,f 53 1 4,l 54 53,ia 55 2 52 54,f 56 1 55,l 57 56,bi 58 .add 50 57,m 6 58] [6] <| .ret) (.skip)))))))) <| z [m 6 2] [6] <| .ret
theorem alh:Fits Tryz.prog 60 3 (bb Tryz.f60 OM) OM [.t 6] 60:=.m Tryz.f60 _
def ON:IR:=z [.e (some 1) (.bx 61 (.t 0))] [1] <| z [f 3 0 1,l 4 3,bk 5 .eql 4 16,f' 5 false 7 0 1,l' 5 false 8 7,bX 5 false 9 .eql 8 17,u 10 5 9,m 2 10] [2] <| .ret
theorem ali:Fits Tryz.prog 61 1 (bb Tryz.f61 ON) ON [.t 2] 11:=.m Tryz.f61 _
end
section
open Go Go.W
theorem X8 (w:World) (b:ByteArray) (hb:b.size≤4611686018427387904):aD Tryz.prog 54 [.string b] w fun r w'=>r = .bool (ix b)∧w=w':=by
 have dy:b.data.toList.length=b.size:=by
  show b.data.toList.length=b.data.size;exact Array.length_toList
 refine alb.calls rfl ?_;unfold OG;refine φ ?_;refine dz (fun z ρ w'=>∃ i:Nat,z=b.size - i∧i≤b.size∧w=w'∧(∀ j,(hj:j < b.data.toList.length)→j < i→32≤(b.data.toList[j]).toNat∧(b.data.toList[j]).toNat≤126)∧ρ=[(0,.string b),(3,I i)]) b.size ⟨0,rfl,by omega,rfl,fun j _ h=>absurd h (Nat.not_lt_zero j),rfl⟩ ?_;rintro z ρ _ ⟨i,rfl,hi,rfl,cA,rfl⟩;unfold X7;refine φ ?_;refine aX rfl (fun ah=>?_) (fun ah=>?_)
 ·have ah:i < b.size:=by simpa using ah
  have eK:i < b.data.toList.length:=by omega
  have c1:b[i]? = some (b.data.toList[i]):=by
   rw [getElem?_pos b i ah];rfl
  have z0:(0:Int)≤i:=by omega
  have e1:IntKind.i64.wrap ((i:Int)+1)=((i+1:Nat):Int):=by rw [bU (by omega) (by omega)];omega
  generalize hc:b.data.toList[i]=c at c1;simp only [go_sem,Nat.reduceAdd,Nat.reduceEqDiff,Nat.reduceLT,Nat.reduceLeDiff,Nat.reduceMul,reduceCtorEq,↓reduceIte,ak,bh,c1,z0];refine gz (fun ρ w'=>w=w'∧ρ.get 0=some (.string b)∧ρ.get 3=some (I i)∧ρ.get 19=some (.bool (decide ((c.toNat:Int) < 32∨(c.toNat:Int) > 126)))) ?_ ?_
  ·cases h1:decide ((c.toNat:Int) < 32)<;>simp only [go_sem,Nat.reduceAdd,Nat.reduceEqDiff,Nat.reduceLT,Nat.reduceLeDiff,Nat.reduceMul,reduceCtorEq,↓reduceIte,ak,bh,h1,c1,z0]<;>(simp only [aK,aL,aM,ak,aN] at h1;simp [h1])
  rintro ρ _ ⟨rfl,r0,r3,r19⟩;simp only [go_sem,Nat.reduceAdd,Nat.reduceEqDiff,Nat.reduceLT,Nat.reduceLeDiff,Nat.reduceMul,reduceCtorEq,↓reduceIte,r0,r3,r19];refine aX rfl (fun hh=>?_) (fun hh=>?_)
  ·simp only [aK,aL,aM,ak,aN] at hh;refine φ ?_;have e:ix b=false:=by
    unfold ix;have:b.data.toList.all (fun c=>decide (32≤c.toNat)&&decide (c.toNat≤126))=false:=by
     rw [List.all_eq_false];refine ⟨c,by rw [← hc];exact List.getElem_mem eK,?_⟩;simp only [Bool.and_eq_true,decide_eq_true_eq];omega
    rw [this];rfl
   rw [e]
  ·simp only [aK,aL,aM,ak,aN] at hh;simp only [go_sem,Nat.reduceAdd,Nat.reduceEqDiff,Nat.reduceLT,Nat.reduceLeDiff,Nat.reduceMul,reduceCtorEq,↓reduceIte,e1];refine ⟨_,by omega,i+1,rfl,by omega,fun j hj lv=>?_,rfl⟩;by_cases Mn:j < i
   ·exact cA j hj Mn
   ·obtain rfl:j=i:=by omega
    rw [hc];omega
 ·have ah:¬ i < b.size:=by simpa using ah
  obtain rfl:i=b.size:=by omega
  refine φ ?_;have e:ix b=(decide ((b.size:Int)≥1)&&decide ((b.size:Int)≤4096)):=by
   unfold ix;have:b.data.toList.all (fun c=>decide (32≤c.toNat)&&decide (c.toNat≤126))=true:=by
    rw [List.all_eq_true];intro c hc;obtain ⟨j,hj,rfl⟩:=List.getElem_of_mem hc;have:=cA j hj (by omega);simp only [Bool.and_eq_true,decide_eq_true_eq];exact this
   rw [this,dy,Bool.true_and]
   congr 1
   ·exact decide_eq_decide.2 (by omega)
   ·exact decide_eq_decide.2 (by omega)
  rw [e];cases h1:decide ((b.size:Int)≥1)<;>simp only [go_sem,Nat.reduceAdd,Nat.reduceEqDiff,Nat.reduceLT,Nat.reduceLeDiff,Nat.reduceMul,reduceCtorEq,↓reduceIte,h1,Bool.true_and,Bool.false_and]
theorem alj (w:World):aD Tryz.prog 55 [] w fun r w'=>r = .slice (some ⟨w.heap.size,0,none⟩) 7 7∧w'.heap[w.heap.size]? = some (.cells (fj.flatMap jc).toArray 47 (0,0))∧Mod (fun _=>False) w w':=by
 refine alc.calls rfl ?_;unfold OH;refine σ ?_;refine dL (by rfl) (by rfl) ?_;intro w1 aq ag _;refine σ ?_;exact ⟨aq,ag⟩
theorem alk {w:World} {bt bp:Value} {T:bl} {B:Nat→Prop} (h:dE w bt bp T B) (hT:lg T):aD Tryz.prog 33 [eC bt bp] w fun r w'=>r = .bool (yF T)∧Mod (fun _=>False) w w':=by
 obtain ⟨⟨aS,cS,rfl⟩,aG,cG,rfl⟩:=ig h;refine ak7.calls rfl ?_;unfold Ox eC;refine φ ?_;refine b8 rfl ?_;intro w1 aq ag cL;refine φ ?_
 refine dz (fun z ρ w'=>∃ i:Nat,z=T.globals.length - i∧i≤T.globals.length∧Mod (fun _=>False) w w'∧w'.heap[w.heap.size]? = some (.cells #[.slice aS T.aC.length cS,.slice aG T.globals.length cG] 25 (0,0))∧(∀ g∈T.globals.take i,g.code.length≤8000) ∧
  ρ=[(1,ptr w.heap.size),(3,I (lh (T.globals.take i):Nat)),(4,I i)]) T.globals.length ⟨0,rfl,by omega,ag,aq,(fun g hg=>by simp at hg),rfl⟩ ?_
 rintro z ρ w2 ⟨i,rfl,hi,ae,an,cA,rfl⟩;have yH:∀ l:List Gl,(∀ g∈l,g.code.length≤8000)→lh l≤8000*l.length:=by
  intro l
  induction l with
  | nil=>intro _;simp [lh]
  | cons g l ih=>
   intro hl;have h1:=ih (fun g hg=>hl g (by simp [hg]));have h2:=hl g (by simp);unfold lh at h1 ⊢;simp only [List.map_cons,List.sum_cons,List.length_cons];omega
 have dh:=yH _ cA;rw [List.length_take] at dh;unfold XZ;simp only [go_sem,Nat.reduceAdd,Nat.reduceEqDiff,Nat.reduceLT,Nat.reduceLeDiff,Nat.reduceMul,reduceCtorEq,↓reduceIte,cell_of an];refine aX rfl (fun ah=>?_) (fun ah=>?_)
 ·have ah:i < T.globals.length:=by simpa using ah
  obtain ⟨ad,c,cv,e',_,q2,q3,q4,sP⟩:=yB (h.mod ae (fun _ _ h=>h) (fun _ h=>h)) ah;cases e';rw [GA ah] at q2 q3 sP;obtain ⟨kD,ii,dW⟩:=oz sP;have b1:(0:Int)≤i∧(i:Int) < T.globals.length:=by omega
  have wO:=hT.code _ (List.getElem_mem ah);generalize hg:T.globals[i]=g at *;subst dW;rw [List.length_map] at q4;have OO:w2.cell? ⟨(ad.add (i*3)).block,(ad.add (i*3)).off+2,none⟩=_:=q4;have yI:=hT.gn;have e1:IntKind.i64.wrap ((lh (T.globals.take i):Int)+g.code.length)=(lh (T.globals.take (i+1)):Nat):=by
   rw [bU (by omega) (by omega),List.take_succ_eq_append_getElem ah,hg];unfold lh;rw [List.map_append,List.sum_append];simp
  have e2:IntKind.i64.wrap ((i:Int)+1)=((i+1:Nat):Int):=by rw [bU (by omega) (by omega)];omega
  simp only [go_sem,Nat.reduceAdd,Nat.reduceEqDiff,Nat.reduceLT,Nat.reduceLeDiff,Nat.reduceMul,reduceCtorEq,↓reduceIte,ak,bh,cell_of an,b1,OO,e1,e2];refine aX rfl (fun h8=>?_) (fun h8=>?_)
  ·simp only [aK,aL,aM,ak,aN] at h8;refine φ ?_;refine ⟨?_,ae⟩;have:T.globals.any (fun g=>decide (g.code.length > 8000))=true:=List.any_eq_true.2 ⟨g,by rw [← hg];exact List.getElem_mem ah,by simp;omega⟩;rw [AI,this];rfl
  ·simp only [aK,aL,aM,ak,aN] at h8;simp only [go_sem,Nat.reduceAdd,Nat.reduceEqDiff,Nat.reduceLT,Nat.reduceLeDiff,Nat.reduceMul,reduceCtorEq,↓reduceIte,e1,e2];refine ⟨_,by omega,i+1,rfl,by omega,ae,an,fun g' cM=>?_,rfl⟩;rw [List.take_succ_eq_append_getElem ah,hg] at cM;rcases List.mem_append.1 cM with h1 | h1
   ·exact cA g' h1
   ·obtain rfl:=List.mem_singleton.1 h1;omega
 ·have ah:¬ i < T.globals.length:=by simpa using ah
  obtain rfl:i=T.globals.length:=by omega
  rw [List.take_length] at *;have e0:T.globals.any (fun g=>decide (g.code.length > 8000))=false:=by
   rw [List.any_eq_false];intro g hg;have:=cA g hg;simp;omega
  rw [AI,e0,Bool.false_or];have c1:decide (T.aC.length > 2000)=decide ((T.aC.length:Int) > 2000):=decide_eq_decide.2 (by omega);have c2:decide (T.globals.length > 2000)=decide ((T.globals.length:Int) > 2000):=decide_eq_decide.2 (by omega);have c3:decide ((T.globals.map (·.code.length)).sum > 200000)=decide ((lh T.globals:Int) > 200000):=decide_eq_decide.2 (by unfold lh;omega);rw [c1,c2,c3];cases h1:decide ((T.aC.length:Int) > 2000)<;>cases h2:decide ((T.globals.length:Int) > 2000)<;>simp only [go_sem,Nat.reduceAdd,Nat.reduceEqDiff,Nat.reduceLT,Nat.reduceLeDiff,Nat.reduceMul,reduceCtorEq,↓reduceIte,cell_of an,h1,h2,Bool.true_or,Bool.false_or]<;>exact ae
end
section
open Go Go.W
def uR (w:World) (v:Value) (sz:Nat) (l:List (ByteArray×Int)):Prop:=∃ a c,v = .slice a l.length c∧∀ i (h:i < l.length),∃ ad,a=some ad∧w.cell? (ad.add (i*sz))=some (.string l[i].1)∧w.cell? ⟨(ad.add (i*sz)).block,(ad.add (i*sz)).off+1,none⟩=some (I l[i].2)
section
variable {w:World} {v bt bp:Value} {T:bl} {B:Nat→Prop} {l:List (ByteArray×Int)}
theorem uR.mod {w':World} {sz:Nat} (h:uR w v sz l) (hm:Mod (fun _=>False) w w'):uR w' v sz l:=by
 obtain ⟨a,c,h1,h2⟩:=h;refine ⟨a,c,h1,fun i hi=>?_⟩;obtain ⟨ad,h3,h4,h5⟩:=h2 i hi;exact ⟨ad,h3,hm.cell h4 (fun h=>h),hm.cell h5 (fun h=>h)⟩
theorem alm (h:dE w bt bp T B):uR w bt 2 (fD T):=by
 obtain ⟨⟨a,c,rfl⟩,_⟩:=ig h;have hl:(fD T).length=T.aC.length:=by simp [fD]
 refine ⟨a,c,by rw [hl],fun i hi=>?_⟩;rw [hl] at hi;obtain ⟨ad,c',e,h2,h3⟩:=yo h hi;cases e;have e:T.sh (i:Int)=T.aC[i]:=by unfold bl.sh;rw [Int.toNat_natCast,List.getD_eq_getElem?_getD,List.getElem?_eq_getElem hi];rfl
 rw [e] at h2 h3;have hp:(fD T)[i]'(by omega)=(T.aC[i].name,T.aC[i].fields):=by simp [fD]
 rw [hp];rw [Addr.add_zero'] at h2;exact ⟨ad,rfl,h2,h3⟩
theorem aln (h:dE w bt bp T B):uR w bp 3 (eV T):=by
 obtain ⟨_,a,c,rfl⟩:=ig h;have hl:(eV T).length=T.globals.length:=by simp [eV]
 refine ⟨a,c,by rw [hl],fun i hi=>?_⟩;rw [hl] at hi;obtain ⟨ad,c',cv,e,_,h2,h3,_⟩:=yB h hi;cases e;rw [GA hi] at h2 h3;have hp:(eV T)[i]'(by omega)=(T.globals[i].name,T.globals[i].arity):=by simp [eV]
 rw [hp];rw [Addr.add_zero'] at h2;exact ⟨ad,rfl,h2,h3⟩
def td (l:List (ByteArray×Int)) (i:Nat) (s:ByteArray):Bool:=((l.take i).map (·.1)).all (fun t=>decide (t≠s))
theorem Hm {i:Nat} {s:ByteArray} (hi:i≤l.length):td l i s=true↔∀ k (h:k < l.length),k < i→l[k].1≠s:=by
 unfold td;rw [List.all_eq_true];constructor
 ·intro h k hk rV;have:=h l[k].1 (List.mem_map.2 ⟨l[k],by rw [List.mem_take_iff_getElem];exact ⟨k,by omega,rfl⟩,rfl⟩)
  simpa using this
 ·intro h t ht;obtain ⟨p,hp,rfl⟩:=List.mem_map.1 ht;rw [List.mem_take_iff_getElem] at hp;obtain ⟨k,hk,rfl⟩:=hp;have:=h k (by omega) (by omega)
  simpa using this
theorem alo {Q:gy} (h:uR w v 2 l) {i:Nat} (hi:i < l.length) (hl:l.length≤17592186044416)
   (fU:∀ w',td l i l[i].1=false→Mod (fun _=>False) w w'→Q .ret [(2,I 172)] w')
   (gR:∀ w',td l i l[i].1=true→Mod (fun _=>False) w w'→Q (.exit 2) [(0,v),(3,I i),(5,I i),(40,.bool false)] w') :
   cD Tryz.prog 75 (.loop Oy) Q [(0,v),(3,I i),(5,I 0)] w:=by
 refine dz (fun z ρ w'=>∃ k:Nat,z=i - k∧k≤i∧Mod (fun _=>False) w w'∧(∀ j (hj:j < l.length),j < k→l[j].1≠l[i].1)∧ρ=[(0,v),(3,I i),(5,I k)]) i ⟨0,rfl,Nat.zero_le _,Mod.refl _ _,fun j _ hj=>absurd hj (Nat.not_lt_zero j),rfl⟩ ?_;rintro z ρ w2 ⟨k,rfl,hk,hm,cA,rfl⟩;unfold Oy;rcases Nat.lt_or_ge k i with ah | hge
 ·have kj:k < l.length:=by omega
  obtain ⟨a,c,rfl,hc⟩:=h.mod hm;obtain ⟨ad,rfl,q1,_⟩:=hc k kj;obtain ⟨mR,e,q2,_⟩:=hc i hi;cases e;have e1:decide ((k:Int) < i)=true:=by rw [decide_eq_true_eq];omega
  have e2:IntKind.i64.wrap ((k:Int)+1)=((k+1:Nat):Int):=by rw [IntKind.wrap_i64];omega
  have e3:(0:Int)≤k∧(k:Int) < l.length:=by omega
  have e4:(0:Int)≤i∧(i:Int) < l.length:=by omega
  have yU:w2.drew.cell? (ad.add (k*2))=some (.string l[k].1):=q1;have yV:w2.drew.cell? (ad.add (i*2))=some (.string l[i].1):=q2;cases hd:decide (l[k].1=l[i].1) with
  | true=>
   have ci:l[k].1=l[i].1:=of_decide_eq_true hd;simp only [go_sem,Nat.reduceAdd,Nat.reduceEqDiff,Nat.reduceLT,Nat.reduceLeDiff,Nat.reduceMul,reduceCtorEq,↓reduceIte,e1,e3,e4,decide_true,Int.toNat_natCast,Addr.add_zero',q1,q2,yU,yV,nP,hd];refine fU _ ?_ hm.drew;rw [Bool.eq_false_iff];intro hh;exact (Hm (by omega)).1 hh k kj ah ci
  | false=>
   have ci:¬ l[k].1=l[i].1:=of_decide_eq_false hd;simp only [go_sem,Nat.reduceAdd,Nat.reduceEqDiff,Nat.reduceLT,Nat.reduceLeDiff,Nat.reduceMul,reduceCtorEq,↓reduceIte,e1,e2,e3,e4,decide_true,Int.toNat_natCast,Addr.add_zero',q1,q2,yU,yV,nP,hd];refine ⟨_,?_,k+1,rfl,by omega,hm.drew,fun j hj l9=>?_,rfl⟩
   ·omega
   ·rcases Nat.lt_or_ge j k with h' | h'
    ·exact cA j hj h'
    ·obtain rfl:j=k:=by omega
     exact ci
 ·obtain rfl:k=i:=by omega
  have e1:decide ((k:Int) < k)=false:=by simp
  simp only [go_sem,Nat.reduceAdd,Nat.reduceEqDiff,Nat.reduceLT,Nat.reduceLeDiff,Nat.reduceMul,reduceCtorEq,↓reduceIte,e1];exact gR _ ((Hm (by omega)).2 cA) hm
theorem alp {Q:gy} (h:uR w v 2 l) (hl:l.length≤17592186044416) (dy:∀ p∈l,p.1.size≤4611686018427387904)
   (fU:∀ w',fi 8 [] l=false→Mod (fun _=>False) w w'→Q .ret [(2,I 172)] w')
   (gR:∀ w',fi 8 [] l=true→Mod (fun _=>False) w w'→Q (.exit 0) [(0,v),(3,I l.length),(11,.bool false)] w') :
   cD Tryz.prog 75 (.loop Oz) Q [(0,v),(3,I 0)] w:=by
 refine dz (fun z ρ w'=>∃ (i:Nat) (rest:Go.W.Env),z=l.length - i∧i≤l.length∧Mod (fun _=>False) w w'∧fi 8 [] l=fi 8 ((l.take i).map (·.1)).reverse (l.drop i)∧ρ=(0,v)::(3,I i)::rest) l.length ⟨0,[],rfl,Nat.zero_le _,Mod.refl _ _,rfl,rfl⟩ ?_;rintro z ρ w2 ⟨i,rest,rfl,hi,hm,cq,rfl⟩;unfold Oz;rcases Nat.lt_or_ge i l.length with ah | hge
 ·have h2:=h.mod hm;obtain ⟨a,c,rfl,hc⟩:=h2;obtain ⟨ad,rfl,q1,q2⟩:=hc i ah;have cr:=GJ (hi:=8) ah;have OP:=dy _ (List.getElem_mem ah);have e1:decide ((i:Int) < l.length)=true:=by rw [decide_eq_true_eq];omega
  have e2:IntKind.i64.wrap ((i:Int)+1)=((i+1:Nat):Int):=by rw [IntKind.wrap_i64];omega
  have e3:(0:Int)≤i∧(i:Int) < l.length:=by omega
  have n1:decide (0≤l[i].2) = !decide (l[i].2 < 0):=by by_cases q:l[i].2 < 0<;>simp [q];omega
  have n2:decide (l[i].2≤8) = !decide (l[i].2 > 8):=by by_cases q:l[i].2 > 8<;>simp [q];omega
  rw [n1,n2] at cr;simp only [go_sem,Nat.reduceAdd,Nat.reduceEqDiff,Nat.reduceLT,Nat.reduceLeDiff,Nat.reduceMul,reduceCtorEq,↓reduceIte,e1,e3,decide_true,Int.toNat_natCast,Addr.add_zero',q1];refine δ (by rfl) (X8 w2 l[i].1 OP) ?_;rintro _ _ ⟨rfl,rfl⟩;cases hA:ix l[i].1 with
  | false=>
   rw [hA] at cr;simp only [go_sem,Nat.reduceAdd,Nat.reduceEqDiff,Nat.reduceLT,Nat.reduceLeDiff,Nat.reduceMul,reduceCtorEq,↓reduceIte,hA,Bool.not_false];exact fU _ (by rw [cq,cr];simp) hm
  | true=>
  cases hC:decide (l[i].2 < 0) with
  | true=>
   rw [hC] at cr;simp only [go_sem,Nat.reduceAdd,Nat.reduceEqDiff,Nat.reduceLT,Nat.reduceLeDiff,Nat.reduceMul,reduceCtorEq,↓reduceIte,hA,Bool.not_true,e3,decide_true,Int.toNat_natCast,q2,hC];exact fU _ (by rw [cq,cr];simp) hm
  | false=>
  cases hD:decide (l[i].2 > 8) with
  | true=>
   rw [hD] at cr;simp only [go_sem,Nat.reduceAdd,Nat.reduceEqDiff,Nat.reduceLT,Nat.reduceLeDiff,Nat.reduceMul,reduceCtorEq,↓reduceIte,hA,Bool.not_true,e3,decide_true,Int.toNat_natCast,q2,hC,hD];exact fU _ (by rw [cq,cr];simp) hm
  | false=>
  rw [hA,hC,hD] at cr;simp only [go_sem,Nat.reduceAdd,Nat.reduceEqDiff,Nat.reduceLT,Nat.reduceLeDiff,Nat.reduceMul,reduceCtorEq,↓reduceIte,hA,Bool.not_true,e3,decide_true,Int.toNat_natCast,q2,hC,hD];refine alo (h.mod hm) ah hl (fun w' hf gw=>?_) (fun w' hf gw=>?_)
  ·unfold td at hf;rw [hf] at cr;refine φ ?_;exact fU _ (by rw [cq,cr];rfl) (hm.trans gw)
  ·unfold td at hf;rw [hf] at cr;simp only [go_sem,Nat.reduceAdd,Nat.reduceEqDiff,Nat.reduceLT,Nat.reduceLeDiff,Nat.reduceMul,reduceCtorEq,↓reduceIte,e2];refine ⟨_,?_,i+1,_,rfl,by omega,hm.trans gw,?_,rfl⟩
   ·omega
   ·rw [cq,cr];rfl
 ·obtain rfl:i=l.length:=by omega
  have e1:decide (((l.length:Nat):Int) < l.length)=false:=by simp
  obtain ⟨a,c,rfl,_⟩:=h;rw [List.drop_length] at cq;simp only [go_sem,Nat.reduceAdd,Nat.reduceEqDiff,Nat.reduceLT,Nat.reduceLeDiff,Nat.reduceMul,reduceCtorEq,↓reduceIte,e1];exact gR _ (by rw [cq];rfl) hm
theorem alq {Q:gy} (h:uR w v 3 l) {i:Nat} (hi:i < l.length) (hl:l.length≤17592186044416)
   (fU:∀ w',td l i l[i].1=false→Mod (fun _=>False) w w'→Q .ret [(2,I 172)] w')
   (gR:∀ w',td l i l[i].1=true→Mod (fun _=>False) w w'→Q (.exit 2) [(0,v),(3,I i),(5,I i),(38,.bool false)] w') :
   cD Tryz.prog 52 (.loop OB) Q [(0,v),(3,I i),(5,I 0)] w:=by
 refine dz (fun z ρ w'=>∃ k:Nat,z=i - k∧k≤i∧Mod (fun _=>False) w w'∧(∀ j (hj:j < l.length),j < k→l[j].1≠l[i].1)∧ρ=[(0,v),(3,I i),(5,I k)]) i ⟨0,rfl,Nat.zero_le _,Mod.refl _ _,fun j _ hj=>absurd hj (Nat.not_lt_zero j),rfl⟩ ?_;rintro z ρ w2 ⟨k,rfl,hk,hm,cA,rfl⟩;unfold OB;rcases Nat.lt_or_ge k i with ah | hge
 ·have kj:k < l.length:=by omega
  obtain ⟨a,c,rfl,hc⟩:=h.mod hm;obtain ⟨ad,rfl,q1,_⟩:=hc k kj;obtain ⟨mR,e,q2,_⟩:=hc i hi;cases e;have e1:decide ((k:Int) < i)=true:=by rw [decide_eq_true_eq];omega
  have e2:IntKind.i64.wrap ((k:Int)+1)=((k+1:Nat):Int):=by rw [IntKind.wrap_i64];omega
  have e3:(0:Int)≤k∧(k:Int) < l.length:=by omega
  have e4:(0:Int)≤i∧(i:Int) < l.length:=by omega
  have yU:w2.drew.cell? (ad.add (k*3))=some (.string l[k].1):=q1;have yV:w2.drew.cell? (ad.add (i*3))=some (.string l[i].1):=q2;cases hd:decide (l[k].1=l[i].1) with
  | true=>
   have ci:l[k].1=l[i].1:=of_decide_eq_true hd;simp only [go_sem,Nat.reduceAdd,Nat.reduceEqDiff,Nat.reduceLT,Nat.reduceLeDiff,Nat.reduceMul,reduceCtorEq,↓reduceIte,e1,e3,e4,decide_true,Int.toNat_natCast,Addr.add_zero',q1,q2,yU,yV,nP,hd];refine fU _ ?_ hm.drew;rw [Bool.eq_false_iff];intro hh;exact (Hm (by omega)).1 hh k kj ah ci
  | false=>
   have ci:¬ l[k].1=l[i].1:=of_decide_eq_false hd;simp only [go_sem,Nat.reduceAdd,Nat.reduceEqDiff,Nat.reduceLT,Nat.reduceLeDiff,Nat.reduceMul,reduceCtorEq,↓reduceIte,e1,e2,e3,e4,decide_true,Int.toNat_natCast,Addr.add_zero',q1,q2,yU,yV,nP,hd];refine ⟨_,?_,k+1,rfl,by omega,hm.drew,fun j hj l9=>?_,rfl⟩
   ·omega
   ·rcases Nat.lt_or_ge j k with h' | h'
    ·exact cA j hj h'
    ·obtain rfl:j=k:=by omega
     exact ci
 ·obtain rfl:k=i:=by omega
  have e1:decide ((k:Int) < k)=false:=by simp
  simp only [go_sem,Nat.reduceAdd,Nat.reduceEqDiff,Nat.reduceLT,Nat.reduceLeDiff,Nat.reduceMul,reduceCtorEq,↓reduceIte,e1];exact gR _ ((Hm (by omega)).2 cA) hm
theorem alr {Q:gy} (h:uR w v 3 l) (hl:l.length≤17592186044416) (dy:∀ p∈l,p.1.size≤4611686018427387904)
   (fU:∀ w',fi 24 [] l=false→Mod (fun _=>False) w w'→Q .ret [(2,I 172)] w')
   (gR:∀ w',fi 24 [] l=true→Mod (fun _=>False) w w'→Q (.exit 0) [(0,v),(3,I l.length),(9,.bool false)] w') :
   cD Tryz.prog 52 (.loop OC) Q [(0,v),(3,I 0)] w:=by
 refine dz (fun z ρ w'=>∃ (i:Nat) (rest:Go.W.Env),z=l.length - i∧i≤l.length∧Mod (fun _=>False) w w'∧fi 24 [] l=fi 24 ((l.take i).map (·.1)).reverse (l.drop i)∧ρ=(0,v)::(3,I i)::rest) l.length ⟨0,[],rfl,Nat.zero_le _,Mod.refl _ _,rfl,rfl⟩ ?_;rintro z ρ w2 ⟨i,rest,rfl,hi,hm,cq,rfl⟩;unfold OC;rcases Nat.lt_or_ge i l.length with ah | hge
 ·have h2:=h.mod hm;obtain ⟨a,c,rfl,hc⟩:=h2;obtain ⟨ad,rfl,q1,q2⟩:=hc i ah;have cr:=GJ (hi:=24) ah;have OP:=dy _ (List.getElem_mem ah);have e1:decide ((i:Int) < l.length)=true:=by rw [decide_eq_true_eq];omega
  have e2:IntKind.i64.wrap ((i:Int)+1)=((i+1:Nat):Int):=by rw [IntKind.wrap_i64];omega
  have e3:(0:Int)≤i∧(i:Int) < l.length:=by omega
  have n1:decide (0≤l[i].2) = !decide (l[i].2 < 0):=by by_cases q:l[i].2 < 0<;>simp [q];omega
  have n2:decide (l[i].2≤24) = !decide (l[i].2 > 24):=by by_cases q:l[i].2 > 24<;>simp [q];omega
  rw [n1,n2] at cr;simp only [go_sem,Nat.reduceAdd,Nat.reduceEqDiff,Nat.reduceLT,Nat.reduceLeDiff,Nat.reduceMul,reduceCtorEq,↓reduceIte,e1,e3,decide_true,Int.toNat_natCast,Addr.add_zero',q1];refine δ (by rfl) (X8 w2 l[i].1 OP) ?_;rintro _ _ ⟨rfl,rfl⟩;cases hA:ix l[i].1 with
  | false=>
   rw [hA] at cr;simp only [go_sem,Nat.reduceAdd,Nat.reduceEqDiff,Nat.reduceLT,Nat.reduceLeDiff,Nat.reduceMul,reduceCtorEq,↓reduceIte,hA,Bool.not_false];exact fU _ (by rw [cq,cr];simp) hm
  | true=>
  cases hC:decide (l[i].2 < 0) with
  | true=>
   rw [hC] at cr;simp only [go_sem,Nat.reduceAdd,Nat.reduceEqDiff,Nat.reduceLT,Nat.reduceLeDiff,Nat.reduceMul,reduceCtorEq,↓reduceIte,hA,Bool.not_true,e3,decide_true,Int.toNat_natCast,q2,hC];exact fU _ (by rw [cq,cr];simp) hm
  | false=>
  cases hD:decide (l[i].2 > 24) with
  | true=>
   rw [hD] at cr;simp only [go_sem,Nat.reduceAdd,Nat.reduceEqDiff,Nat.reduceLT,Nat.reduceLeDiff,Nat.reduceMul,reduceCtorEq,↓reduceIte,hA,Bool.not_true,e3,decide_true,Int.toNat_natCast,q2,hC,hD];exact fU _ (by rw [cq,cr];simp) hm
  | false=>
  rw [hA,hC,hD] at cr;simp only [go_sem,Nat.reduceAdd,Nat.reduceEqDiff,Nat.reduceLT,Nat.reduceLeDiff,Nat.reduceMul,reduceCtorEq,↓reduceIte,hA,Bool.not_true,e3,decide_true,Int.toNat_natCast,q2,hC,hD];refine alq (h.mod hm) ah hl (fun w' hf gw=>?_) (fun w' hf gw=>?_)
  ·unfold td at hf;rw [hf] at cr;refine φ ?_;exact fU _ (by rw [cq,cr];rfl) (hm.trans gw)
  ·unfold td at hf;rw [hf] at cr;simp only [go_sem,Nat.reduceAdd,Nat.reduceEqDiff,Nat.reduceLT,Nat.reduceLeDiff,Nat.reduceMul,reduceCtorEq,↓reduceIte,e2];refine ⟨_,?_,i+1,_,rfl,by omega,hm.trans gw,?_,rfl⟩
   ·omega
   ·rw [cq,cr];rfl
 ·obtain rfl:i=l.length:=by omega
  have e1:decide (((l.length:Nat):Int) < l.length)=false:=by simp
  obtain ⟨a,c,rfl,_⟩:=h;rw [List.drop_length] at cq;simp only [go_sem,Nat.reduceAdd,Nat.reduceEqDiff,Nat.reduceLT,Nat.reduceLeDiff,Nat.reduceMul,reduceCtorEq,↓reduceIte,e1];exact gR _ (by rw [cq];rfl) hm
end
end
section
open Go Go.W
section
variable {w:World} {v bt bp:Value} {T:bl} {B:Nat→Prop}
theorem als (h:dE w bt bp T B) (hT:lg T):aD Tryz.prog 35 [bp] w fun r w'=>(∃ e:Int,r=I e∧(e=0↔fi 24 [] (eV T)=true))∧Mod (fun _=>False) w w':=by
 have hl:(eV T).length=T.globals.length:=by simp [eV]
 refine ak9.calls rfl ?_;unfold OD;refine σ ?_;refine alr (aln h) (by rw [hl];exact hT.gn) (fun p hp=>by obtain ⟨s,hs,rfl⟩:=List.mem_map.1 hp;exact hT.Vr s hs) (fun w' hf hm=>?_) (fun w' hf hm=>?_)
 ·refine σ ?_;exact ⟨⟨172,rfl,by rw [hf];decide⟩,hm⟩
 ·refine σ ?_;exact ⟨⟨0,rfl,by rw [hf];decide⟩,hm⟩
theorem alu (h:dE w bt bp T B) (hT:lg T):aD Tryz.prog 34 [bt] w fun r w'=>(∃ e:Int,r=I e∧(e=0↔fi 8 [] (fD T)=true∧T.aC.take 7=fj))∧Mod (fun _=>False) w w':=by
 have hl:(fD T).length=T.aC.length:=by simp [fD]
 obtain ⟨⟨aS,cS,rfl⟩,_⟩:=ig h;have yz:=hT.sn;refine ak8.calls rfl ?_;unfold OA;refine φ ?_;refine alp (alm h) (by rw [hl];exact hT.sn) (fun p hp=>by obtain ⟨s,hs,rfl⟩:=List.mem_map.1 hp;exact hT.Vs s hs) (fun w' hf hm=>?_) (fun w1 hf ag=>?_)
 ·refine φ ?_;exact ⟨⟨172,rfl,by rw [hf];simp⟩,hm⟩
 rw [hf];refine φ ?_;refine δ (by rfl) (alj w1) ?_;rintro _ w2 ⟨rfl,hG,ae⟩;have aY:=ag.trans ae;by_cases h7:T.aC.length < 7
 ·have e1:decide ((T.aC.length:Int) < ((7:Nat):Int))=true:=by rw [decide_eq_true_eq];omega
  simp only [go_sem,Nat.reduceAdd,Nat.reduceEqDiff,Nat.reduceLT,Nat.reduceLeDiff,Nat.reduceMul,reduceCtorEq,↓reduceIte,e1];refine ⟨⟨172,rfl,?_⟩,aY⟩;constructor
  ·intro hh;cases hh
  ·intro hh;have:=congrArg List.length hh;rw [List.length_take,Dn] at this;omega
 have e1:decide ((T.aC.length:Int) < ((7:Nat):Int))=false:=by rw [decide_eq_false_iff_not];omega
 simp only [go_sem,Nat.reduceAdd,Nat.reduceEqDiff,Nat.reduceLT,Nat.reduceLeDiff,Nat.reduceMul,reduceCtorEq,↓reduceIte,e1]
 refine dz (fun z ρ w'=>∃ i:Nat,z=7 - i∧i≤7∧Mod (fun _=>False) w w'∧w'.heap[w1.heap.size]? = some (.cells (fj.flatMap jc).toArray 47 (0,0))∧T.aC.take i=fj.take i ∧
  ρ=[(0,.slice aS T.aC.length cS),(6,.slice (some ⟨w1.heap.size,0,none⟩) 7 7),(7,I i)]) 7 ⟨0,rfl,Nat.zero_le _,aY,hG,rfl,rfl⟩ ?_
 rintro z ρ w3 ⟨i,rfl,hi,ab,X9,cq,rfl⟩;unfold X0;rcases Nat.lt_or_ge i 7 with ah | hge
 ·have eK:i < T.aC.length:=by omega
  have X':i < fj.length:=by rw [Dn];exact ah
  obtain ⟨ad,c,e',dI⟩:=Mz (h.mod ab (fun _ _ h=>h) (fun _ h=>h)) eK;cases e';have DM:=VI X9 ah;have e2:IntKind.i64.wrap ((i:Int)+1)=((i+1:Nat):Int):=by rw [IntKind.wrap_i64];omega
  have e3:decide ((i:Int) < ((7:Nat):Int))=true:=by rw [decide_eq_true_eq];omega
  have e4:(0:Int)≤i∧(i:Int) < T.aC.length:=by omega
  have e5:(0:Int)≤i∧(i:Int) < ((7:Nat):Int):=by omega
  have alv:cB w3.drew 2 (.pointer (some (ad.add (i*2))))=_:=dI;have OQ:cB w3.drew 2 (.pointer (some ⟨w1.heap.size,i*2,none⟩))=_:=DM;have hse:=VJ T.aC[i] fj[i];have jG:T.aC.take (i+1)=fj.take (i+1)↔T.aC[i]=fj[i]:=by
   rw [List.take_succ_eq_append_getElem eK,List.take_succ_eq_append_getElem X',cq];exact ⟨fun hh=>List.singleton_inj.1 (List.append_cancel_left hh),fun hh=>by rw [hh]⟩
  have alw:T.aC.take 7=fj→T.aC[i]=fj[i]:=fun e=>by
   have h1:(T.aC.take 7)[i]? = fj[i]?:=by rw [e]
   rw [List.getElem?_take,if_pos ah,List.getElem?_eq_getElem eK,List.getElem?_eq_getElem X'] at h1;exact Option.some.inj h1
  generalize U:T.aC[i]=x at *;generalize hy:fj[i]=y at *;have hd:(decide (x.name=y.name)&&decide (x.fields=y.fields))=decide (x=y):=by
   rw [← Bool.decide_and];exact decide_eq_decide.2 hse.symm
  simp only [go_sem,Nat.reduceAdd,Nat.reduceEqDiff,Nat.reduceLT,Nat.reduceLeDiff,Nat.reduceMul,reduceCtorEq,↓reduceIte,e3,e4,e5,decide_true,Int.toNat_natCast,dI,alv,DM,OQ,c8,Nat.zero_add,nP,cm];rw [hd];by_cases hq:x=y
  ·rw [decide_eq_true hq];simp only [go_sem,Nat.reduceAdd,Nat.reduceEqDiff,Nat.reduceLT,Nat.reduceLeDiff,Nat.reduceMul,reduceCtorEq,↓reduceIte,e2,Bool.not_true];refine ⟨_,?_,i+1,rfl,by omega,ab.drew,X9,jG.2 hq,rfl⟩;omega
  ·rw [decide_eq_false hq];simp only [go_sem,Nat.reduceAdd,Nat.reduceEqDiff,Nat.reduceLT,Nat.reduceLeDiff,Nat.reduceMul,reduceCtorEq,↓reduceIte,Bool.not_false];exact ⟨⟨172,rfl,by constructor;(intro hh;cases hh);exact fun hh=>absurd (alw hh) hq⟩,ab.drew⟩
 ·obtain rfl:i=7:=by omega
  have e1:decide (((7:Nat):Int) < ((7:Nat):Int))=false:=by decide
  simp only [go_sem,Nat.reduceAdd,Nat.reduceEqDiff,Nat.reduceLT,Nat.reduceLeDiff,Nat.reduceMul,reduceCtorEq,↓reduceIte,e1];exact ⟨⟨0,rfl,by rw [cq];exact ⟨fun _=>rfl,fun _=>rfl⟩⟩,ab⟩
end
end
section
open Go Go.W
section
variable {w:World} {bt bp:Value} {T:bl} {B:Nat→Prop} {x:Ins}
theorem alx:aD Tryz.prog 57 [ec x] w fun r w'=>r = .bool (jB x)∧Mod (fun _=>False) w w':=by
 refine ale.calls rfl ?_;unfold OJ ec;refine φ ?_;refine b8 rfl ?_;intro w1 aq ag _;have e:jB x=(decide (x.op=13)||(decide (x.op=14)||decide (x.op=15))):=by unfold jB;simp
 rw [e];simp only [go_sem,Nat.reduceAdd,Nat.reduceEqDiff,Nat.reduceLT,Nat.reduceLeDiff,Nat.reduceMul,reduceCtorEq,↓reduceIte,cell_of aq,Value.cells,cm];cases h1:decide (x.op=13)<;>cases h2:decide (x.op=14)<;>simp only [go_sem,Nat.reduceAdd,Nat.reduceEqDiff,Nat.reduceLT,Nat.reduceLeDiff,Nat.reduceMul,reduceCtorEq,↓reduceIte,cell_of aq,Value.cells,cm,h1,h2,Bool.true_or,Bool.false_or]<;>exact ag
theorem aly:aD Tryz.prog 61 [ec x] w fun r w'=>r = .bool (decide (x.op=16)||decide (x.op=17))∧Mod (fun _=>False) w w':=by
 refine ali.calls rfl ?_;unfold ON ec;refine φ ?_;refine b8 rfl ?_;intro w1 aq ag _;simp only [go_sem,Nat.reduceAdd,Nat.reduceEqDiff,Nat.reduceLT,Nat.reduceLeDiff,Nat.reduceMul,reduceCtorEq,↓reduceIte,cell_of aq,Value.cells,cm];cases h1:decide (x.op=16)<;>simp only [go_sem,Nat.reduceAdd,Nat.reduceEqDiff,Nat.reduceLT,Nat.reduceLeDiff,Nat.reduceMul,reduceCtorEq,↓reduceIte,cell_of aq,Value.cells,cm,h1,Bool.true_or,Bool.false_or]<;>exact ag
theorem Ya:aD Tryz.prog 58 [ec x] w fun r w'=>r=I (dp x)∧Mod (fun _=>False) w w':=by
 refine alf.calls rfl ?_;unfold OK ec;refine φ ?_;refine b8 rfl ?_;intro w1 aq ag _;unfold dp;simp only [go_sem,Nat.reduceAdd,Nat.reduceEqDiff,Nat.reduceLT,Nat.reduceLeDiff,Nat.reduceMul,reduceCtorEq,↓reduceIte,cell_of aq,Value.cells,cm];by_cases h1:x.op=13
 ·rw [if_pos h1];simp only [go_sem,Nat.reduceAdd,Nat.reduceEqDiff,Nat.reduceLT,Nat.reduceLeDiff,Nat.reduceMul,reduceCtorEq,↓reduceIte,cell_of aq,Value.cells,cm,decide_eq_true h1];exact ag
 rw [if_neg h1];by_cases h2:x.op=14
 ·rw [if_pos (.inl h2)];simp only [go_sem,Nat.reduceAdd,Nat.reduceEqDiff,Nat.reduceLT,Nat.reduceLeDiff,Nat.reduceMul,reduceCtorEq,↓reduceIte,cell_of aq,Value.cells,cm,decide_eq_false h1,decide_eq_true h2];exact ag
 by_cases h3:x.op=15
 ·rw [if_pos (.inr h3)];simp only [go_sem,Nat.reduceAdd,Nat.reduceEqDiff,Nat.reduceLT,Nat.reduceLeDiff,Nat.reduceMul,reduceCtorEq,↓reduceIte,cell_of aq,Value.cells,cm,decide_eq_false h1,decide_eq_false h2,decide_eq_true h3];exact ag
 rw [if_neg (by rintro (h | h);exact h2 h;exact h3 h)];simp only [go_sem,Nat.reduceAdd,Nat.reduceEqDiff,Nat.reduceLT,Nat.reduceLeDiff,Nat.reduceMul,reduceCtorEq,↓reduceIte,cell_of aq,Value.cells,cm,decide_eq_false h1,decide_eq_false h2,decide_eq_false h3];exact ag
set_option maxHeartbeats 2000000 in
theorem alz (h:dE w bt bp T B):aD Tryz.prog 56 [eC bt bp,ec x] w fun r w'=>r = .bool (df T x)∧Mod (fun _=>False) w w':=by
 obtain ⟨⟨aS,cS,rfl⟩,aG,cG,rfl⟩:=ig h;refine ald.calls rfl ?_;unfold OI eC ec;refine φ ?_;refine b8 rfl ?_;intro w1 aq ag _;refine φ ?_;refine b8 rfl ?_;intro w2 an ae _;have a7:=ae.at aq (fun h=>h);have aY:=ag.trans ae;simp only [go_sem,Nat.reduceAdd,Nat.reduceEqDiff,Nat.reduceLT,Nat.reduceLeDiff,Nat.reduceMul,reduceCtorEq,↓reduceIte,cell_of an,cell_of a7,Value.cells];refine gz (fun ρ w'=>w2=w'∧ρ.get 2=some (ptr w.heap.size)∧ρ.get 3=some (ptr w1.heap.size)∧ρ.get 5=some (.bool (decide (x.a≥0)&&decide (x.a < T.aC.length)))) ?_ ?_
 ·cases h1:decide (x.a≥0)<;>simp only [go_sem,Nat.reduceAdd,Nat.reduceEqDiff,Nat.reduceLT,Nat.reduceLeDiff,Nat.reduceMul,reduceCtorEq,↓reduceIte,h1,cell_of an,cell_of a7,Value.cells,Bool.true_and,Bool.false_and,ptr]
 rintro ρ _ ⟨rfl,r2,r3,r5⟩;simp only [go_sem,Nat.reduceAdd,Nat.reduceEqDiff,Nat.reduceLT,Nat.reduceLeDiff,Nat.reduceMul,reduceCtorEq,↓reduceIte,r2,r3,r5,cell_of an,cell_of a7,Value.cells,ptr];refine gz (fun ρ w'=>w2=w'∧ρ.get 2=some (ptr w.heap.size)∧ρ.get 3=some (ptr w1.heap.size)∧ρ.get 5=some (.bool (decide (x.a≥0)&&decide (x.a < T.aC.length)))∧ρ.get 6=some (.bool (decide (x.a ≥ -4611686018427387904)&&decide (x.a≤4611686018427387903)))) ?_ ?_
 ·cases h1:decide (x.a ≥ -4611686018427387904)<;>simp only [go_sem,Nat.reduceAdd,Nat.reduceEqDiff,Nat.reduceLT,Nat.reduceLeDiff,Nat.reduceMul,reduceCtorEq,↓reduceIte,h1,cell_of an,cell_of a7,Value.cells,Bool.true_and,Bool.false_and,ptr]
 rintro ρ _ ⟨rfl,r2,r3,r5,r6⟩;simp only [go_sem,Nat.reduceAdd,Nat.reduceEqDiff,Nat.reduceLT,Nat.reduceLeDiff,Nat.reduceMul,reduceCtorEq,↓reduceIte,r2,r3,r5,r6,cell_of an,cell_of a7,Value.cells,ptr];rcases XX x.op with e | e | e | e | e | e | e | e | e | e | e | e | e | e | e | e | e | e
 ·have hn:df T x=(decide (x.a≥0)&&decide (x.b=0)):=by simp [df,dQ,e,cJ,Bool.decide_and,Bool.and_assoc]
  rw [hn];cases h1:decide (x.a≥0)<;>simp only [go_sem,Nat.reduceAdd,Nat.reduceEqDiff,Nat.reduceLT,Nat.reduceLeDiff,Nat.reduceMul,reduceCtorEq,↓reduceIte,r2,r3,r5,r6,cell_of an,cell_of a7,Value.cells,ptr,e,Int.reduceBEq,cm,decide_true,decide_false,Int.reduceEq,Bool.true_and,Bool.false_and,Bool.and_true,Bool.and_false,h1]<;>exact aY
 ·have hn:df T x=(decide (x.a≥0)&&decide (x.a < T.globals.length)&&decide (x.b=0)):=by simp [df,dQ,e,cJ,Bool.decide_and,Bool.and_assoc]
  rw [hn];cases h1:decide (x.a≥0)<;>cases h2:decide (x.a < T.globals.length)<;>simp only [go_sem,Nat.reduceAdd,Nat.reduceEqDiff,Nat.reduceLT,Nat.reduceLeDiff,Nat.reduceMul,reduceCtorEq,↓reduceIte,r2,r3,r5,r6,cell_of an,cell_of a7,Value.cells,ptr,e,Int.reduceBEq,cm,decide_true,decide_false,Int.reduceEq,Bool.true_and,Bool.false_and,Bool.and_true,Bool.and_false,h1,h2]<;>exact aY
 ·have hn:df T x=(decide (x.a ≥ -4611686018427387904)&&decide (x.a≤4611686018427387903)&&decide (x.b=0)):=by simp [df,dQ,e,cJ,Bool.decide_and,Bool.and_assoc]
  rw [hn];cases h1:decide (x.a ≥ -4611686018427387904)<;>cases h2:decide (x.a≤4611686018427387903)<;>simp only [go_sem,Nat.reduceAdd,Nat.reduceEqDiff,Nat.reduceLT,Nat.reduceLeDiff,Nat.reduceMul,reduceCtorEq,↓reduceIte,r2,r3,r5,r6,cell_of an,cell_of a7,Value.cells,ptr,e,Int.reduceBEq,cm,decide_true,decide_false,Int.reduceEq,Bool.true_and,Bool.false_and,Bool.and_true,Bool.and_false,h1,h2]<;>exact aY
 ·have hn:df T x=(decide (x.a≥0)&&decide (x.b=0)):=by simp [df,dQ,e,cJ,Bool.decide_and,Bool.and_assoc]
  rw [hn];cases h1:decide (x.a≥0)<;>simp only [go_sem,Nat.reduceAdd,Nat.reduceEqDiff,Nat.reduceLT,Nat.reduceLeDiff,Nat.reduceMul,reduceCtorEq,↓reduceIte,r2,r3,r5,r6,cell_of an,cell_of a7,Value.cells,ptr,e,Int.reduceBEq,cm,decide_true,decide_false,Int.reduceEq,Bool.true_and,Bool.false_and,Bool.and_true,Bool.and_false,h1]<;>exact aY
 ·have hn:df T x=(decide (x.a≥0)&&decide (x.b=0)):=by simp [df,dQ,e,cJ,Bool.decide_and,Bool.and_assoc]
  rw [hn];cases h1:decide (x.a≥0)<;>simp only [go_sem,Nat.reduceAdd,Nat.reduceEqDiff,Nat.reduceLT,Nat.reduceLeDiff,Nat.reduceMul,reduceCtorEq,↓reduceIte,r2,r3,r5,r6,cell_of an,cell_of a7,Value.cells,ptr,e,Int.reduceBEq,cm,decide_true,decide_false,Int.reduceEq,Bool.true_and,Bool.false_and,Bool.and_true,Bool.and_false,h1]<;>exact aY
 ·have hn:df T x=(decide (x.a=0)&&decide (x.b=0)):=by simp [df,dQ,e,cJ,Bool.decide_and,Bool.and_assoc]
  rw [hn];cases h1:decide (x.a=0)<;>simp only [go_sem,Nat.reduceAdd,Nat.reduceEqDiff,Nat.reduceLT,Nat.reduceLeDiff,Nat.reduceMul,reduceCtorEq,↓reduceIte,r2,r3,r5,r6,cell_of an,cell_of a7,Value.cells,ptr,e,Int.reduceBEq,cm,decide_true,decide_false,Int.reduceEq,Bool.true_and,Bool.false_and,Bool.and_true,Bool.and_false,h1]<;>exact aY
 ·have hn:df T x=(decide (x.a≥1)&&decide (x.b=0)):=by simp [df,dQ,e,cJ,Bool.decide_and,Bool.and_assoc]
  rw [hn];cases h1:decide (x.a≥1)<;>simp only [go_sem,Nat.reduceAdd,Nat.reduceEqDiff,Nat.reduceLT,Nat.reduceLeDiff,Nat.reduceMul,reduceCtorEq,↓reduceIte,r2,r3,r5,r6,cell_of an,cell_of a7,Value.cells,ptr,e,Int.reduceBEq,cm,decide_true,decide_false,Int.reduceEq,Bool.true_and,Bool.false_and,Bool.and_true,Bool.and_false,h1]<;>exact aY
 ·have hn:df T x=(decide (x.a≥0)&&decide (x.b=0)):=by simp [df,dQ,e,cJ,Bool.decide_and,Bool.and_assoc]
  rw [hn];cases h1:decide (x.a≥0)<;>simp only [go_sem,Nat.reduceAdd,Nat.reduceEqDiff,Nat.reduceLT,Nat.reduceLeDiff,Nat.reduceMul,reduceCtorEq,↓reduceIte,r2,r3,r5,r6,cell_of an,cell_of a7,Value.cells,ptr,e,Int.reduceBEq,cm,decide_true,decide_false,Int.reduceEq,Bool.true_and,Bool.false_and,Bool.and_true,Bool.and_false,h1]<;>exact aY
 ·have hn:df T x=(decide (x.a≥0)&&decide (x.a < T.aC.length)&&decide (x.b=0)):=by simp [df,dQ,e,cJ,Bool.decide_and,Bool.and_assoc]
  rw [hn];cases h1:decide (x.a≥0)<;>cases h2:decide (x.a < T.aC.length)<;>simp only [go_sem,Nat.reduceAdd,Nat.reduceEqDiff,Nat.reduceLT,Nat.reduceLeDiff,Nat.reduceMul,reduceCtorEq,↓reduceIte,r2,r3,r5,r6,cell_of an,cell_of a7,Value.cells,ptr,e,Int.reduceBEq,cm,decide_true,decide_false,Int.reduceEq,Bool.true_and,Bool.false_and,Bool.and_true,Bool.and_false,h1,h2]<;>exact aY
 ·have hn:df T x=(decide (x.a≥0)&&decide (x.a < T.aC.length)&&decide (x.b=0)):=by simp [df,dQ,e,cJ,Bool.decide_and,Bool.and_assoc]
  rw [hn];cases h1:decide (x.a≥0)<;>cases h2:decide (x.a < T.aC.length)<;>simp only [go_sem,Nat.reduceAdd,Nat.reduceEqDiff,Nat.reduceLT,Nat.reduceLeDiff,Nat.reduceMul,reduceCtorEq,↓reduceIte,r2,r3,r5,r6,cell_of an,cell_of a7,Value.cells,ptr,e,Int.reduceBEq,cm,decide_true,decide_false,Int.reduceEq,Bool.true_and,Bool.false_and,Bool.and_true,Bool.and_false,h1,h2]<;>exact aY
 ·have hn:df T x=(decide (x.a=0)&&decide (x.b=0)):=by simp [df,dQ,e,cJ,Bool.decide_and,Bool.and_assoc]
  rw [hn];cases h1:decide (x.a=0)<;>simp only [go_sem,Nat.reduceAdd,Nat.reduceEqDiff,Nat.reduceLT,Nat.reduceLeDiff,Nat.reduceMul,reduceCtorEq,↓reduceIte,r2,r3,r5,r6,cell_of an,cell_of a7,Value.cells,ptr,e,Int.reduceBEq,cm,decide_true,decide_false,Int.reduceEq,Bool.true_and,Bool.false_and,Bool.and_true,Bool.and_false,h1]<;>exact aY
 ·have hn:df T x=(decide (x.a≥1)&&decide (x.a≤11)&&decide (x.b=0)):=by simp [df,dQ,e,cJ,Bool.decide_and,Bool.and_assoc]
  rw [hn];cases h1:decide (x.a≥1)<;>cases h2:decide (x.a≤11)<;>simp only [go_sem,Nat.reduceAdd,Nat.reduceEqDiff,Nat.reduceLT,Nat.reduceLeDiff,Nat.reduceMul,reduceCtorEq,↓reduceIte,r2,r3,r5,r6,cell_of an,cell_of a7,Value.cells,ptr,e,Int.reduceBEq,cm,decide_true,decide_false,Int.reduceEq,Bool.true_and,Bool.false_and,Bool.and_true,Bool.and_false,h1,h2]<;>exact aY
 ·have hn:df T x=(decide (x.b=0)):=by simp [df,dQ,e,cJ,Bool.decide_and,Bool.and_assoc]
  rw [hn];simp only [go_sem,Nat.reduceAdd,Nat.reduceEqDiff,Nat.reduceLT,Nat.reduceLeDiff,Nat.reduceMul,reduceCtorEq,↓reduceIte,r2,r3,r5,r6,cell_of an,cell_of a7,Value.cells,ptr,e,Int.reduceBEq,cm,decide_true,decide_false,Int.reduceEq,Bool.true_and,Bool.false_and,Bool.and_true,Bool.and_false]<;>exact aY
 ·have hn:df T x=(decide (x.a≥0)&&decide (x.a < T.aC.length)):=by simp [df,dQ,e,cJ,Bool.decide_and,Bool.and_assoc]
  rw [hn];cases h1:decide (x.a≥0)<;>cases h2:decide (x.a < T.aC.length)<;>simp only [go_sem,Nat.reduceAdd,Nat.reduceEqDiff,Nat.reduceLT,Nat.reduceLeDiff,Nat.reduceMul,reduceCtorEq,↓reduceIte,r2,r3,r5,r6,cell_of an,cell_of a7,Value.cells,ptr,e,Int.reduceBEq,cm,decide_true,decide_false,Int.reduceEq,Bool.true_and,Bool.false_and,Bool.and_true,Bool.and_false,h1,h2]<;>exact aY
 ·have hn:df T x=(decide (x.a ≥ -4611686018427387904)&&decide (x.a≤4611686018427387903)):=by simp [df,dQ,e,cJ,Bool.decide_and,Bool.and_assoc]
  rw [hn];cases h1:decide (x.a ≥ -4611686018427387904)<;>cases h2:decide (x.a≤4611686018427387903)<;>simp only [go_sem,Nat.reduceAdd,Nat.reduceEqDiff,Nat.reduceLT,Nat.reduceLeDiff,Nat.reduceMul,reduceCtorEq,↓reduceIte,r2,r3,r5,r6,cell_of an,cell_of a7,Value.cells,ptr,e,Int.reduceBEq,cm,decide_true,decide_false,Int.reduceEq,Bool.true_and,Bool.false_and,Bool.and_true,Bool.and_false,h1,h2]<;>exact aY
 ·have hn:df T x=(decide (x.a≥1)&&decide (x.a≤4)&&decide (x.b=0)):=by simp [df,dQ,e,cJ,Bool.decide_and,Bool.and_assoc]
  rw [hn];cases h1:decide (x.a≥1)<;>cases h2:decide (x.a≤4)<;>simp only [go_sem,Nat.reduceAdd,Nat.reduceEqDiff,Nat.reduceLT,Nat.reduceLeDiff,Nat.reduceMul,reduceCtorEq,↓reduceIte,r2,r3,r5,r6,cell_of an,cell_of a7,Value.cells,ptr,e,Int.reduceBEq,cm,decide_true,decide_false,Int.reduceEq,Bool.true_and,Bool.false_and,Bool.and_true,Bool.and_false,h1,h2]<;>exact aY
 ·have hn:df T x=(decide (x.a=0)&&decide (x.b=0)):=by simp [df,dQ,e,cJ,Bool.decide_and,Bool.and_assoc]
  rw [hn];cases h1:decide (x.a=0)<;>simp only [go_sem,Nat.reduceAdd,Nat.reduceEqDiff,Nat.reduceLT,Nat.reduceLeDiff,Nat.reduceMul,reduceCtorEq,↓reduceIte,r2,r3,r5,r6,cell_of an,cell_of a7,Value.cells,ptr,e,Int.reduceBEq,cm,decide_true,decide_false,Int.reduceEq,Bool.true_and,Bool.false_and,Bool.and_true,Bool.and_false,h1]<;>exact aY
 ·have hn:df T x=false:=by unfold df;rw [Mp e]
  rw [hn];have n1:decide (x.op=1)=false:=decide_eq_false (by omega);have n2:decide (x.op=2)=false:=decide_eq_false (by omega);have n3:decide (x.op=3)=false:=decide_eq_false (by omega);have n4:decide (x.op=4)=false:=decide_eq_false (by omega);have n5:decide (x.op=5)=false:=decide_eq_false (by omega);have n6:decide (x.op=6)=false:=decide_eq_false (by omega);have n7:decide (x.op=7)=false:=decide_eq_false (by omega);have n8:decide (x.op=8)=false:=decide_eq_false (by omega);have n9:decide (x.op=9)=false:=decide_eq_false (by omega);have n10:decide (x.op=10)=false:=decide_eq_false (by omega);have n11:decide (x.op=11)=false:=decide_eq_false (by omega);have n12:decide (x.op=12)=false:=decide_eq_false (by omega);have n13:decide (x.op=13)=false:=decide_eq_false (by omega);have n14:decide (x.op=14)=false:=decide_eq_false (by omega);have n15:decide (x.op=15)=false:=decide_eq_false (by omega);have n16:decide (x.op=16)=false:=decide_eq_false (by omega);have n17:decide (x.op=17)=false:=decide_eq_false (by omega);simp only [go_sem,Nat.reduceAdd,Nat.reduceEqDiff,Nat.reduceLT,Nat.reduceLeDiff,Nat.reduceMul,reduceCtorEq,↓reduceIte,r2,r3,r5,r6,cell_of an,cell_of a7,Value.cells,ptr,cm,n1,n2,n3,n4,n5,n6,n7,n8,n9,n10,n11,n12,n13,n14,n15,n16,n17];exact aY
end
end
section
open Go Go.W
def eD (T:bl) (x:Ins) (d:Int):Bool:=if x.op=8 then true else (az T x d).1
theorem alA {T:bl} {x:Ins} {d:Int} (hd:1≤d):(eD T x d&&decide ((az T x d).2≤8000))=((az T x d).1&&decide ((az T x d).2≤8000)):=by
 unfold eD;by_cases h:x.op=8
 ·rw [if_pos h];have e:az T x d=(decide (x.a≤8000),d+min x.a 8000):=by simp [az,h]
  rw [e];by_cases ha:x.a≤8000
  ·simp [ha]
  ·have:¬ d+min x.a 8000≤8000:=by omega
   simp [this]
 ·rw [if_neg h]
section
variable {w:World} {bt bp:Value} {T:bl} {B:Nat→Prop} {x:Ins} {len i:Nat} {d:Int}
theorem Yb (U:pw T len i x):x.op=1∨x.op=2∨x.op=3∨x.op=4∨x.op=5∨x.op=6∨x.op=7∨x.op=8∨x.op=9∨x.op=10∨x.op=11∨x.op=12∨x.op=13∨x.op=14∨x.op=15∨x.op=16∨x.op=17:=by
 have o1:=U.o1;have o2:=U.o2;omega
theorem OR {aS:Option Addr} {cS:Nat} (h2:dE w (.slice aS T.aC.length cS) bp T B) (fC:∀ s∈T.aC,0≤s.fields∧s.fields≤8) (U:pw T len i x) (ho:x.op=9∨x.op=10):∃ (j:Nat) (ad:Addr),x.a=j∧aS=some ad∧((0:Int)≤j∧(j:Int) < T.aC.length)∧w.cell? ⟨(ad.add (j*2)).block,(ad.add (j*2)).off+1,none⟩=some (I (T.sh x.a).fields)∧0≤(T.sh x.a).fields∧(T.sh x.a).fields≤8:=by
 have hc:=U.c9 (by omega);obtain ⟨j,hj⟩:∃ j:Nat,x.a=j:=⟨x.a.toNat,by omega⟩;obtain ⟨ad,c,e,_,hf⟩:=yo h2 (i:=j) (by omega);cases e;refine ⟨j,ad,hj,rfl,by omega,by rw [hj];exact hf,?_⟩;have:T.sh x.a∈T.aC:=by
  unfold bl.sh;rw [List.getD_eq_getElem?_getD,List.getElem?_eq_getElem (by omega)];exact List.getElem_mem _
 exact fC _ this
set_option maxHeartbeats 2000000 in
theorem alB (h:dE w bt bp T B) (fC:∀ s∈T.aC,0≤s.fields∧s.fields≤8) (U:pw T len i x) (jN:x.a≤9223372036854775807) (hd:0≤d∧d≤8000):aD Tryz.prog 59 [eC bt bp,ec x,I d] w fun r w'=>r = .bool (eD T x d)∧Mod (fun _=>False) w w':=by
 obtain ⟨⟨aS,cS,rfl⟩,aG,cG,rfl⟩:=ig h;refine alg.calls rfl ?_;unfold OL eC ec;refine φ ?_;refine b8 rfl ?_;intro w1 aq ag _;refine φ ?_;refine b8 rfl ?_;intro w2 an ae _;have a7:=ae.at aq (fun h=>h);have aY:=ag.trans ae;have h2:=h.mod aY (fun _ _ h=>h) (fun _ h=>h);have e1:IntKind.i64.wrap (d+1)=d+1:=bU (by omega) (by omega);have e2:IntKind.i64.wrap (d - 1)=d - 1:=bU (by omega) (by omega);rcases Yb U with e | e | e | e | e | e | e | e | e | e | e | e | e | e | e | e | e
 ·have hn:eD T x d=decide (x.a < d):=by simp [eD,az,e]
  rw [hn];simp only [go_sem,Nat.reduceAdd,Nat.reduceEqDiff,Nat.reduceLT,Nat.reduceLeDiff,Nat.reduceMul,reduceCtorEq,↓reduceIte,cell_of an,cell_of a7,Value.cells,e,Int.reduceBEq,cm,decide_true,decide_false,Int.reduceEq,Bool.true_and,Bool.false_and,Bool.and_true,Bool.and_false];exact aY
 ·have hn:eD T x d=true:=by simp [eD,az,e]
  rw [hn];simp only [go_sem,Nat.reduceAdd,Nat.reduceEqDiff,Nat.reduceLT,Nat.reduceLeDiff,Nat.reduceMul,reduceCtorEq,↓reduceIte,cell_of an,cell_of a7,Value.cells,e,Int.reduceBEq,cm,decide_true,decide_false,Int.reduceEq,Bool.true_and,Bool.false_and,Bool.and_true,Bool.and_false];exact aY
 ·have hn:eD T x d=true:=by simp [eD,az,e]
  rw [hn];simp only [go_sem,Nat.reduceAdd,Nat.reduceEqDiff,Nat.reduceLT,Nat.reduceLeDiff,Nat.reduceMul,reduceCtorEq,↓reduceIte,cell_of an,cell_of a7,Value.cells,e,Int.reduceBEq,cm,decide_true,decide_false,Int.reduceEq,Bool.true_and,Bool.false_and,Bool.and_true,Bool.and_false];exact aY
 ·have hn:eD T x d=decide (x.a < d):=by simp [eD,az,e]
  rw [hn];simp only [go_sem,Nat.reduceAdd,Nat.reduceEqDiff,Nat.reduceLT,Nat.reduceLeDiff,Nat.reduceMul,reduceCtorEq,↓reduceIte,cell_of an,cell_of a7,Value.cells,e,Int.reduceBEq,cm,decide_true,decide_false,Int.reduceEq,Bool.true_and,Bool.false_and,Bool.and_true,Bool.and_false];exact aY
 ·have hn:eD T x d=decide (x.a < d - 1):=by simp [eD,az,e]
  rw [hn];simp only [go_sem,Nat.reduceAdd,Nat.reduceEqDiff,Nat.reduceLT,Nat.reduceLeDiff,Nat.reduceMul,reduceCtorEq,↓reduceIte,cell_of an,cell_of a7,Value.cells,e,Int.reduceBEq,cm,decide_true,decide_false,Int.reduceEq,Bool.true_and,Bool.false_and,Bool.and_true,Bool.and_false,e2];exact aY
 ·have hn:eD T x d=decide (d > 2):=by simp [eD,az,e]
  rw [hn];simp only [go_sem,Nat.reduceAdd,Nat.reduceEqDiff,Nat.reduceLT,Nat.reduceLeDiff,Nat.reduceMul,reduceCtorEq,↓reduceIte,cell_of an,cell_of a7,Value.cells,e,Int.reduceBEq,cm,decide_true,decide_false,Int.reduceEq,Bool.true_and,Bool.false_and,Bool.and_true,Bool.and_false];exact aY
 ·have hn:eD T x d=decide (x.a < d):=by simp [eD,az,e]
  rw [hn];simp only [go_sem,Nat.reduceAdd,Nat.reduceEqDiff,Nat.reduceLT,Nat.reduceLeDiff,Nat.reduceMul,reduceCtorEq,↓reduceIte,cell_of an,cell_of a7,Value.cells,e,Int.reduceBEq,cm,decide_true,decide_false,Int.reduceEq,Bool.true_and,Bool.false_and,Bool.and_true,Bool.and_false];exact aY
 ·have hn:eD T x d=true:=by simp [eD,az,e]
  rw [hn];simp only [go_sem,Nat.reduceAdd,Nat.reduceEqDiff,Nat.reduceLT,Nat.reduceLeDiff,Nat.reduceMul,reduceCtorEq,↓reduceIte,cell_of an,cell_of a7,Value.cells,e,Int.reduceBEq,cm,decide_true,decide_false,Int.reduceEq,Bool.true_and,Bool.false_and,Bool.and_true,Bool.and_false];exact aY
 ·have hn:eD T x d=decide ((T.sh x.a).fields < d):=by simp [eD,az,e]
  rw [hn];obtain ⟨j,ad,hj,rfl,b3,hf,f1,f2⟩:=OR h2 fC U (by omega);generalize (T.sh x.a).fields=q at *;simp only [go_sem,Nat.reduceAdd,Nat.reduceEqDiff,Nat.reduceLT,Nat.reduceLeDiff,Nat.reduceMul,reduceCtorEq,↓reduceIte,ak,bh,cell_of an,cell_of a7,Value.cells,e,Int.reduceBEq,cm,decide_true,decide_false,Int.reduceEq,Bool.true_and,Bool.false_and,Bool.and_true,Bool.and_false,hj,b3,hf];exact aY
 ·have hn:eD T x d=decide (d > 1):=by simp [eD,az,e]
  rw [hn];simp only [go_sem,Nat.reduceAdd,Nat.reduceEqDiff,Nat.reduceLT,Nat.reduceLeDiff,Nat.reduceMul,reduceCtorEq,↓reduceIte,cell_of an,cell_of a7,Value.cells,e,Int.reduceBEq,cm,decide_true,decide_false,Int.reduceEq,Bool.true_and,Bool.false_and,Bool.and_true,Bool.and_false];exact aY
 ·have hn:eD T x d=decide (d > 1):=by simp [eD,az,e]
  rw [hn];simp only [go_sem,Nat.reduceAdd,Nat.reduceEqDiff,Nat.reduceLT,Nat.reduceLeDiff,Nat.reduceMul,reduceCtorEq,↓reduceIte,cell_of an,cell_of a7,Value.cells,e,Int.reduceBEq,cm,decide_true,decide_false,Int.reduceEq,Bool.true_and,Bool.false_and,Bool.and_true,Bool.and_false];exact aY
 ·have hn:eD T x d=decide (d > 2):=by simp [eD,az,e]
  rw [hn];simp only [go_sem,Nat.reduceAdd,Nat.reduceEqDiff,Nat.reduceLT,Nat.reduceLeDiff,Nat.reduceMul,reduceCtorEq,↓reduceIte,cell_of an,cell_of a7,Value.cells,e,Int.reduceBEq,cm,decide_true,decide_false,Int.reduceEq,Bool.true_and,Bool.false_and,Bool.and_true,Bool.and_false];exact aY
 ·have hn:eD T x d=true:=by simp [eD,az,e]
  rw [hn];simp only [go_sem,Nat.reduceAdd,Nat.reduceEqDiff,Nat.reduceLT,Nat.reduceLeDiff,Nat.reduceMul,reduceCtorEq,↓reduceIte,cell_of an,cell_of a7,Value.cells,e,Int.reduceBEq,cm,decide_true,decide_false,Int.reduceEq,Bool.true_and,Bool.false_and,Bool.and_true,Bool.and_false];exact aY
 ·have hn:eD T x d=decide (d > 1):=by simp [eD,az,e]
  rw [hn];simp only [go_sem,Nat.reduceAdd,Nat.reduceEqDiff,Nat.reduceLT,Nat.reduceLeDiff,Nat.reduceMul,reduceCtorEq,↓reduceIte,cell_of an,cell_of a7,Value.cells,e,Int.reduceBEq,cm,decide_true,decide_false,Int.reduceEq,Bool.true_and,Bool.false_and,Bool.and_true,Bool.and_false];exact aY
 ·have hn:eD T x d=decide (d > 1):=by simp [eD,az,e]
  rw [hn];simp only [go_sem,Nat.reduceAdd,Nat.reduceEqDiff,Nat.reduceLT,Nat.reduceLeDiff,Nat.reduceMul,reduceCtorEq,↓reduceIte,cell_of an,cell_of a7,Value.cells,e,Int.reduceBEq,cm,decide_true,decide_false,Int.reduceEq,Bool.true_and,Bool.false_and,Bool.and_true,Bool.and_false];exact aY
 ·have hn:eD T x d=true:=by simp [eD,az,e]
  rw [hn];simp only [go_sem,Nat.reduceAdd,Nat.reduceEqDiff,Nat.reduceLT,Nat.reduceLeDiff,Nat.reduceMul,reduceCtorEq,↓reduceIte,cell_of an,cell_of a7,Value.cells,e,Int.reduceBEq,cm,decide_true,decide_false,Int.reduceEq,Bool.true_and,Bool.false_and,Bool.and_true,Bool.and_false];exact aY
 ·have hn:eD T x d=decide (d=1):=by simp [eD,az,e]
  rw [hn];simp only [go_sem,Nat.reduceAdd,Nat.reduceEqDiff,Nat.reduceLT,Nat.reduceLeDiff,Nat.reduceMul,reduceCtorEq,↓reduceIte,cell_of an,cell_of a7,Value.cells,e,Int.reduceBEq,cm,decide_true,decide_false,Int.reduceEq,Bool.true_and,Bool.false_and,Bool.and_true,Bool.and_false];exact aY
set_option maxHeartbeats 2000000 in
theorem alC (h:dE w bt bp T B) (fC:∀ s∈T.aC,0≤s.fields∧s.fields≤8) (U:pw T len i x) (jN:x.a≤9223372036854775807) (hd:0≤d∧d≤8000):aD Tryz.prog 60 [eC bt bp,ec x,I d] w fun r w'=>r=I (az T x d).2∧Mod (fun _=>False) w w':=by
 obtain ⟨⟨aS,cS,rfl⟩,aG,cG,rfl⟩:=ig h;refine alh.calls rfl ?_;unfold OM eC ec;refine φ ?_;refine b8 rfl ?_;intro w1 aq ag _;refine φ ?_;refine b8 rfl ?_;intro w2 an ae _;have a7:=ae.at aq (fun h=>h);have aY:=ag.trans ae;have h2:=h.mod aY (fun _ _ h=>h) (fun _ h=>h);have e1:IntKind.i64.wrap (d+1)=d+1:=bU (by omega) (by omega);have e2:IntKind.i64.wrap (d - 1)=d - 1:=bU (by omega) (by omega);rcases Yb U with e | e | e | e | e | e | e | e | e | e | e | e | e | e | e | e | e
 ·have hn:(az T x d).2=d+1:=by simp [az,e]
  rw [hn];simp only [go_sem,Nat.reduceAdd,Nat.reduceEqDiff,Nat.reduceLT,Nat.reduceLeDiff,Nat.reduceMul,reduceCtorEq,↓reduceIte,cell_of an,cell_of a7,Value.cells,e,Int.reduceBEq,cm,decide_true,decide_false,Int.reduceEq,Bool.true_and,Bool.false_and,Bool.and_true,Bool.and_false,e1];exact aY
 ·have hn:(az T x d).2=d+1:=by simp [az,e]
  rw [hn];simp only [go_sem,Nat.reduceAdd,Nat.reduceEqDiff,Nat.reduceLT,Nat.reduceLeDiff,Nat.reduceMul,reduceCtorEq,↓reduceIte,cell_of an,cell_of a7,Value.cells,e,Int.reduceBEq,cm,decide_true,decide_false,Int.reduceEq,Bool.true_and,Bool.false_and,Bool.and_true,Bool.and_false,e1];exact aY
 ·have hn:(az T x d).2=d+1:=by simp [az,e]
  rw [hn];simp only [go_sem,Nat.reduceAdd,Nat.reduceEqDiff,Nat.reduceLT,Nat.reduceLeDiff,Nat.reduceMul,reduceCtorEq,↓reduceIte,cell_of an,cell_of a7,Value.cells,e,Int.reduceBEq,cm,decide_true,decide_false,Int.reduceEq,Bool.true_and,Bool.false_and,Bool.and_true,Bool.and_false,e1];exact aY
 ·have hn:(az T x d).2=d - x.a:=by simp [az,e]
  rw [hn];have vl:=U.c1 (by omega);have e3:IntKind.i64.wrap (d - x.a)=d - x.a:=bU (by omega) (by omega);simp only [go_sem,Nat.reduceAdd,Nat.reduceEqDiff,Nat.reduceLT,Nat.reduceLeDiff,Nat.reduceMul,reduceCtorEq,↓reduceIte,cell_of an,cell_of a7,Value.cells,e,Int.reduceBEq,cm,decide_true,decide_false,Int.reduceEq,Bool.true_and,Bool.false_and,Bool.and_true,Bool.and_false,e3];exact aY
 ·have hn:(az T x d).2=d - x.a:=by simp [az,e]
  rw [hn];have vl:=U.c1 (by omega);have e3:IntKind.i64.wrap (d - x.a)=d - x.a:=bU (by omega) (by omega);simp only [go_sem,Nat.reduceAdd,Nat.reduceEqDiff,Nat.reduceLT,Nat.reduceLeDiff,Nat.reduceMul,reduceCtorEq,↓reduceIte,cell_of an,cell_of a7,Value.cells,e,Int.reduceBEq,cm,decide_true,decide_false,Int.reduceEq,Bool.true_and,Bool.false_and,Bool.and_true,Bool.and_false,e3];exact aY
 ·have hn:(az T x d).2=d - 1:=by simp [az,e]
  rw [hn];simp only [go_sem,Nat.reduceAdd,Nat.reduceEqDiff,Nat.reduceLT,Nat.reduceLeDiff,Nat.reduceMul,reduceCtorEq,↓reduceIte,cell_of an,cell_of a7,Value.cells,e,Int.reduceBEq,cm,decide_true,decide_false,Int.reduceEq,Bool.true_and,Bool.false_and,Bool.and_true,Bool.and_false,e2];exact aY
 ·have hn:(az T x d).2=d - 1:=by simp [az,e]
  rw [hn];simp only [go_sem,Nat.reduceAdd,Nat.reduceEqDiff,Nat.reduceLT,Nat.reduceLeDiff,Nat.reduceMul,reduceCtorEq,↓reduceIte,cell_of an,cell_of a7,Value.cells,e,Int.reduceBEq,cm,decide_true,decide_false,Int.reduceEq,Bool.true_and,Bool.false_and,Bool.and_true,Bool.and_false,e2];exact aY
 ·have hn:(az T x d).2=d+min x.a 8000:=by simp [az,e]
  rw [hn];have vl:=U.c1 (by omega);have e3:IntKind.i64.wrap (d+min x.a 8000)=d+min x.a 8000:=bU (by omega) (by omega);have Be:(if 8000 < x.a then 8000 else x.a)=min x.a 8000:=by split<;>omega
  simp only [go_sem,Nat.reduceAdd,Nat.reduceEqDiff,Nat.reduceLT,Nat.reduceLeDiff,Nat.reduceMul,reduceCtorEq,↓reduceIte,cell_of an,cell_of a7,Value.cells,e,Int.reduceBEq,cm,decide_true,decide_false,Int.reduceEq,Bool.true_and,Bool.false_and,Bool.and_true,Bool.and_false,Be,e3];exact aY
 ·have hn:(az T x d).2=d - (T.sh x.a).fields+1:=by simp [az,e]
  rw [hn];obtain ⟨j,ad,hj,rfl,b3,hf,f1,f2⟩:=OR h2 fC U (by omega);have e3:IntKind.i64.wrap (d - (T.sh x.a).fields)=d - (T.sh x.a).fields:=bU (by omega) (by omega);have e4:IntKind.i64.wrap (d - (T.sh x.a).fields+1)=d - (T.sh x.a).fields+1:=bU (by omega) (by omega);generalize (T.sh x.a).fields=q at *;simp only [go_sem,Nat.reduceAdd,Nat.reduceEqDiff,Nat.reduceLT,Nat.reduceLeDiff,Nat.reduceMul,reduceCtorEq,↓reduceIte,ak,bh,cell_of an,cell_of a7,Value.cells,e,Int.reduceBEq,cm,decide_true,decide_false,Int.reduceEq,Bool.true_and,Bool.false_and,Bool.and_true,Bool.and_false,hj,b3,hf,e3,e4];exact aY
 ·have hn:(az T x d).2=d - 1+(T.sh x.a).fields:=by simp [az,e]
  rw [hn];obtain ⟨j,ad,hj,rfl,b3,hf,f1,f2⟩:=OR h2 fC U (by omega);have e3:IntKind.i64.wrap (d - 1+(T.sh x.a).fields)=d - 1+(T.sh x.a).fields:=bU (by omega) (by omega);generalize (T.sh x.a).fields=q at *;simp only [go_sem,Nat.reduceAdd,Nat.reduceEqDiff,Nat.reduceLT,Nat.reduceLeDiff,Nat.reduceMul,reduceCtorEq,↓reduceIte,ak,bh,cell_of an,cell_of a7,Value.cells,e,Int.reduceBEq,cm,decide_true,decide_false,Int.reduceEq,Bool.true_and,Bool.false_and,Bool.and_true,Bool.and_false,hj,b3,hf,e2,e3];exact aY
 ·have hn:(az T x d).2=d:=by simp [az,e]
  rw [hn];simp only [go_sem,Nat.reduceAdd,Nat.reduceEqDiff,Nat.reduceLT,Nat.reduceLeDiff,Nat.reduceMul,reduceCtorEq,↓reduceIte,cell_of an,cell_of a7,Value.cells,e,Int.reduceBEq,cm,decide_true,decide_false,Int.reduceEq,Bool.true_and,Bool.false_and,Bool.and_true,Bool.and_false];exact aY
 ·have hn:(az T x d).2=d - 1:=by simp [az,e]
  rw [hn];simp only [go_sem,Nat.reduceAdd,Nat.reduceEqDiff,Nat.reduceLT,Nat.reduceLeDiff,Nat.reduceMul,reduceCtorEq,↓reduceIte,cell_of an,cell_of a7,Value.cells,e,Int.reduceBEq,cm,decide_true,decide_false,Int.reduceEq,Bool.true_and,Bool.false_and,Bool.and_true,Bool.and_false,e2];exact aY
 ·have hn:(az T x d).2=d:=by simp [az,e]
  rw [hn];simp only [go_sem,Nat.reduceAdd,Nat.reduceEqDiff,Nat.reduceLT,Nat.reduceLeDiff,Nat.reduceMul,reduceCtorEq,↓reduceIte,cell_of an,cell_of a7,Value.cells,e,Int.reduceBEq,cm,decide_true,decide_false,Int.reduceEq,Bool.true_and,Bool.false_and,Bool.and_true,Bool.and_false];exact aY
 ·have hn:(az T x d).2=d:=by simp [az,e]
  rw [hn];simp only [go_sem,Nat.reduceAdd,Nat.reduceEqDiff,Nat.reduceLT,Nat.reduceLeDiff,Nat.reduceMul,reduceCtorEq,↓reduceIte,cell_of an,cell_of a7,Value.cells,e,Int.reduceBEq,cm,decide_true,decide_false,Int.reduceEq,Bool.true_and,Bool.false_and,Bool.and_true,Bool.and_false];exact aY
 ·have hn:(az T x d).2=d:=by simp [az,e]
  rw [hn];simp only [go_sem,Nat.reduceAdd,Nat.reduceEqDiff,Nat.reduceLT,Nat.reduceLeDiff,Nat.reduceMul,reduceCtorEq,↓reduceIte,cell_of an,cell_of a7,Value.cells,e,Int.reduceBEq,cm,decide_true,decide_false,Int.reduceEq,Bool.true_and,Bool.false_and,Bool.and_true,Bool.and_false];exact aY
 ·have hn:(az T x d).2=d:=by simp [az,e]
  rw [hn];simp only [go_sem,Nat.reduceAdd,Nat.reduceEqDiff,Nat.reduceLT,Nat.reduceLeDiff,Nat.reduceMul,reduceCtorEq,↓reduceIte,cell_of an,cell_of a7,Value.cells,e,Int.reduceBEq,cm,decide_true,decide_false,Int.reduceEq,Bool.true_and,Bool.false_and,Bool.and_true,Bool.and_false];exact aY
 ·have hn:(az T x d).2=d:=by simp [az,e]
  rw [hn];simp only [go_sem,Nat.reduceAdd,Nat.reduceEqDiff,Nat.reduceLT,Nat.reduceLeDiff,Nat.reduceMul,reduceCtorEq,↓reduceIte,cell_of an,cell_of a7,Value.cells,e,Int.reduceBEq,cm,decide_true,decide_false,Int.reduceEq,Bool.true_and,Bool.false_and,Bool.and_true,Bool.and_false];exact aY
end
end
section
open Go Go.W
section
variable {w:World} {bt bp cv:Value} {T:bl} {g:Gl} {B:Nat→Prop}
set_option maxHeartbeats 1000000 in
theorem alD (h:dE w bt bp T B) (dW:dB w cv 3 (g.code.map jb) B) (gh:g.code.length≤17592186044416) :
   aD Tryz.prog 36 [eC bt bp,cv] w fun r w'=>(∃ e:Int,r=I e∧(e=0↔iN T g.code.length 0 g.code=0∧g.code.length≠0))∧Mod (fun _=>False) w w':=by
 obtain ⟨⟨aS,cS,rfl⟩,aG,cG,rfl⟩:=ig h;obtain ⟨kD,ii,rfl⟩:=oz dW;rw [List.length_map] at *;obtain ⟨n,hn⟩:∃ n,n=g.code.length:=⟨_,rfl⟩;refine ak'.calls rfl ?_;unfold OE eC;refine φ ?_;refine b8 rfl ?_;intro w1 aq ag cL;refine φ ?_
 refine dz (fun z ρ w'=>∃ i:Nat,z=g.code.length - i∧i≤g.code.length∧Mod (fun _=>False) w w'∧w'.heap[w.heap.size]? = some (.cells [.slice aS T.aC.length cS,.slice aG T.globals.length cG].toArray 25 (0,0))∧iN T g.code.length 0 g.code=iN T g.code.length i (g.code.drop i) ∧
  ρ=[(1,.slice kD g.code.length ii),(2,ptr w.heap.size),(5,I i)]) g.code.length ⟨0,rfl,Nat.zero_le _,ag,aq,rfl,rfl⟩ ?_
 rintro z ρ w2 ⟨i,rfl,hi,ae,an,cq,rfl⟩;unfold X6;rcases Nat.lt_or_ge i g.code.length with ah | hge
 ·obtain ⟨ad,c,e',_,dI⟩:=yC (dW.mod ae (fun _ _ h=>h) (fun _ h=>h)) ah;cases e';rw [AJ ah] at dI;have lH:=VA T g.code.length g.code ah;have oV:=ak5 (T:=T) (len:=g.code.length) (i:=i) (x:=g.code[i]);generalize U:g.code[i]=x at *;have e1:decide ((i:Int) < g.code.length)=true:=by rw [decide_eq_true_eq];omega
  have e2:IntKind.i64.wrap ((i:Int)+1)=((i+1:Nat):Int):=by rw [IntKind.wrap_i64];omega
  have e3:(0:Int)≤i∧(i:Int) < g.code.length:=by omega
  have gv:=lL an;have LV:w2.drew.heap[w.heap.size]? = _:=an;have alE:=lL LV;have alF:cB w2.drew 3 (.pointer (some (ad.add (i*3))))=_:=dI;have alG:fh T g.code.length i x≠0→(∃ e:Int,e≠0∧iN T g.code.length 0 g.code=e):=fun bq=>⟨_,bq,by rw [cq,lH,if_neg bq]⟩
  have bad:∀ k:Int,k≠0→fh T g.code.length i x≠0→(k=0↔iN T g.code.length 0 g.code=0∧g.code.length≠0):=fun k hk bq=>by
   obtain ⟨e,h1,h2⟩:=alG bq;rw [h2];exact ⟨fun hh=>absurd hh hk,fun hh=>absurd hh.1 h1⟩
  simp only [go_sem,Nat.reduceAdd,Nat.reduceEqDiff,Nat.reduceLT,Nat.reduceLeDiff,Nat.reduceMul,reduceCtorEq,↓reduceIte,e1,e3,decide_true,Int.toNat_natCast,gv,alE,dI,alF];refine δ (by rfl) (alz (x:=x) (h.mod ae.drew (fun _ _ h=>h) (fun _ h=>h))) ?_;rintro _ w3 ⟨rfl,ab⟩;have mZ:=(Mod.refl (fun _=>False) w2).drew.trans ab;have du:=ae.trans mZ;cases hN:df T x with
  | false=>
   simp only [go_sem,Nat.reduceAdd,Nat.reduceEqDiff,Nat.reduceLT,Nat.reduceLeDiff,Nat.reduceMul,reduceCtorEq,↓reduceIte,Bool.not_false];exact ⟨⟨172,rfl,bad 172 (by decide) (fun hh=>by have:=(oV.1 hh).1;rw [hN] at this;cases this)⟩,du⟩
  | true=>
  have Me:cB w3 3 (.pointer (some (ad.add (i*3))))=some (ec x):=by
   obtain ⟨mR,c',e',_,h4⟩:=yC (dW.mod du (fun _ _ h=>h) (fun _ h=>h)) ah;cases e';rw [AJ ah,U] at h4;exact h4
  simp only [go_sem,Nat.reduceAdd,Nat.reduceEqDiff,Nat.reduceLT,Nat.reduceLeDiff,Nat.reduceMul,reduceCtorEq,↓reduceIte,Bool.not_true,e3,decide_true,Int.toNat_natCast,Me];refine δ (by rfl) (alx (x:=x)) ?_;rintro _ w4 ⟨rfl,aj⟩;have ey:=du.trans aj;have alH:cB w4 3 (.pointer (some (ad.add (i*3))))=some (ec x):=by
   obtain ⟨mR,c',e',_,h4⟩:=yC (dW.mod ey (fun _ _ h=>h) (fun _ h=>h)) ah;cases e';rw [AJ ah,U] at h4;exact h4
  simp only [go_sem,Nat.reduceAdd,Nat.reduceEqDiff,Nat.reduceLT,Nat.reduceLeDiff,Nat.reduceMul,reduceCtorEq,↓reduceIte,e3,decide_true,Int.toNat_natCast,alH];refine δ (by rfl) (Ya (x:=x)) ?_;rintro _ w5 ⟨rfl,ay⟩;have dt:=ey.trans ay;have cd:=((mZ.trans aj).trans ay).at an (fun h=>h);have step:fh T g.code.length i x=0→iN T g.code.length 0 g.code=iN T g.code.length (i+1) (g.code.drop (i+1)):=fun he=>by rw [cq,lH,if_pos he]
  cases hJ:jB x with
  | false=>
   simp only [go_sem,Nat.reduceAdd,Nat.reduceEqDiff,Nat.reduceLT,Nat.reduceLeDiff,Nat.reduceMul,reduceCtorEq,↓reduceIte,e2];refine ⟨_,?_,i+1,rfl,by omega,dt,cd,step (oV.2 ⟨hN,by rw [hJ];exact fun hh=>by cases hh.1⟩),rfl⟩;omega
  | true=>
   have Yc:(dp x≤i∨dp x≥g.code.length)→fh T g.code.length i x≠0:=fun hh he=>(oV.1 he).2 ⟨hJ,hh⟩
   cases h1:decide (dp x≤(i:Int)) with
   | true=>
    simp only [go_sem,Nat.reduceAdd,Nat.reduceEqDiff,Nat.reduceLT,Nat.reduceLeDiff,Nat.reduceMul,reduceCtorEq,↓reduceIte,h1];exact ⟨⟨174,rfl,bad 174 (by decide) (Yc (.inl (of_decide_eq_true h1)))⟩,dt⟩
   | false=>
   cases h2:decide (dp x≥(g.code.length:Int)) with
   | true=>
    simp only [go_sem,Nat.reduceAdd,Nat.reduceEqDiff,Nat.reduceLT,Nat.reduceLeDiff,Nat.reduceMul,reduceCtorEq,↓reduceIte,h1,h2];exact ⟨⟨174,rfl,bad 174 (by decide) (Yc (.inr (of_decide_eq_true h2)))⟩,dt⟩
   | false=>
    simp only [go_sem,Nat.reduceAdd,Nat.reduceEqDiff,Nat.reduceLT,Nat.reduceLeDiff,Nat.reduceMul,reduceCtorEq,↓reduceIte,h1,h2,e2];refine ⟨_,?_,i+1,rfl,by omega,dt,cd,step (oV.2 ⟨hN,fun hh=>?_⟩),rfl⟩
    ·omega
    ·rcases hh.2 with h | h
     ·exact of_decide_eq_false h1 h
     ·exact of_decide_eq_false h2 h
 ·obtain rfl:i=g.code.length:=by omega
  have e1:decide (((g.code.length:Nat):Int) < g.code.length)=false:=by simp
  rw [List.drop_length] at cq;have cq:iN T g.code.length 0 g.code=0:=cq;by_cases h0:g.code.length=0
  ·have e2:((g.code.length:Int) == 0)=true:=by rw [h0];rfl
   simp only [go_sem,Nat.reduceAdd,Nat.reduceEqDiff,Nat.reduceLT,Nat.reduceLeDiff,Nat.reduceMul,reduceCtorEq,↓reduceIte,e1,e2];exact ⟨⟨174,rfl,by rw [h0];exact ⟨fun hh=>absurd hh (by decide),fun hh=>absurd rfl hh.2⟩⟩,ae⟩
  ·have e2:((g.code.length:Int) == 0)=false:=beq_false_of_ne (by omega);simp only [go_sem,Nat.reduceAdd,Nat.reduceEqDiff,Nat.reduceLT,Nat.reduceLeDiff,Nat.reduceMul,reduceCtorEq,↓reduceIte,e1,e2];exact ⟨⟨0,rfl,by rw [cq];exact ⟨fun _=>⟨rfl,h0⟩,fun _=>rfl⟩⟩,ae⟩
end
end
section
open Go Go.W
theorem Hn {D:List Int} {k:Nat} {s:Int} (hk:k < D.length) (h:D.getD k 0=0∨D.getD k 0=s):D.set k s=ed D (k:Int) s:=by
 unfold ed;rw [Int.toNat_natCast]
 split
 ·rfl
 ·rename_i h0;have hs:=h.resolve_left h0;rw [List.getD_eq_getElem?_getD,List.getElem?_eq_getElem hk,Option.getD_some] at hs;rw [← hs,List.set_getElem_self]
theorem Ho {D:List Int} {k:Nat} {s:Int} (hk:k < D.length) (h:D.getD k 0=0∨D.getD k 0=s):(ed D (k:Int) s).getD k 0=s:=by
 rw [← Hn hk h,yG,if_pos ⟨rfl,hk⟩]
def kH:IR→IR
 | .seq _ b=>b
 | a=>a
def DN:IR→IR
 | .seq a _=>a
 | a=>a
def Hp:IR→IR
 | .block _ a=>a
 | a=>a
def tailD:IR:=kH (kH (kH (kH (kH (kH (kH (kH (kH (kH (kH (kH (kH (Hp (DN (kH xh)))))))))))))))
set_option maxHeartbeats 1000000 in
theorem alI {w:World} {bD n i:Nat} {D:List Int} {p2 p3:Value} {s to:Int} {rest:Go.W.Env} {Q:gy} (hD:w.heap[bD]? = some (.cells (D.map I).toArray 3 (0,0))) (sQ:D.length=n) (hto:to < n)
   (fm:∀ w',0≤to→¬ (D.getD to.toNat 0=0∨D.getD to.toNat 0=s)→Mod (fun _=>False) w w'→Q .ret [(4,.slice (some ⟨bD,0,none⟩) n n),(5,I 173)] w')
   (ct:∀ w' D' uS,D'=(if 0≤to then ed D to s else D)→(0≤to→D'.getD to.toNat 0=s)→w'.heap[bD]? = some (.cells (D'.map I).toArray 3 (0,0))→Mod (· = bD) w w'→Q .normal ((2,p2)::(3,p3)::(6,.slice (some ⟨bD,0,none⟩) n n)::(7,I i)::uS) w') :
   cD Tryz.prog 128 tailD Q ((2,p2)::(3,p3)::(6,.slice (some ⟨bD,0,none⟩) n n)::(7,I i)::(11,I s)::(13,I to)::rest) w:=by
 unfold tailD xh;simp only [DN,kH,Hp];by_cases h0:0≤to
 ·obtain ⟨k,rfl⟩:∃ k:Nat,to=k:=⟨to.toNat,by omega⟩;have e1:decide ((k:Int)≥0)=true:=by rw [decide_eq_true_eq];omega
  have e3:(0:Int)≤k∧(k:Int) < n:=by omega
  have hk:k < D.length:=by omega
  have AK:=oW hD hk;rw [Int.toNat_natCast] at *;simp only [if_pos h0] at ct;have stored:∀ (Hq:D.getD k 0=0∨D.getD k 0=s) (w2:World),w2.heap[bD]? = some (.cells ((D.map I).set k (I s)).toArray 3 (0,0))→w2.heap[bD]? = some (.cells ((ed D (k:Int) s).map I).toArray 3 (0,0)):=fun Hq w2 h=>by
   rw [h,← Hn hk Hq,List.map_set]
  by_cases c1:D.getD k 0=0
  ·have n0:(D.getD k 0 != 0)=false:=by rw [c1];rfl
   simp only [go_sem,Nat.reduceAdd,Nat.reduceEqDiff,Nat.reduceLT,Nat.reduceLeDiff,Nat.reduceMul,reduceCtorEq,↓reduceIte,e1,e3,decide_true,Int.toNat_natCast,c8,Nat.zero_add,Nat.mul_one,AK,n0];refine bL (off:=k) rfl rfl hD rfl (by simp;omega) ?_;intro w2 an ae _;exact ct w2 _ _ rfl (fun _=>Ho hk (.inl c1)) (stored (.inl c1) w2 (by rw [an])) ae
  have n0:(D.getD k 0 != 0)=true:=by simpa using c1
  by_cases c2:D.getD k 0=s
  ·have n1:(D.getD k 0 != s)=false:=by rw [c2];simp
   simp only [go_sem,Nat.reduceAdd,Nat.reduceEqDiff,Nat.reduceLT,Nat.reduceLeDiff,Nat.reduceMul,reduceCtorEq,↓reduceIte,e1,e3,decide_true,Int.toNat_natCast,c8,Nat.zero_add,Nat.mul_one,AK,n0,n1];refine bL (off:=k) rfl rfl hD rfl (by simp;omega) ?_;intro w2 an ae _;exact ct w2 _ _ rfl (fun _=>Ho hk (.inr c2)) (stored (.inr c2) w2 (by rw [an])) ae
  ·have n1:(D.getD k 0 != s)=true:=by simpa using c2
   simp only [go_sem,Nat.reduceAdd,Nat.reduceEqDiff,Nat.reduceLT,Nat.reduceLeDiff,Nat.reduceMul,reduceCtorEq,↓reduceIte,e1,e3,decide_true,Int.toNat_natCast,c8,Nat.zero_add,Nat.mul_one,AK,n0,n1];exact fm w h0 (fun hh=>hh.elim c1 c2) (Mod.refl _ _)
 ·have e1:decide (to≥0)=false:=by rw [decide_eq_false_iff_not];omega
  simp only [go_sem,Nat.reduceAdd,Nat.reduceEqDiff,Nat.reduceLT,Nat.reduceLeDiff,Nat.reduceMul,reduceCtorEq,↓reduceIte,e1];exact ct w D _ (by rw [if_neg h0]) (fun hh=>absurd hh h0) hD (Mod.refl _ _)
end
section
open Go Go.W
theorem alJ {T:bl} {len i:Nat} {x:Ins} (U:pw T len i x):(0≤dp x↔dM x > 0)∧(0≤dp x→dp x=dM x)∧dp x < len∨len=0:=by
 have o1:=U.FU;have o2:=U.yr;unfold dp dM;by_cases h1:x.op=13
 ·have:=o1 h1;rw [if_pos h1,if_pos h1]
  left
  exact ⟨⟨fun _=>by omega,fun _=>by omega⟩,fun _=>rfl,this.2⟩
 rw [if_neg h1,if_neg h1];by_cases h2:x.op=14∨x.op=15
 ·have:=o2 h2;rw [if_pos h2,if_pos h2]
  left
  exact ⟨⟨fun _=>by omega,fun _=>by omega⟩,fun _=>rfl,this.2⟩
 ·rw [if_neg h2,if_neg h2];by_cases hl:len=0
  ·exact .inr hl
  ·left
   exact ⟨⟨fun h=>absurd h (by decide),fun h=>absurd h (by decide)⟩,fun h=>absurd h (by decide),by omega⟩
def OS (f:IR→IR):IR→IR
 | .seq a b=>.seq a (f b)
 | x=>x
theorem alK:xh = .seq (DN xh) (.seq (.block 1 ((OS (OS (OS (OS (OS (OS (OS (OS (OS (OS (OS (OS (OS (fun _=>tailD)))))))))))))) (Hp (DN (kH xh))))) (kH (kH xh))):=rfl
section
variable {w:World} {bt bp cv:Value} {T:bl} {g:Gl} {B:Nat→Prop}
set_option maxHeartbeats 2000000 in
theorem alL (h:dE w bt bp T B) (dW:dB w cv 3 (g.code.map jb) B) (jL:∀ b,B b→b < w.heap.size) (fC:∀ s∈T.aC,0≤s.fields∧s.fields≤8) (kf:0≤g.arity∧g.arity≤24) (gh:g.code.length≤8000) (h0:g.code.length≠0) (jN:∀ x∈g.code,x.a≤9223372036854775807) (iu:iN T g.code.length 0 g.code=0) :
   aD Tryz.prog 37 [eC bt bp,mJ g cv] w fun r w'=>(∃ (v:Value) (e:Int),r = .tuple #[v,I e]∧(e=0↔jM T g.code.length 0 g.code (gW g)=0))∧Mod (fun _=>False) w w':=by
 obtain ⟨⟨aS,cS,rfl⟩,aG,cG,rfl⟩:=ig h;obtain ⟨kD,ii,rfl⟩:=oz dW;rw [List.length_map] at *;refine ala.calls rfl ?_;unfold OF eC mJ;refine φ ?_;refine b8 rfl ?_;intro w1 aq ag cL;refine φ ?_;refine b8 rfl ?_;intro w2 an ae dh;have a7:=ae.at aq (fun h=>h);have aY:=ag.trans ae;have gG:w2.heap[w1.heap.size]? = some (.cells [.string g.name,I g.arity,.slice kD g.code.length ii].toArray 59 (0,0)):=an;have NJ:w2.heap[w.heap.size]? = some (.cells [.slice aS T.aC.length cS,.slice aG T.globals.length cG].toArray 25 (0,0)):=a7;have l1:=lt_of_heap a7;have l2:=lt_of_heap an;simp only [go_sem,Nat.reduceAdd,Nat.reduceEqDiff,Nat.reduceLT,Nat.reduceLeDiff,Nat.reduceMul,reduceCtorEq,↓reduceIte,cell_of gG];refine sb (bytes:=8) (n:=g.code.length) rfl (by omega) (by omega) ?_;intro w3 aE ab gj;have b0:(0:Int)≤0∧(0:Int) < g.code.length:=by omega
 have e2:IntKind.i64.wrap (g.arity+1)=g.arity+1:=bU (by omega) (by omega);simp only [go_sem,Nat.reduceAdd,Nat.reduceEqDiff,Nat.reduceLT,Nat.reduceLeDiff,Nat.reduceMul,reduceCtorEq,↓reduceIte,ak,bh,cell_of (ab.at gG (fun h=>h)),e2,b0,c8];refine bL (off:=0) rfl rfl aE rfl (by simp;omega) ?_;intro w4 aJ aj eA;obtain ⟨bD,hbD⟩:∃ b,b=w2.heap.size:=⟨_,rfl⟩;have dm:Mod (fun _=>False) w2 w4:=ab.step aj (fun x U hl=>by subst U;omega);rw [← hbD] at aJ ⊢;have ey:=aY.trans dm;have Nw:w4.heap[bD]? = some (.cells ((gW g).map I).toArray 3 (0,0)):=by
  rw [aJ];unfold gW;rw [List.map_set,List.map_replicate]
 have alM:(gW g).length=g.code.length:=by unfold gW;simp
 have alN:rH (gW g):=by
  intro k;unfold gW;rw [yG]
  split
  ·omega
  ·rw [List.getD_eq_getElem?_getD,List.getElem?_replicate]
   split<;>simp
 have s24:=dm.size;have fin:∀ {w':World},Mod (fun b=>b=bD) w4 w'→Mod (fun _=>False) w w':=fun hm=>ey.step hm (fun b hb ah=>by have:=aY.size;omega)
 refine φ ?_
 refine dz (fun z ρ w'=>∃ (i:Nat) (D:List Int) (rest:Go.W.Env),z=g.code.length - i∧i≤g.code.length∧Mod (fun b=>b=bD) w4 w'∧D.length=g.code.length∧rH D∧w'.heap[bD]? = some (.cells (D.map I).toArray 3 (0,0))∧jM T g.code.length 0 g.code (gW g)=jM T g.code.length i (g.code.drop i) D ∧
  ρ=(2,ptr w.heap.size)::(3,ptr w1.heap.size)::(6,.slice (some ⟨bD,0,none⟩) g.code.length g.code.length)::(7,I i)::rest) g.code.length ⟨0,gW g,[],rfl,Nat.zero_le _,Mod.refl _ _,alM,alN,Nw,rfl,rfl⟩ ?_
 rintro z ρ w5 ⟨i,D,rest,rfl,hi,ay,sQ,rI,AM,cq,rfl⟩;have dt:=fin ay;have jZ:=ay.at (dm.at NJ (fun h=>h)) (fun e=>by omega);have p9:=ay.at (dm.at gG (fun h=>h)) (fun e=>by omega);have bad:∀ k:Int,k≠0→jM T g.code.length 0 g.code (gW g)≠0→(k=0↔jM T g.code.length 0 g.code (gW g)=0):=fun k h1 h2=>⟨fun hh=>absurd hh h1,fun hh=>absurd hh h2⟩
 rw [alK];unfold xh;simp only [OS,DN,kH,Hp];rcases Nat.lt_or_ge i g.code.length with ah | hge
 ·obtain ⟨ad,c,e',_,dI⟩:=yC (dW.mod dt (fun _ _ h=>h) (fun _ h=>h)) ah;cases e';rw [AJ ah] at dI;have lH:=VB T g.code.length g.code D ah;have fJ:pw T g.code.length i g.code[i]:=by
   have:=Mh g.code 0 iu i _ (List.getElem?_eq_getElem ah);rw [Nat.zero_add] at this;exact Mi this
  have GG:=jN _ (List.getElem_mem ah);generalize U:g.code[i]=x at *;have e1:decide ((i:Int) < g.code.length)=true:=by rw [decide_eq_true_eq];omega
  have b1:(0:Int)≤i∧(i:Int) < g.code.length:=by omega
  have AK:=oW AM (i:=i) (by omega);have xi:∀ k:Int,k≠0→pB T g.code.length i x D≠0→(k=0↔jM T g.code.length 0 g.code (gW g)=0):=fun k h1 h2=>bad k h1 (by rw [cq,lH,if_neg h2];exact h2)
  simp only [go_sem,Nat.reduceAdd,Nat.reduceEqDiff,Nat.reduceLT,Nat.reduceLeDiff,Nat.reduceMul,reduceCtorEq,↓reduceIte,ak,bh,e1,decide_true,cell_of p9,b1,dI,ec];refine de ?_;intro w6 cO aH _;have alO:w6.heap[w5.heap.size]? = some (.cells [I 0,I 0,I 0].toArray 61 (0,0)):=cO;refine cu (vs:=[I x.op,I x.a,I x.b]) rfl rfl alO rfl rfl (by simp [Value.oneCell']) ?_;intro w7 cj aZ _;have iI:Mod (fun _=>False) w5 w7:=aH.step aZ (fun x U hl=>by subst U;omega);have uG:=iI.at AM (fun h=>h);have OT:=oW uG (i:=i) (by omega);have Di:=rI i;obtain ⟨d,AL⟩:∃ d,D.getD i 0=d:=⟨_,rfl⟩;rw [AL] at OT Di;have e0:pB T g.code.length i x D=if d=0 then 174
   else if ¬ ((az T x d).1=true∧(az T x d).2≤8000) then 173
   else if eN x∧i+1=g.code.length then 174
   else if eN x∧(ed D ((i:Int)+1) (az T x d).2).getD (i+1) 0≠(az T x d).2 then 173
   else if dM x > 0∧(gV T D i x).getD (dM x).toNat 0≠(az T x d).2 then 173
   else 0:=by unfold pB;rw [AL]
  have cg:gV T D i x=if dM x > 0 then ed (if x.op≠13∧x.op≠16∧x.op≠17 then ed D ((i:Int)+1) (az T x d).2 else D) (dM x) (az T x d).2 else (if x.op≠13∧x.op≠16∧x.op≠17 then ed D ((i:Int)+1) (az T x d).2 else D):=by unfold gV;rw [AL]
  have gI:=dt.trans iI;by_cases Hr:d=0
  ·have f1:(d == 0)=true:=by rw [Hr];rfl
   rw [if_pos Hr] at e0;simp only [go_sem,Nat.reduceAdd,Nat.reduceEqDiff,Nat.reduceLT,Nat.reduceLeDiff,Nat.reduceMul,reduceCtorEq,↓reduceIte,ak,bh,b1,c8,OT,f1];exact ⟨⟨_,174,rfl,xi 174 (by decide) (by rw [e0];decide)⟩,gI⟩
  have f1:(d == 0)=false:=beq_false_of_ne Hr;rw [if_neg Hr] at e0;have gv:=lL (iI.at jZ (fun h=>h));have pE:=kG cj;simp only [go_sem,Nat.reduceAdd,Nat.reduceEqDiff,Nat.reduceLT,Nat.reduceLeDiff,Nat.reduceMul,reduceCtorEq,↓reduceIte,ak,bh,b1,c8,OT,f1,gv,pE];refine δ (by rfl) (alB (x:=x) (h.mod gI (fun _ _ h=>h) (fun _ h=>h)) fC fJ GG (d:=d) Di) ?_;rintro _ w8 ⟨rfl,bY⟩;have rM:=gI.trans bY;have Yd:=iI.trans bY;have ct:=alA (T:=T) (x:=x) (d:=d) (by omega);have gF:(az T x d).1=true→1≤(az T x d).2:=Mj (fun s hs=>(fC s hs).1) fJ (by omega);cases bq:eD T x d with
  | false=>
   simp only [go_sem,Nat.reduceAdd,Nat.reduceEqDiff,Nat.reduceLT,Nat.reduceLeDiff,Nat.reduceMul,reduceCtorEq,↓reduceIte,Bool.not_false];refine ⟨⟨_,173,rfl,xi 173 (by decide) ?_⟩,rM⟩;rw [bq,Bool.false_and] at ct;rw [e0,if_pos (fun hh=>by rw [hh.1] at ct;simp [hh.2] at ct)]
   decide
  | true=>
  rw [bq,Bool.true_and] at ct;have alP:=lL (Yd.at jZ (fun h=>h));have alQ:=kG (bY.at cj (fun h=>h));simp only [go_sem,Nat.reduceAdd,Nat.reduceEqDiff,Nat.reduceLT,Nat.reduceLeDiff,Nat.reduceMul,reduceCtorEq,↓reduceIte,Bool.not_true,alP,alQ];refine δ (by rfl) (alC (x:=x) (h.mod rM (fun _ _ h=>h) (fun _ h=>h)) fC fJ GG (d:=d) Di) ?_;rintro _ w9 ⟨rfl,dq⟩;have rq:=rM.trans dq;have aoB:=Yd.trans dq;obtain ⟨s,hs⟩:∃ s,(az T x d).2=s:=⟨_,rfl⟩;rw [hs] at ct gF e0 cg ⊢;by_cases qZ:s > 8000
  ·have f2:decide (s > 8000)=true:=decide_eq_true qZ;simp only [go_sem,Nat.reduceAdd,Nat.reduceEqDiff,Nat.reduceLT,Nat.reduceLeDiff,Nat.reduceMul,reduceCtorEq,↓reduceIte,f2];refine ⟨⟨_,173,rfl,xi 173 (by decide) ?_⟩,rq⟩;rw [e0,if_pos (fun hh=>by omega)]
   decide
  have f2:decide (s > 8000)=false:=decide_eq_false qZ;have ug:(az T x d).1=true:=by
   have:decide (s≤8000)=true:=by rw [decide_eq_true_eq];omega
   rw [this,Bool.and_true] at ct;exact ct.symm
  rw [if_neg (fun hh=>hh ⟨ug,by omega⟩)] at e0;have cL:=gF ug;have alR:=kG ((bY.trans dq).at cj (fun h=>h));simp only [go_sem,Nat.reduceAdd,Nat.reduceEqDiff,Nat.reduceLT,Nat.reduceLeDiff,Nat.reduceMul,reduceCtorEq,↓reduceIte,f2,alR];refine δ (by rfl) (aly (x:=x)) ?_;rintro _ wa ⟨rfl,tU⟩;have alS:=kG (((bY.trans dq).trans tU).at cj (fun h=>h));simp only [go_sem,Nat.reduceAdd,Nat.reduceEqDiff,Nat.reduceLT,Nat.reduceLeDiff,Nat.reduceMul,reduceCtorEq,↓reduceIte,alS];refine δ (by rfl) (Ya (x:=x)) ?_;rintro _ wb ⟨rfl,OU⟩;have Ye:=((bY.trans dq).trans tU).trans OU;have Hs:=iI.trans Ye;have Yf:=dt.trans Hs;have alT:=Ye.at cj (fun h=>h);have Ht:=Hs.at AM (fun h=>h);have DO:=Hs.at p9 (fun h=>h);have CS:=h0;obtain ⟨⟨u9,tC⟩,wV,ht4⟩:((0≤dp x→dM x > 0)∧(dM x > 0→0≤dp x))∧(0≤dp x→dp x=dM x)∧dp x < g.code.length:=by
   rcases alJ fJ with hh | hh
   ·exact ⟨⟨hh.1.1,hh.1.2⟩,hh.2.1,hh.2.2⟩
   ·exact absurd hh CS
  refine gz (fun ρ w'=>wb=w'∧ρ.get 2=some (ptr w.heap.size)∧ρ.get 3=some (ptr w1.heap.size)∧ρ.get 6=some (.slice (some ⟨bD,0,none⟩) g.code.length g.code.length)∧ρ.get 7=some (I i)∧ρ.get 11=some (I s)∧ρ.get 13=some (I (dp x))∧ρ.get 14=some (.bool (decide (eN x)))) ?_ ?_
  ·have eG:decide (eN x)=(!(decide (x.op=16)||decide (x.op=17))&&(x.op != 13)):=by
    unfold eN;by_cases a:x.op=13<;>by_cases b:x.op=16<;>by_cases c:x.op=17<;>simp [a,b,c]
   rw [eG];cases h1:decide (x.op=16)<;>cases h2:decide (x.op=17)<;>simp only [go_sem,Nat.reduceAdd,Nat.reduceEqDiff,Nat.reduceLT,Nat.reduceLeDiff,Nat.reduceMul,reduceCtorEq,↓reduceIte,h1,h2,cell_of alT,ptr,Bool.or_true,Bool.true_or,Bool.or_false,Bool.false_or,Bool.not_true,Bool.not_false,Bool.true_and,Bool.false_and]
  rintro ρ _ ⟨rfl,r2,r3,r6,r7,iO,rJ,wZ⟩;have tail:∀ (w':World) (D1:List Int) (uS:Go.W.Env) (Q:gy),D1=(if x.op≠13∧x.op≠16∧x.op≠17 then ed D ((i:Int)+1) s else D)→D1.length=g.code.length→w'.heap[bD]? = some (.cells (D1.map I).toArray 3 (0,0))→Mod (fun b=>b=bD) w4 w'→(eN x→(ed D ((i:Int)+1) s).getD (i+1) 0=s∧i+1≠g.code.length) →
      (∀ w',Mod (fun _=>False) w w'→pB T g.code.length i x D≠0→Q .ret [(4,.slice (some ⟨bD,0,none⟩) g.code.length g.code.length),(5,I 173)] w') →
      (∀ w' D' uS,D'.length=g.code.length→rH D'→w'.heap[bD]? = some (.cells (D'.map I).toArray 3 (0,0))→Mod (fun b=>b=bD) w4 w'→jM T g.code.length 0 g.code (gW g)=jM T g.code.length (i+1) (g.code.drop (i+1)) D'→Q .normal ((2,ptr w.heap.size)::(3,ptr w1.heap.size)::(6,.slice (some ⟨bD,0,none⟩) g.code.length g.code.length)::(7,I i)::uS) w') →
      cD Tryz.prog 128 tailD Q ((2,ptr w.heap.size)::(3,ptr w1.heap.size)::(6,.slice (some ⟨bD,0,none⟩) g.code.length g.code.length)::(7,I i)::(11,I s)::(13,I (dp x))::uS) w':=by
   intro w' D1 uS Q q1 q2 q3 q4 q5 k1 k2;have yw:¬ (eN x∧i+1=g.code.length):=fun hh=>(q5 hh.1).2 hh.2
   have alU:¬ (eN x∧(ed D ((i:Int)+1) s).getD (i+1) 0≠s):=fun hh=>hh.2 (q5 hh.1).1
   rw [if_neg yw,if_neg alU] at e0;rw [← q1] at cg;refine alI q3 q2 ht4 (fun w2 t1 t2 t3=>?_) (fun w2 D2 alV t1 t2 t3 t4=>?_)
   ·refine k1 w2 (fin (q4.trans (t3.aB (fun _ hh=>hh.elim)))) ?_;have Gy:=u9 t1;rw [if_pos Gy,← wV t1] at cg;have fm:(gV T D i x).getD (dM x).toNat 0≠s:=by
     rw [cg,← wV t1];unfold ed;rw [if_neg (fun hh=>t2 (.inl hh))];exact fun hh=>t2 (.inr hh)
    rw [e0,if_pos ⟨Gy,fm⟩]
    decide
   ·have uF:D2=gV T D i x:=by
     rw [t1,cg];by_cases hp:0≤dp x
     ·rw [if_pos hp,if_pos (u9 hp),wV hp]
     ·rw [if_neg hp,if_neg (fun hh=>hp (tC hh))]
    have he:pB T g.code.length i x D=0:=by
     rw [e0,if_neg];intro hh;have hp:=tC hh.1;refine hh.2 ?_;rw [← uF,← wV hp];exact t2 hp
    refine k2 w2 D2 alV (by rw [uF,Vk];exact sQ) ?_ t3 (q4.trans t4) (by rw [cq,lH,if_pos he,uF]);have Dk:0≤s∧s≤8000:=by omega
    have aq:rH D1:=by
     rw [q1]
     split
     ·exact GF rI _ Dk
     ·exact rI
    rw [t1]
    split
    ·exact GF aq _ Dk
    ·exact aq
  have e9:IntKind.i64.wrap ((i:Int)+1)=((i+1:Nat):Int):=by rw [IntKind.wrap_i64];omega
  have OV:Mod (fun b=>b=bD) w4 wb:=ay.trans (Hs.aB (fun _ hh=>hh.elim));have ei:((i+1:Nat):Int)=(i:Int)+1:=by omega
  by_cases hG:eN x
  ·have wN:decide (eN x)=true:=decide_eq_true hG;by_cases j8:i+1=g.code.length
   ·have f3:decide (((i+1:Nat):Int)≥g.code.length)=true:=by rw [decide_eq_true_eq];omega
    simp only [go_sem,Nat.reduceAdd,Nat.reduceEqDiff,Nat.reduceLT,Nat.reduceLeDiff,Nat.reduceMul,reduceCtorEq,↓reduceIte,r2,r3,r6,r7,iO,rJ,wZ,wN,e9,cell_of DO,ptr,f3];exact ⟨⟨_,174,rfl,xi 174 (by decide) (by rw [e0,if_pos ⟨hG,j8⟩];decide)⟩,Yf⟩
   have f3:decide (((i+1:Nat):Int)≥g.code.length)=false:=by rw [decide_eq_false_iff_not];omega
   have hk:i+1 < D.length:=by omega
   have OW:=oW Ht hk;have b2:(0:Int)≤((i+1:Nat):Int)∧((i+1:Nat):Int) < g.code.length:=by omega
   by_cases c1:D.getD (i+1) 0=0
   ·have n0:(D.getD (i+1) 0 != 0)=false:=by rw [c1];rfl
    simp only [go_sem,Nat.reduceAdd,Nat.reduceEqDiff,Nat.reduceLT,Nat.reduceLeDiff,Nat.reduceMul,reduceCtorEq,↓reduceIte,ak,bh,r2,r3,r6,r7,iO,rJ,wZ,wN,e9,cell_of DO,ptr,f3,b2,c8,Nat.zero_add,OW,n0];refine bL (off:=i+1) rfl rfl Ht rfl (by simp;omega) ?_;intro wc xI sB _;refine tail wc (ed D ((i:Int)+1) s) _ _ (by rw [if_pos (show x.op≠13∧x.op≠16∧x.op≠17 from hG)]) (by rw [Dd];exact sQ) (by rw [xI,← ei,← Hn hk (.inl c1),List.map_set]) (OV.trans sB) (fun _=>⟨by rw [← ei];exact Ho hk (.inl c1),j8⟩) (fun w' q1 q2=>?_) (fun w' D' uS t1 t2 t3 t4 t5=>?_)
    ·refine φ ?_;exact ⟨⟨_,173,rfl,xi 173 (by decide) q2⟩,q1⟩
    ·simp only [go_sem,Nat.reduceAdd,Nat.reduceEqDiff,Nat.reduceLT,Nat.reduceLeDiff,Nat.reduceMul,reduceCtorEq,↓reduceIte,e9];refine ⟨_,?_,i+1,D',_,rfl,by omega,t4,t1,t2,t3,t5,rfl⟩;omega
   have n0:(D.getD (i+1) 0 != 0)=true:=by simpa using c1
   by_cases c2:D.getD (i+1) 0=s
   ·have n1:(D.getD (i+1) 0 != s)=false:=by rw [c2];simp
    simp only [go_sem,Nat.reduceAdd,Nat.reduceEqDiff,Nat.reduceLT,Nat.reduceLeDiff,Nat.reduceMul,reduceCtorEq,↓reduceIte,ak,bh,r2,r3,r6,r7,iO,rJ,wZ,wN,e9,cell_of DO,ptr,f3,b2,c8,Nat.zero_add,OW,n0,n1];refine bL (off:=i+1) rfl rfl Ht rfl (by simp;omega) ?_;intro wc xI sB _;refine tail wc (ed D ((i:Int)+1) s) _ _ (by rw [if_pos (show x.op≠13∧x.op≠16∧x.op≠17 from hG)]) (by rw [Dd];exact sQ) (by rw [xI,← ei,← Hn hk (.inr c2),List.map_set]) (OV.trans sB) (fun _=>⟨by rw [← ei];exact Ho hk (.inr c2),j8⟩) (fun w' q1 q2=>?_) (fun w' D' uS t1 t2 t3 t4 t5=>?_)
    ·refine φ ?_;exact ⟨⟨_,173,rfl,xi 173 (by decide) q2⟩,q1⟩
    ·simp only [go_sem,Nat.reduceAdd,Nat.reduceEqDiff,Nat.reduceLT,Nat.reduceLeDiff,Nat.reduceMul,reduceCtorEq,↓reduceIte,e9];refine ⟨_,?_,i+1,D',_,rfl,by omega,t4,t1,t2,t3,t5,rfl⟩;omega
   ·have n1:(D.getD (i+1) 0 != s)=true:=by simpa using c2
    simp only [go_sem,Nat.reduceAdd,Nat.reduceEqDiff,Nat.reduceLT,Nat.reduceLeDiff,Nat.reduceMul,reduceCtorEq,↓reduceIte,ak,bh,r2,r3,r6,r7,iO,rJ,wZ,wN,e9,cell_of DO,ptr,f3,b2,c8,Nat.zero_add,OW,n0,n1];have fm:(ed D ((i:Int)+1) s).getD (i+1) 0≠s:=by
     rw [← ei];unfold ed;rw [Int.toNat_natCast,if_neg c1];exact c2
    exact ⟨⟨_,173,rfl,xi 173 (by decide) (by rw [e0,if_neg (fun hh=>j8 hh.2),if_pos ⟨hG,fm⟩];decide)⟩,Yf⟩
  ·have Dl:decide (eN x)=false:=decide_eq_false hG;simp only [go_sem,Nat.reduceAdd,Nat.reduceEqDiff,Nat.reduceLT,Nat.reduceLeDiff,Nat.reduceMul,reduceCtorEq,↓reduceIte,r2,r3,r6,r7,iO,rJ,wZ,Dl,e9,cell_of DO,ptr];refine tail wb D _ _ (by rw [if_neg (show ¬ (x.op≠13∧x.op≠16∧x.op≠17) from hG)]) sQ Ht OV (fun hh=>absurd hh hG) (fun w' q1 q2=>?_) (fun w' D' uS t1 t2 t3 t4 t5=>?_)
   ·refine φ ?_;exact ⟨⟨_,173,rfl,xi 173 (by decide) q2⟩,q1⟩
   ·simp only [go_sem,Nat.reduceAdd,Nat.reduceEqDiff,Nat.reduceLT,Nat.reduceLeDiff,Nat.reduceMul,reduceCtorEq,↓reduceIte,e9];refine ⟨_,?_,i+1,D',_,rfl,by omega,t4,t1,t2,t3,t5,rfl⟩;omega
 ·obtain rfl:i=g.code.length:=by omega
  have e1:decide (((g.code.length:Nat):Int) < g.code.length)=false:=by simp
  rw [List.drop_length] at cq;have cq:jM T g.code.length 0 g.code (gW g)=0:=cq;simp only [go_sem,Nat.reduceAdd,Nat.reduceEqDiff,Nat.reduceLT,Nat.reduceLeDiff,Nat.reduceMul,reduceCtorEq,↓reduceIte,e1,cell_of p9];refine ⟨⟨_,0,rfl,?_⟩,dt⟩;rw [cq]
end
end
section
open Go Go.W
theorem alW {T:bl} {g:Gl}:lF T g=0↔(iN T g.code.length 0 g.code=0∧g.code.length≠0)∧jM T g.code.length 0 g.code (gW g)=0:=by
 unfold lF;by_cases h1:iN T g.code.length 0 g.code=0
 ·rw [if_neg (fun hh=>hh h1)];by_cases h2:g.code.length=0
  ·rw [if_pos h2];exact ⟨fun hh=>absurd hh (by decide),fun hh=>absurd h2 hh.1.2⟩
  ·rw [if_neg h2];exact ⟨fun hh=>⟨⟨h1,h2⟩,hh⟩,fun hh=>hh.2⟩
 ·rw [if_pos h1];exact ⟨fun hh=>absurd hh h1,fun hh=>absurd hh.1.1 h1⟩
section
variable {w:World} {bt bp:Value} {T:bl} {B:Nat→Prop}
set_option maxHeartbeats 1000000 in
theorem alX (h:dE w bt bp T B) (hT:lg T) (jL:∀ b,B b→b < w.heap.size):aD Tryz.prog 16 [eC bt bp] w fun r w'=>(∃ e:Int,r=I e∧(e=0↔kZ T=0))∧Mod (fun _=>False) w w':=by
 have h0:=h;have f0:((0:Int) != 0)=false:=rfl;obtain ⟨⟨aS,cS,rfl⟩,aG,cG,rfl⟩:=ig h;have yI:=hT.gn;refine ak6.calls rfl ?_;unfold Ow eC;refine φ ?_;refine b8 rfl ?_;intro w1 aq ag cL;have gQ:w1.heap[w.heap.size]? = some (.cells [.slice aS T.aC.length cS,.slice aG T.globals.length cG].toArray 25 (0,0)):=aq;have hM:∀ {w':World},Mod (fun _=>False) w w'→dE w' (.slice aS T.aC.length cS) (.slice aG T.globals.length cG) T B:=fun hm=>h0.mod hm (fun _ _ h=>h) (fun _ h=>h)
 have j8:=lL gQ;simp only [go_sem,Nat.reduceAdd,Nat.reduceEqDiff,Nat.reduceLT,Nat.reduceLeDiff,Nat.reduceMul,reduceCtorEq,↓reduceIte,j8];refine δ (by rfl) (alk (hM ag) hT) ?_;rintro _ w2 ⟨rfl,ae⟩;have aY:=ag.trans ae;have an:=ae.at gQ (fun h=>h);cases hg:yF T with
 | true=>
  have e:kZ T=4:=by unfold kZ;rw [if_pos hg]
  rw [e];refine φ ?_;exact ⟨⟨4,rfl,Iff.rfl⟩,aY⟩
 | false=>
 have e0:kZ T=if fi 8 [] (fD T)=false then 172 else if ¬ (T.aC.take 7=fj) then 172 else if fi 24 [] (eV T)=false then 172 else mI T T.globals:=by
  unfold kZ;rw [if_neg (by rw [hg];simp)]
 simp only [go_sem,Nat.reduceAdd,Nat.reduceEqDiff,Nat.reduceLT,Nat.reduceLeDiff,Nat.reduceMul,reduceCtorEq,↓reduceIte,cell_of an];refine δ (by rfl) (alu (hM aY) hT) ?_;rintro _ w3 ⟨⟨e,rfl,he⟩,ab⟩;have du:=aY.trans ab;have aE:=ab.at an (fun h=>h);by_cases iS:e=0
 case neg=>
  have f:(e != 0)=true:=by simpa using iS
  simp only [go_sem,Nat.reduceAdd,Nat.reduceEqDiff,Nat.reduceLT,Nat.reduceLeDiff,Nat.reduceMul,reduceCtorEq,↓reduceIte,f];refine ⟨⟨e,rfl,⟨fun hh=>absurd hh iS,fun hh=>?_⟩⟩,du⟩;rw [e0] at hh;refine absurd (he.2 ?_) iS;by_cases c1:fi 8 [] (fD T)=false
  ·rw [if_pos c1] at hh;exact absurd hh (by decide)
  ·rw [if_neg c1] at hh;by_cases c2:T.aC.take 7=fj
   ·exact ⟨by simpa using c1,c2⟩
   ·rw [if_pos c2] at hh;exact absurd hh (by decide)
 subst iS;obtain ⟨uI,pj⟩:=he.1 rfl;rw [if_neg (by rw [uI];simp),if_neg (fun hh=>hh pj)] at e0;simp only [go_sem,Nat.reduceAdd,Nat.reduceEqDiff,Nat.reduceLT,Nat.reduceLeDiff,Nat.reduceMul,reduceCtorEq,↓reduceIte,f0,cell_of aE];refine δ (by rfl) (als (hM du) hT) ?_;rintro _ w4 ⟨⟨e,rfl,G5⟩,aj⟩;have ey:=du.trans aj;have aJ:=aj.at aE (fun h=>h);by_cases iS:e=0
 case neg=>
  have f:(e != 0)=true:=by simpa using iS
  simp only [go_sem,Nat.reduceAdd,Nat.reduceEqDiff,Nat.reduceLT,Nat.reduceLeDiff,Nat.reduceMul,reduceCtorEq,↓reduceIte,f];refine ⟨⟨e,rfl,⟨fun hh=>absurd hh iS,fun hh=>?_⟩⟩,ey⟩;rw [e0] at hh;refine absurd (G5.2 ?_) iS;by_cases c1:fi 24 [] (eV T)=false
  ·rw [if_pos c1] at hh;exact absurd hh (by decide)
  ·simpa using c1
 subst iS;have uk:=G5.1 rfl;rw [if_neg (by rw [uk];simp)] at e0;obtain ⟨s1,_⟩:=AE _ _ uI;obtain ⟨g1,_⟩:=AE _ _ uk;have fC:∀ s∈T.aC,0≤s.fields∧s.fields≤8:=fun s hs=>(s1 (s.name,s.fields) (List.mem_map.2 ⟨s,hs,rfl⟩)).2.2
 have kf:∀ g∈T.globals,0≤g.arity∧g.arity≤24:=fun g hg=>(g1 (g.name,g.arity) (List.mem_map.2 ⟨g,hg,rfl⟩)).2.2
 have gh:∀ g∈T.globals,g.code.length≤8000:=fun g hgg=>by
  rw [AI,Bool.or_eq_false_iff,List.any_eq_false] at hg;have:=hg.1 g hgg
  simpa using this
 rw [e0];simp only [go_sem,Nat.reduceAdd,Nat.reduceEqDiff,Nat.reduceLT,Nat.reduceLeDiff,Nat.reduceMul,reduceCtorEq,↓reduceIte,f0]
 refine dz (fun z ρ w'=>∃ (i:Nat) (rest:Go.W.Env),z=T.globals.length - i∧i≤T.globals.length∧Mod (fun _=>False) w w'∧w'.heap[w.heap.size]? = some (.cells [.slice aS T.aC.length cS,.slice aG T.globals.length cG].toArray 25 (0,0))∧mI T T.globals=mI T (T.globals.drop i) ∧
  ρ=(1,ptr w.heap.size)::(5,I i)::rest) T.globals.length ⟨0,[],rfl,Nat.zero_le _,ey,aJ,rfl,rfl⟩ ?_
 rintro z ρ w5 ⟨i,rest,rfl,hi,ay,cd,cq,rfl⟩;unfold XY;rcases Nat.lt_or_ge i T.globals.length with ah | hge
 ·obtain ⟨ad,c,cv,e',_,q2,q3,q4,dW⟩:=yB (hM ay) ah;cases e';rw [GA ah] at q2 q3 dW;have wO:=List.getElem_mem ah;have cr:=VK (T:=T) ah;have sr:=alW (T:=T) (g:=T.globals[i]);generalize GL:T.globals[i]=g at *;have e1:decide ((i:Int) < T.globals.length)=true:=by rw [decide_eq_true_eq];omega
  have e2:IntKind.i64.wrap ((i:Int)+1)=((i+1:Nat):Int):=by rw [IntKind.wrap_i64];omega
  have b1:(0:Int)≤i∧(i:Int) < T.globals.length:=by omega
  have Yg:w5.drew.heap[w.heap.size]? = _:=cd;have alY:=lL Yg;have OO:w5.drew.cell? ⟨(ad.add (i*3)).block,(ad.add (i*3)).off+2,none⟩=some cv:=q4;have alZ:w5.cell? ⟨(ad.add (i*3)).block,(ad.add (i*3)).off+2,none⟩=some cv:=q4;have hl5:=lL cd;obtain ⟨kD,ii,al0⟩:=oz dW;subst al0;have hgc:=gh g wO;have bad:∀ k:Int,k≠0→lF T g≠0→(k=0↔mI T T.globals=0):=fun k h1 h2=>by
   rw [cq,cr,if_neg h2];exact ⟨fun hh=>absurd hh h1,fun hh=>absurd hh h2⟩
  simp only [go_sem,Nat.reduceAdd,Nat.reduceEqDiff,Nat.reduceLT,Nat.reduceLeDiff,Nat.reduceMul,reduceCtorEq,↓reduceIte,ak,bh,e1,decide_true,b1,cell_of cd,cell_of Yg,alY,hl5,OO,alZ];refine ao (by rfl) ?_;have hd:Mod (fun _=>False) w w5.drew:=ay.drew;refine (alD (g:=g) (hM hd) (dW.mod (Mod.refl (fun _=>False) w5).drew (fun _ _ h=>h) (fun _ h=>h)) (by omega)).mono ?_;rintro _ w6 ⟨⟨e,rfl,Yh⟩,aH⟩;have gH:=hd.trans aH;have oe:=((Mod.refl (fun _=>False) w5).drew).trans aH;by_cases iS:e=0
  case neg=>
   have f:(e != 0)=true:=by simpa using iS
   simp only [go_sem,Nat.reduceAdd,Nat.reduceEqDiff,Nat.reduceLT,Nat.reduceLeDiff,Nat.reduceMul,reduceCtorEq,↓reduceIte,f];exact ⟨⟨e,rfl,bad e iS (fun hh=>iS (Yh.2 (sr.1 hh).1))⟩,gH⟩
  subst iS;have iu:=Yh.1 rfl;have cO:=oe.at cd (fun h=>h);have Yi:w6.drew.heap[w.heap.size]? = _:=cO;have al1:=lL Yi;have fP:∀ o v,w5.cell? ((ad.add (i*3)).add o)=some v→w6.drew.cell? ((ad.add (i*3)).add o)=some v:=fun o v hv=>oe.cell hv (fun h=>h)
  have DM:cB w6.drew 3 (.pointer (some (ad.add (i*3))))=some (mJ g (.slice kD (g.code.map jb).length ii)):=Gs (fP _ _ q2) (fP _ _ q3) (fP _ _ q4);have OQ:cB w6 3 (.pointer (some (ad.add (i*3))))=some (mJ g (.slice kD (g.code.map jb).length ii)):=DM;have hl6:=lL cO;simp only [go_sem,Nat.reduceAdd,Nat.reduceEqDiff,Nat.reduceLT,Nat.reduceLeDiff,Nat.reduceMul,reduceCtorEq,↓reduceIte,ak,bh,f0,b1,decide_true,hl6,OQ,cell_of cO,cell_of Yi,al1,DM];refine ao (by rfl) ?_;have OX:Mod (fun _=>False) w w6.drew:=gH.drew;refine (alL (g:=g) (hM OX) (dW.mod oe.drew (fun _ _ h=>h) (fun _ h=>h)) (fun b hb=>by have:=jL b hb;have:=OX.size;omega) fC (kf g wO) hgc iu.2 (hT.xa g wO) iu.1).mono ?_;rintro _ w7 ⟨⟨v,e,rfl,Yj⟩,aZ⟩;have gI:=OX.trans aZ;by_cases iS:e=0
  case neg=>
   have f:(e != 0)=true:=by simpa using iS
   simp only [go_sem,Nat.reduceAdd,Nat.reduceEqDiff,Nat.reduceLT,Nat.reduceLeDiff,Nat.reduceMul,reduceCtorEq,↓reduceIte,f];exact ⟨⟨e,rfl,bad e iS (fun hh=>iS (Yj.2 (sr.1 hh).2))⟩,gI⟩
  subst iS;have f:((0:Int) != 0)=false:=rfl;simp only [go_sem,Nat.reduceAdd,Nat.reduceEqDiff,Nat.reduceLT,Nat.reduceLeDiff,Nat.reduceMul,reduceCtorEq,↓reduceIte,f,e2];refine ⟨_,?_,i+1,_,rfl,by omega,gI,(oe.drew.trans aZ).at cd (fun h=>h),by rw [cq,cr,if_pos (sr.2 ⟨iu,Yj.1 rfl⟩)],rfl⟩;omega
 ·obtain rfl:i=T.globals.length:=by omega
  have e1:decide (((T.globals.length:Nat):Int) < T.globals.length)=false:=by simp
  rw [List.drop_length] at cq;have cq:mI T T.globals=0:=cq;simp only [go_sem,Nat.reduceAdd,Nat.reduceEqDiff,Nat.reduceLT,Nat.reduceLeDiff,Nat.reduceMul,reduceCtorEq,↓reduceIte,e1,cell_of cd];refine ⟨⟨0,rfl,?_⟩,ay⟩;rw [cq]
end
end
section
open Go Go.W
structure Vl where
 cX:Bool
 aQ:ByteArray
 num:Int
 fields:List Nat
section
variable {f:fV} {items:List It}
end
end
section
open Go Go.W
inductive Rt where
 | text (s:ByteArray) | full (a:Nat) | arg (a:Nat) | rest (a:Nat)
section
variable (itoa:Int→ByteArray)
def pl:List Td→List Nat→List Rt
 | [],_=>[]
 | .text s::r,ws=>.text s::pl r ws
 | .val::r,ws=>.full (ws.headD 0)::pl r ws.tail
 | .arg::r,ws=>.arg (ws.headD 0)::pl r ws.tail
 | .rest::r,ws=>.rest (ws.headD 0)::pl r ws.tail
end
section
variable {itoa:Int→ByteArray} {all:List Vl}
end
end
section
open Go Go.W
section
variable {itoa:Int→ByteArray} {f:fV} {items:List It}
end
end
section
open Go Go.W
section
variable {itoa:Int→ByteArray} {f:fV} {items:List It} {all:List Vl}
end
end
section
open Go Go.W
section
variable {itoa:Int→ByteArray} {f:fV} {items:List It}
end
end
section
open Go Go.W Go.RowKit
section
variable {w:World} {vI vS:Value} {items:List It} {aC:List kz} {B:Nat→Prop}
end
end
section
open Go Go.W Go.RowKit
section
variable {lo:Nat} {w w':World} {va:Value} {all:List Vl} {yW:List Value} {fA:Option Nat} {X:Nat→Prop}
end
end
section
open Go Go.W Go.RowKit
section
variable {lo D:Nat} {w w1:World} {x:It} {all:List Vl} {vw va vF:Value} {ws:List Nat} {fW fA fF:Option Nat} {yW:List Value}
end
end
section
open Go Go.W Go.RowKit
section
variable {lo D:Nat} {w w1:World} {x:It} {all:List Vl} {vw va vF:Value} {ws:List Nat} {fW fA fF:Option Nat} {yW:List Value}
end
end
section
open Go Go.W Go.RowKit
section
variable {w:World} {vI vS:Value} {items:List It} {aC:List kz}
end
end
section
open Go Go.W Go.RowKit
section
variable {lo:Nat} {w:World} {va:Value} {all:List Vl} {yW:List Value} {fA:Option Nat} {X:Nat→Prop}
end
end
section
open Go Go.W Go.RowKit
section
variable {lo:Nat} {w:World} {va:Value} {all:List Vl} {yW:List Value} {fA:Option Nat} {X:Nat→Prop}
end
end
section
open Go Go.W Go.RowKit
section
variable {lo:Nat} {w:World} {va:Value} {all:List Vl} {yW:List Value} {fA:Option Nat} {X:Nat→Prop}
end
end
section
open Go Go.W Go.RowKit
section
variable {lo:Nat} {w:World} {va:Value} {all:List Vl} {yW:List Value} {fA:Option Nat} {X:Nat→Prop}
end
end
section
open Go Go.W Go.RowKit
section
variable {lo:Nat} {w:World} {va:Value} {all:List Vl} {yW:List Value} {fA:Option Nat} {X:Nat→Prop}
end
end
section
open Go Go.W Go.RowKit
section
variable {w:World} {v1 v2:Value} {items:List It} {B B':Nat→Prop}
theorem Yk (h:dB w v1 2 (items.map fe) B) {k:Nat} {x:It} (U:items[k]? = some x):∃ ad c,v1 = .slice (some ad) items.length c∧cB w 2 (.pointer (some (ad.add (k*2))))=some (.agg #[.string x.aQ,I x.num]):=by
 obtain ⟨hl,rfl⟩:=List.getElem?_eq_some_iff.1 U;obtain ⟨a,c,h1,h3,h2⟩:=h;obtain ⟨ad,rfl,_,h4⟩:=h2 k (by simpa using hl);refine ⟨ad,c,by simpa using h1,uC ?_ ?_⟩
 ·have:=h4 0 (by simp [fe])
  simpa [fe] using this
 ·simpa [fe] using h4 1 (by simp [fe])
theorem Yl (h1:dB w v1 2 (items.map fe) B) (h2:dB w v2 2 (items.map fe) B') (hl:items.length≤4294967296):aD Tryz.prog 15 [v1,v2] w fun r w'=>r = .bool true∧Mod (fun _=>False) w w':=by
 obtain ⟨a1,c1,e1⟩:∃ a c,v1 = .slice a items.length c:=by
  obtain ⟨a,c,h,_⟩:=h1;exact ⟨a,c,by simpa using h⟩
 obtain ⟨a2,c2,e2⟩:∃ a c,v2 = .slice a items.length c:=by
  obtain ⟨a,c,h,_⟩:=h2;exact ⟨a,c,by simpa using h⟩
 subst e1 e2;refine ahZ.calls rfl ?_;unfold MK;have b0:((items.length:Int) != (items.length:Int))=false:=by simp
 simp only [go_sem,simprocAttr,b0];refine dz (fun z ρ w'=>∃ i:Nat,z=items.length - i∧i≤items.length∧Mod (fun _=>False) w w'∧ρ=[(0,.slice a1 items.length c1),(1,.slice a2 items.length c2),(5,I i)]) items.length ⟨0,rfl,Nat.zero_le _,Mod.refl _ _,rfl⟩ ?_;rintro z ρ w1 ⟨i,rfl,hi,hm,rfl⟩;unfold VM;rcases Nat.lt_or_ge i items.length with ah | hge
 ·obtain ⟨x,U⟩:∃ x,items[i]? = some x:=⟨_,List.getElem?_eq_getElem ah⟩;obtain ⟨ad,c,uO,q1⟩:=Yk (h1.mod hm (fun _ _ h=>h) (fun _ h=>h)) U;obtain ⟨mR,c',al2,q2⟩:=Yk (h2.mod hm (fun _ _ h=>h) (fun _ h=>h)) U;cases uO;cases al2;have e1:decide ((i:Int) < items.length)=true:=by rw [decide_eq_true_eq];omega
  have e2:IntKind.i64.wrap ((i:Int)+1)=((i+1:Nat):Int):=by rw [IntKind.wrap_i64];omega
  have e3:(0:Int)≤i∧(i:Int) < items.length:=by omega
  have yU:cB w1.drew 2 (.pointer (some (ad.add (i*2))))=some (.agg #[.string x.aQ,I x.num]):=q1;have yV:cB w1.drew 2 (.pointer (some (mR.add (i*2))))=some (.agg #[.string x.aQ,I x.num]):=q2;simp only [go_sem,simprocAttr,e1,e3,decide_true,Int.toNat_natCast,q1,q2,yU,yV,nP,cm,beq_self_eq_true,Bool.not_true,e2];exact ⟨_,by omega,i+1,rfl,by omega,hm.drew,rfl⟩
 ·obtain rfl:i=items.length:=by omega
  have e1:decide (((items.length:Nat):Int) < items.length)=false:=by simp
  simp only [go_sem,simprocAttr,e1];exact hm
end
end
end Go.Proofs.YtnjobkbblhaliaaGreatDoor
namespace Go.W
section
open Go
section
variable {P:Program} {w:World} {ρ:Env} {K:Value→World→Prop} {d:Option Nat} {ty:TypeId} {pos:String} {af:Array Edge}
end
end
end Go.W
namespace Go.Proofs.YtnjobkbblhaliaaGreatDoor
section
open Go Go.W
section
variable {itoa:Int→ByteArray} {f:fV} {items:List It} {all:List Vl}
end
end
section
open Go Go.W
section
variable {itoa:Int→ByteArray} {f:fV} {items:List It} {all:List Vl}
end
end
section
open Go Go.W Go.RowKit
section
variable {w:World} {v:Value} {st:List Rt} {fp:Option Nat}
end
end
section
open Go Go.W Go.RowKit
section
variable {w:World} {vI vS:Value} {items:List It} {aC:List kz}
end
end
end Go.Proofs.YtnjobkbblhaliaaGreatDoor
section
namespace Go.W
open Go
section
variable {P:Program} {w:World} {ρ:Env} {K:Value→World→Prop}
theorem ax.pre {T sz n k c:Nat} {a:Option Addr} {xs ys:List Value} {fp:Option Nat} (h:ax w T sz (.slice a n c) (xs++ys) n fp) (U:xs.length=k*sz) (hk:k≤n):ax w T sz (.slice a k c) xs k fp:=by
 rcases h.2 with ⟨e,h0,hf⟩ | ⟨b,c',cN,e,hf,h3,h4,h5⟩
 ·cases e;have:k=0:=by omega
  subst this;exact ⟨U,.inl ⟨rfl,rfl,hf⟩⟩
 ·cases e;exact ⟨U,.inr ⟨b,c,ys++cN,rfl,hf,by rw [h3,List.append_assoc],by rw [← List.append_assoc];exact h4,by omega⟩⟩
end
end Go.W
namespace Go.Proofs.YtnjobkbblhaliaaGreatDoor
open Go Go.W Go.RowKit
theorem al3 (l:List It):((l.map fe).flatMap id).length=l.length*2:=by
 induction l with
 | nil=>rfl
 | cons x l ih=>rw [List.map_cons,List.flatMap_cons,List.length_append,ih,List.length_cons];show 2+_=_;omega
end Go.Proofs.YtnjobkbblhaliaaGreatDoor
end
namespace Go.Proofs.YtnjobkbblhaliaaGreatDoor
section
open Go Go.W
def uT (fuel:Int):Int:=if fuel > 20000∧fuel≤16777216 then 20000 else fuel
def uU (heap:Int):Int:=if heap > 20000∧heap≤1048576 then 20000 else heap
theorem al4 {w:World} {heap every fuel:Int} {bj:Bool}:aD Tryz.prog 9 [nM heap bj every,I fuel] w fun r w'=>r = .tuple #[nM (uU heap) bj every,I (uT fuel)]∧Mod (fun _=>False) w w':=by
 refine ahV.calls rfl ?_;unfold MF nM;refine φ ?_;refine b8 rfl ?_;intro w1 aq ag cL;have gQ:w1.heap[w.heap.size]? = some (.cells [I heap,.bool bj,I every].toArray 28 (0,0)):=aq;refine φ ?_;refine de ?_;intro w2 an ae dh;have gG:w2.heap[w1.heap.size]? = some (.cells [I 0,.bool false,I 0].toArray 28 (0,0)):=an;have a7:=ae.at gQ (fun h=>h);have aY:=ag.trans ae;have l1:=lt_of_heap a7;refine φ ?_;have cF:(decide (fuel > 20000)=false∧uT fuel=fuel)∨(decide (fuel > 20000)=true∧decide (fuel≤16777216)=false∧uT fuel=fuel)∨(decide (fuel > 20000)=true∧decide (fuel≤16777216)=true∧uT fuel=20000):=by
  unfold uT;by_cases h1:fuel > 20000<;>by_cases h2:fuel≤16777216<;>simp [h1,h2]
 have cH:(decide (heap > 20000)=false∧uU heap=heap)∨(decide (heap > 20000)=true∧decide (heap≤1048576)=false∧uU heap=heap)∨(decide (heap > 20000)=true∧decide (heap≤1048576)=true∧uU heap=20000):=by
  unfold uU;by_cases h1:heap > 20000<;>by_cases h2:heap≤1048576<;>simp [h1,h2]
 have fin:∀ w3,(w3.heap[w.heap.size]? = some (.cells [I (uU heap),.bool bj,I every].toArray 28 (0,0)))→Mod (fun b=>b=w.heap.size) w2 w3→cB w3 3 (.pointer (some ⟨w.heap.size,0,none⟩))=some (.agg #[I (uU heap),.bool bj,I every])∧w3.heap[w1.heap.size]? = some (.cells [I 0,.bool false,I 0].toArray 28 (0,0))∧Mod (fun _=>False) w w3:=fun w3 h1 h2=>⟨kG h1,h2.at gG (fun e=>by omega),aY.step h2 (fun b hb hl=>by omega)⟩
 have one:∀ (h:Int),∀ u∈[I h,Value.bool bj,I every],u.oneCell'=true:=by
  intro h u hu;simp only [List.mem_cons,List.not_mem_nil,or_false] at hu;rcases hu with rfl | rfl | rfl<;>rfl
 rcases cF with ⟨f1,f2⟩ | ⟨f1,f3,f2⟩ | ⟨f1,f3,f2⟩
 ·rcases cH with ⟨k1,k2⟩ | ⟨k1,k3,k2⟩ | ⟨k1,k3,k2⟩
  ·obtain ⟨q1,q2,q3⟩:=fin w2 (by rw [k2];exact a7) (Mod.refl _ _);rw [f2,k2] at *;simp only [go_sem,Nat.reduceAdd,Nat.reduceEqDiff,Nat.reduceLT,Nat.reduceLeDiff,Nat.reduceMul,reduceCtorEq,↓reduceIte,f1,k1,cell_of a7,ptr,q1];refine cu (vs:=[I heap,.bool bj,I every]) rfl rfl q2 rfl rfl (one _) ?_;intro w3 aE ab _;have lA:=kG aE;simp only [go_sem,Nat.reduceAdd,Nat.reduceEqDiff,Nat.reduceLT,Nat.reduceLeDiff,Nat.reduceMul,reduceCtorEq,↓reduceIte,cell_of aE,lA];exact q3.step ab (fun b hb hl=>by have:=ag.size;omega)
  ·obtain ⟨q1,q2,q3⟩:=fin w2 (by rw [k2];exact a7) (Mod.refl _ _);rw [f2,k2] at *;simp only [go_sem,Nat.reduceAdd,Nat.reduceEqDiff,Nat.reduceLT,Nat.reduceLeDiff,Nat.reduceMul,reduceCtorEq,↓reduceIte,f1,k1,k3,cell_of a7,ptr,q1];refine cu (vs:=[I heap,.bool bj,I every]) rfl rfl q2 rfl rfl (one _) ?_;intro w3 aE ab _;have lA:=kG aE;simp only [go_sem,Nat.reduceAdd,Nat.reduceEqDiff,Nat.reduceLT,Nat.reduceLeDiff,Nat.reduceMul,reduceCtorEq,↓reduceIte,cell_of aE,lA];exact q3.step ab (fun b hb hl=>by have:=ag.size;omega)
  ·rw [f2];simp only [go_sem,Nat.reduceAdd,Nat.reduceEqDiff,Nat.reduceLT,Nat.reduceLeDiff,Nat.reduceMul,reduceCtorEq,↓reduceIte,f1,k1,k3,cell_of a7,ptr];refine bL (off:=0) rfl rfl a7 rfl (by simp) ?_;intro w3 aE ab _;obtain ⟨q1,q2,q3⟩:=fin w3 (by rw [k2];exact aE) ab;rw [k2] at *;simp only [go_sem,Nat.reduceAdd,Nat.reduceEqDiff,Nat.reduceLT,Nat.reduceLeDiff,Nat.reduceMul,reduceCtorEq,↓reduceIte,q1];refine cu (vs:=[I 20000,.bool bj,I every]) rfl rfl q2 rfl rfl (one _) ?_;intro w4 aJ aj _;have pE:=kG aJ;simp only [go_sem,Nat.reduceAdd,Nat.reduceEqDiff,Nat.reduceLT,Nat.reduceLeDiff,Nat.reduceMul,reduceCtorEq,↓reduceIte,cell_of aJ,pE];exact q3.step aj (fun b hb hl=>by have:=ag.size;omega)
 ·rcases cH with ⟨k1,k2⟩ | ⟨k1,k3,k2⟩ | ⟨k1,k3,k2⟩
  ·obtain ⟨q1,q2,q3⟩:=fin w2 (by rw [k2];exact a7) (Mod.refl _ _);rw [f2,k2] at *;simp only [go_sem,Nat.reduceAdd,Nat.reduceEqDiff,Nat.reduceLT,Nat.reduceLeDiff,Nat.reduceMul,reduceCtorEq,↓reduceIte,f1,f3,k1,cell_of a7,ptr,q1];refine cu (vs:=[I heap,.bool bj,I every]) rfl rfl q2 rfl rfl (one _) ?_;intro w3 aE ab _;have lA:=kG aE;simp only [go_sem,Nat.reduceAdd,Nat.reduceEqDiff,Nat.reduceLT,Nat.reduceLeDiff,Nat.reduceMul,reduceCtorEq,↓reduceIte,cell_of aE,lA];exact q3.step ab (fun b hb hl=>by have:=ag.size;omega)
  ·obtain ⟨q1,q2,q3⟩:=fin w2 (by rw [k2];exact a7) (Mod.refl _ _);rw [f2,k2] at *;simp only [go_sem,Nat.reduceAdd,Nat.reduceEqDiff,Nat.reduceLT,Nat.reduceLeDiff,Nat.reduceMul,reduceCtorEq,↓reduceIte,f1,f3,k1,k3,cell_of a7,ptr,q1];refine cu (vs:=[I heap,.bool bj,I every]) rfl rfl q2 rfl rfl (one _) ?_;intro w3 aE ab _;have lA:=kG aE;simp only [go_sem,Nat.reduceAdd,Nat.reduceEqDiff,Nat.reduceLT,Nat.reduceLeDiff,Nat.reduceMul,reduceCtorEq,↓reduceIte,cell_of aE,lA];exact q3.step ab (fun b hb hl=>by have:=ag.size;omega)
  ·rw [f2];simp only [go_sem,Nat.reduceAdd,Nat.reduceEqDiff,Nat.reduceLT,Nat.reduceLeDiff,Nat.reduceMul,reduceCtorEq,↓reduceIte,f1,f3,k1,k3,cell_of a7,ptr];refine bL (off:=0) rfl rfl a7 rfl (by simp) ?_;intro w3 aE ab _;obtain ⟨q1,q2,q3⟩:=fin w3 (by rw [k2];exact aE) ab;rw [k2] at *;simp only [go_sem,Nat.reduceAdd,Nat.reduceEqDiff,Nat.reduceLT,Nat.reduceLeDiff,Nat.reduceMul,reduceCtorEq,↓reduceIte,q1];refine cu (vs:=[I 20000,.bool bj,I every]) rfl rfl q2 rfl rfl (one _) ?_;intro w4 aJ aj _;have pE:=kG aJ;simp only [go_sem,Nat.reduceAdd,Nat.reduceEqDiff,Nat.reduceLT,Nat.reduceLeDiff,Nat.reduceMul,reduceCtorEq,↓reduceIte,cell_of aJ,pE];exact q3.step aj (fun b hb hl=>by have:=ag.size;omega)
 ·rcases cH with ⟨k1,k2⟩ | ⟨k1,k3,k2⟩ | ⟨k1,k3,k2⟩
  ·obtain ⟨q1,q2,q3⟩:=fin w2 (by rw [k2];exact a7) (Mod.refl _ _);rw [f2,k2] at *;simp only [go_sem,Nat.reduceAdd,Nat.reduceEqDiff,Nat.reduceLT,Nat.reduceLeDiff,Nat.reduceMul,reduceCtorEq,↓reduceIte,f1,f3,k1,cell_of a7,ptr,q1];refine cu (vs:=[I heap,.bool bj,I every]) rfl rfl q2 rfl rfl (one _) ?_;intro w3 aE ab _;have lA:=kG aE;simp only [go_sem,Nat.reduceAdd,Nat.reduceEqDiff,Nat.reduceLT,Nat.reduceLeDiff,Nat.reduceMul,reduceCtorEq,↓reduceIte,cell_of aE,lA];exact q3.step ab (fun b hb hl=>by have:=ag.size;omega)
  ·obtain ⟨q1,q2,q3⟩:=fin w2 (by rw [k2];exact a7) (Mod.refl _ _);rw [f2,k2] at *;simp only [go_sem,Nat.reduceAdd,Nat.reduceEqDiff,Nat.reduceLT,Nat.reduceLeDiff,Nat.reduceMul,reduceCtorEq,↓reduceIte,f1,f3,k1,k3,cell_of a7,ptr,q1];refine cu (vs:=[I heap,.bool bj,I every]) rfl rfl q2 rfl rfl (one _) ?_;intro w3 aE ab _;have lA:=kG aE;simp only [go_sem,Nat.reduceAdd,Nat.reduceEqDiff,Nat.reduceLT,Nat.reduceLeDiff,Nat.reduceMul,reduceCtorEq,↓reduceIte,cell_of aE,lA];exact q3.step ab (fun b hb hl=>by have:=ag.size;omega)
  ·rw [f2];simp only [go_sem,Nat.reduceAdd,Nat.reduceEqDiff,Nat.reduceLT,Nat.reduceLeDiff,Nat.reduceMul,reduceCtorEq,↓reduceIte,f1,f3,k1,k3,cell_of a7,ptr];refine bL (off:=0) rfl rfl a7 rfl (by simp) ?_;intro w3 aE ab _;obtain ⟨q1,q2,q3⟩:=fin w3 (by rw [k2];exact aE) ab;rw [k2] at *;simp only [go_sem,Nat.reduceAdd,Nat.reduceEqDiff,Nat.reduceLT,Nat.reduceLeDiff,Nat.reduceMul,reduceCtorEq,↓reduceIte,q1];refine cu (vs:=[I 20000,.bool bj,I every]) rfl rfl q2 rfl rfl (one _) ?_;intro w4 aJ aj _;have pE:=kG aJ;simp only [go_sem,Nat.reduceAdd,Nat.reduceEqDiff,Nat.reduceLT,Nat.reduceLeDiff,Nat.reduceMul,reduceCtorEq,↓reduceIte,cell_of aJ,pE];exact q3.step aj (fun b hb hl=>by have:=ag.size;omega)
theorem OY {w:World} {T:Nat} {v:Value} {l:List It} {fp:Option Nat} (h:ax w T 2 v (l.flatMap fe) l.length fp):dB w v 2 (l.map fe) (fun b=>fp=some b):=
 sR (T:=T) (rows:=l.map fe) (by rw [List.length_map,List.flatMap_map];exact h) (fun r hr=>by obtain ⟨x,_,rfl⟩:=List.mem_map.1 hr;rfl)
theorem al5 {w:World} {v v':Value} {k st n:Int} {l:List It} {B B':Nat→Prop} (h1:dB w v 2 (l.map fe) B) (h2:dB w v' 2 (l.map fe) B') (hl:l.length≤4294967296) :
   aD Tryz.prog 12 [uJ k v st n,uJ k v' st n] w fun r w'=>r = .bool true∧Mod (fun _=>False) w w':=by
 refine ahX.calls rfl ?_;unfold MH uJ;refine φ ?_;refine b8 rfl ?_;intro w1 aq ag cL;have gQ:w1.heap[w.heap.size]? = some (.cells [I k,v,I st,I n,I 0,I 0,I 0,.string ⟨#[]⟩].toArray 37 (0,0)):=aq;refine φ ?_;refine b8 rfl ?_;intro w2 an ae dh;have gG:w2.heap[w1.heap.size]? = some (.cells [I k,v',I st,I n,I 0,I 0,I 0,.string ⟨#[]⟩].toArray 37 (0,0)):=an;have a7:=ae.at gQ (fun h=>h);have aY:=ag.trans ae;simp only [go_sem,Nat.reduceAdd,Nat.reduceEqDiff,Nat.reduceLT,Nat.reduceLeDiff,Nat.reduceMul,reduceCtorEq,↓reduceIte,cell_of a7,cell_of gG];refine δ (by rfl) (Yl (h1.mod aY (fun _ _ h=>h) (fun _ h=>h)) (h2.mod aY (fun _ _ h=>h) (fun _ h=>h)) hl) ?_;rintro _ w3 ⟨rfl,ab⟩;have eS:=ab.at a7 (fun h=>h);have nF:=ab.at gG (fun h=>h);have l1:cB w3 4 (.pointer (some ⟨w.heap.size,4,none⟩))=some (.agg #[I 0,I 0,I 0,.string ⟨#[]⟩]):=by
  have hh:=cell_of eS;have h4:=hh 4;have h5:=hh 5;have h6:=hh 6;have h7:=hh 7;simp at h4 h5 h6 h7;simp [cB,jC,Addr.add_lit,h4,h5,h6,h7]
 have l2:cB w3 4 (.pointer (some ⟨w1.heap.size,4,none⟩))=some (.agg #[I 0,I 0,I 0,.string ⟨#[]⟩]):=by
  have hh:=cell_of nF;have h4:=hh 4;have h5:=hh 5;have h6:=hh 6;have h7:=hh 7;simp at h4 h5 h6 h7;simp [cB,jC,Addr.add_lit,h4,h5,h6,h7]
 simp only [go_sem,Nat.reduceAdd,Nat.reduceEqDiff,Nat.reduceLT,Nat.reduceLeDiff,Nat.reduceMul,reduceCtorEq,↓reduceIte,cell_of eS,cell_of nF,l1,l2,cm,beq_self_eq_true,decide_true,Bool.and_self];exact aY.trans ab
end
section
open Go Go.W
theorem al6 (a:Int):0≤IntKind.i64.wrap ((BitVec.ofInt 64 a &&& BitVec.ofInt 64 4095).toNat:Int)∧IntKind.i64.wrap ((BitVec.ofInt 64 a &&& BitVec.ofInt 64 4095).toNat:Int)≤4095:=by
 have h:(BitVec.ofInt 64 a &&& BitVec.ofInt 64 4095).toNat≤4095:=by
  rw [BitVec.toNat_and];exact Nat.le_trans Nat.and_le_right (by decide)
 rw [IntKind.wrap_i64];omega
theorem Ym {T:bl} {entry:ByteArray} {input:List Int} {heap every fuel:Int} (h:gL T entry input heap every fuel=0):input.length≤10000∧(0≤fuel∧fuel≤16777216)∧jA T entry input heap every=0:=by
 unfold gL at h
 split at h
 ·cases h
 split at h
 ·cases h
 split at h
 ·cases h
 ·exact ⟨by omega,by omega,h⟩
theorem al7 {T:bl} {entry:ByteArray} {input:List Int} {heap every fuel OZ:Int} (h:gL T entry input heap every fuel=0) (hf:0≤OZ∧OZ≤16777216):gL T entry input heap every OZ=0:=by
 obtain ⟨h1,h2,h3⟩:=Ym h;unfold gL;rw [if_neg (by omega),if_neg (by omega),if_neg (by rw [h3];decide)];exact h3
theorem al8 (fuel:Int):uT fuel≤20000∨uT fuel > 16777216:=by
 unfold uT
 split<;>omega
theorem al9:∀ u∈[I 0,Value.slice none 0 0,I 0,I 0,I 0,I 0,I 0,.string ⟨#[]⟩],u.oneCell'=true:=by
 intro u hu;simp only [List.mem_cons,List.not_mem_nil,or_false] at hu;rcases hu with rfl | rfl | rfl | rfl | rfl | rfl | rfl | rfl<;>rfl
section
variable {w:World} {bt bp jv:Value} {T:bl} {B:Nat→Prop} {entry:ByteArray} {input:List Int} {heap every raw more:Int} {bj:Bool}
set_option maxHeartbeats 4000000 in
theorem al' (h:dE w bt bp T B) (hT:lg T) (jL:∀ b,B b→b < w.heap.size) (cK:Ints w jv input) (ht:oG w.heap.size w) :
   aD Tryz.prog 6 [eC bt bp,.string entry,jv,nM heap bj every,I raw,I more] w fun r w'=>r = .bool true∧Mod (fun _=>False) w w':=by
 have h0:=h;have wW:=cK;obtain ⟨⟨aS,cS,rfl⟩,aG,cG,rfl⟩:=ig h;obtain ⟨aI,cI,rfl,G3,_⟩:=cK;have hM:∀ {w':World},Mod (fun _=>False) w w'→dE w' (.slice aS T.aC.length cS) (.slice aG T.globals.length cG) T B:=fun hm=>h0.mod hm (fun _ _ h=>h) (fun _ h=>h)
 have hI:∀ {w':World},Mod (fun _=>False) w w'→Ints w' (.slice aI input.length cI) input:=fun hm=>wW.mod hm (fun _ _ h=>h)
 have zD:∀ {w':World},Mod (fun _=>False) w w'→∀ b,B b→b < w'.heap.size:=fun hm b hb=>by have:=jL b hb;have:=hm.size;omega
 refine ahT.calls rfl ?_;unfold MD eC nM;refine φ ?_;refine b8 rfl ?_;intro w1 aq ag cL;have gQ:w1.heap[w.heap.size]? = some (.cells [.slice aS T.aC.length cS,.slice aG T.globals.length cG].toArray 25 (0,0)):=aq;refine φ ?_;refine b8 rfl ?_;intro w2 an ae dh;have gG:w2.heap[w1.heap.size]? = some (.cells [I heap,.bool bj,I every].toArray 28 (0,0)):=an;have a7:=ae.at gQ (fun h=>h);have aY:=ag.trans ae;refine φ ?_;refine δ (by rfl) (akV (XR ht aY)) ?_;rintro _ w3 ⟨rfl,ab⟩;have lA:=kG (ab.at gG (fun h=>h));simp only [go_sem,Nat.reduceAdd,Nat.reduceEqDiff,Nat.reduceLT,Nat.reduceLeDiff,Nat.reduceMul,reduceCtorEq,↓reduceIte,lA];refine δ (by rfl) (al4 (heap:=heap) (bj:=bj) (every:=every) (fuel:=raw)) ?_;rintro _ w4 ⟨rfl,aj⟩;unfold nM;refine φ ?_;refine de ?_;intro w5 cd ay iq;have Ex:w5.heap[w4.heap.size]? = some (.cells [I 0,.bool false,I 0].toArray 28 (0,0)):=cd;refine cu (vs:=[I (uU heap),.bool bj,I every]) rfl rfl Ex rfl rfl (by intro u hu;simp only [List.mem_cons,List.not_mem_nil,or_false] at hu;rcases hu with rfl | rfl | rfl<;>rfl) ?_;intro w6 cO aH mV;have ama:Mod (fun _=>False) w4 w6:=ay.step aH (fun b hb hl=>by omega);have tP:=(ab.trans aj).trans ama;have gH:=aY.trans tP;have sx:=tP.at a7 (fun h=>h);have amb:=lL sx;simp only [go_sem,Nat.reduceAdd,Nat.reduceEqDiff,Nat.reduceLT,Nat.reduceLeDiff,Nat.reduceMul,reduceCtorEq,↓reduceIte,amb];refine δ (by rfl) (alX (hM gH) hT (zD gH)) ?_;rintro _ w7 ⟨⟨e,rfl,he⟩,aZ⟩;have gI:=gH.trans aZ;have qb:=aZ.at sx (fun h=>h);have O0:=aZ.at cO (fun h=>h);have amc:=lL qb;have Yn:=kG O0;obtain ⟨hp,hhp⟩:∃ x,uU heap=x:=⟨_,rfl⟩;obtain ⟨fu,EZ⟩:∃ x,uT raw=x:=⟨_,rfl⟩;have uq:=al8 raw;rw [hhp] at Yn O0;rw [EZ] at uq ⊢;simp only [go_sem,Nat.reduceAdd,Nat.reduceEqDiff,Nat.reduceLT,Nat.reduceLeDiff,Nat.reduceMul,reduceCtorEq,↓reduceIte,amc,Yn];refine δ (by rfl) (Ov (entry:=entry) (input:=input) (heap:=hp) (bj:=bj) (every:=every) (fuel:=fu) (hM gI) hT (zD gI) (hI gI) (by omega)) ?_;rintro r w8 ⟨bY,fm,Hq⟩;have rM:=gI.trans bY;by_cases hE:gL T entry input hp every fu=0
 case neg=>
  rw [fm hE];generalize gL T entry input hp every fu=E at *;unfold uJ;refine φ ?_;refine de ?_;intro w9 kn dq zN;refine cu (cs:=[I 0,.slice none 0 0,I 0,I 0,I 0,I 0,I 0,.string ⟨#[]⟩]) rfl rfl kn rfl rfl al9 ?_;intro wa O2 tU lu;have DP:Mod (fun _=>False) w8 wa:=dq.step tU (fun b hb hl=>by omega);have f:(E != 0)=true:=by simpa using hE
  have Hu:wa.heap[w8.heap.size]? = some (.cells [I 0,.slice none 0 0,I 0,I 0,I 0,I 0,I 0,.string ⟨#[]⟩].toArray 37 (0,0)):=O2;have z0:(((0:Nat):Int) == 0)=true:=rfl;have uV:=rM.trans DP;by_cases iS:e=0
  ·have g1:(e == 0)=true:=by rw [iS];rfl
   simp only [go_sem,Nat.reduceAdd,Nat.reduceEqDiff,Nat.reduceLT,Nat.reduceLeDiff,Nat.reduceMul,reduceCtorEq,↓reduceIte,f,g1,z0,cell_of Hu,Bool.not_true]
   first | exact ⟨rfl,uV⟩ | exact uV
  ·have g1:(e == 0)=false:=beq_false_of_ne iS;simp only [go_sem,Nat.reduceAdd,Nat.reduceEqDiff,Nat.reduceLT,Nat.reduceLeDiff,Nat.reduceMul,reduceCtorEq,↓reduceIte,f,g1,z0,cell_of Hu,Bool.not_true]
   first | exact ⟨rfl,uV⟩ | exact uV
 obtain ⟨v,rfl,hv⟩:=Hq hE;obtain ⟨eK,bC,C4⟩:=Ym hE;have amd:kZ T=0:=(Ot C4).XH;have iS:=he.2 amd;subst iS;obtain ⟨M,DQ⟩:∃ M,fO T entry input hp bj every=M:=⟨_,rfl⟩;have ame:M.steps=0:=by rw [← DQ];exact XL
 have amf:M.ended≠4:=by rw [← DQ];exact ak4
 rw [DQ] at hv ⊢;obtain ⟨A,hA⟩:∃ A,M.cC fu.toNat=A:=⟨_,rfl⟩;rw [hA] at hv ⊢;unfold uJ;refine φ ?_;refine de ?_;intro w9 kn dq zN;refine cu (cs:=[I 0,.slice none 0 0,I 0,I 0,I 0,I 0,I 0,.string ⟨#[]⟩]) rfl rfl kn rfl rfl (Hk hv _ _ _) ?_;intro wa O2 tU lu;have DP:Mod (fun _=>False) w8 wa:=dq.step tU (fun b hb hl=>by omega);have uV:=rM.trans DP;have Hu:wa.heap[w8.heap.size]? = some (.cells [I (nL A),v,I A.stuck,I A.steps,I 0,I 0,I 0,.string ⟨#[]⟩].toArray 37 (0,0)):=O2;have f0:((0:Int) != 0)=false:=rfl;have f1:decide (fu < 0)=false:=by rw [decide_eq_false_iff_not];omega
 have Yo:=bY.trans DP;have amg:=lL (Yo.at qb (fun h=>h));have amh:=kG (Yo.at O0 (fun h=>h));simp only [go_sem,Nat.reduceAdd,Nat.reduceEqDiff,Nat.reduceLT,Nat.reduceLeDiff,Nat.reduceMul,reduceCtorEq,↓reduceIte,Bool.not_true,f0,f1,amg,amh];generalize hg:IntKind.i64.wrap (Nat.cast _)=m;have Bf:0≤m∧m≤4095:=by rw [← hg];exact al6 more
 have ami:fu+m≤400000:=by omega
 have e1:IntKind.i64.wrap (fu+m)=fu+m:=by rw [IntKind.wrap_i64];omega
 simp only [go_sem,Nat.reduceAdd,Nat.reduceEqDiff,Nat.reduceLT,Nat.reduceLeDiff,Nat.reduceMul,reduceCtorEq,↓reduceIte,e1];refine δ (by rfl) (Ov (entry:=entry) (input:=input) (heap:=hp) (bj:=bj) (every:=every) (fuel:=fu+m) (hM uV) hT (zD uV) (hI uV) (.inl ami)) ?_;rintro r wb ⟨OU,_,amj⟩;obtain ⟨v2,rfl,fK⟩:=amj (al7 hE (by omega));rw [DQ,show (fu+m).toNat=fu.toNat+m.toNat by omega] at fK ⊢;have Hv:=ak3 ame amf fu.toNat m.toNat;rw [hA] at Hv;have hGd:Good 0 M:=by rw [← DQ];exact XM C4
 have Yp:A.told.length≤4294967296:=by
  have:=(hGd.steps fu.toNat).lt;rw [hA] at this;omega
 obtain ⟨A2,hA2⟩:∃ A2,M.cC (fu.toNat+m.toNat)=A2:=⟨_,rfl⟩;rw [hA2] at Hv fK ⊢;unfold uJ;refine φ ?_;refine de ?_;intro wc xI sB hsc;refine cu (cs:=[I 0,.slice none 0 0,I 0,I 0,I 0,I 0,I 0,.string ⟨#[]⟩]) rfl rfl xI rfl rfl (Hk fK _ _ _) ?_;intro wd oR BY Ed;have O3:Mod (fun _=>False) wb wd:=sB.step BY (fun b hb hl=>by omega);have O4:=OU.trans O3;have O5:=uV.trans O4;have Hw:wd.heap[wb.heap.size]? = some (.cells [I (nL A2),v2,I A2.stuck,I A2.steps,I 0,I 0,I 0,.string ⟨#[]⟩].toArray 37 (0,0)):=oR;have Hx:=O4.at Hu (fun h=>h);obtain ⟨fp1,o1,_⟩:=hv;obtain ⟨jH,o2,_⟩:=fK;have r1:=OY ((o1.mod DP (fun _ _ h=>h)).mod O4 (fun _ _ h=>h));have r2:=OY (o2.mod O3 (fun _ _ h=>h));by_cases hk:nL A=4
 case neg=>
  have f2:(nL A != 4)=true:=by simpa using hk
  have hAA:=Hv.1 hk;rw [hAA] at r2 Hw;simp only [go_sem,Nat.reduceAdd,Nat.reduceEqDiff,Nat.reduceLT,Nat.reduceLeDiff,Nat.reduceMul,reduceCtorEq,↓reduceIte,f0,cell_of Hx,f2,Hj Hx,Hj Hw];refine δ (by rfl) (al5 (k:=nL A) (st:=A.stuck) (n:=A.steps) r1 r2 Yp) ?_;rintro _ we ⟨rfl,Hy⟩;refine φ ?_
  first | exact ⟨rfl,O5.trans Hy⟩ | exact O5.trans Hy
 obtain ⟨k1,k2,l,k3⟩:=Hv.2 hk;have f2:(nL A != 4)=false:=by rw [hk];rfl
 have n12:A.told.length≤A2.told.length:=by rw [k3,List.length_append];omega
 obtain ⟨a1,c1,rfl,dk,_⟩:=o1.val;obtain ⟨a2,c2,rfl,cy,pj⟩:=o2.val;have g1:decide ((A.told.length:Int) > (A2.told.length:Int))=false:=by rw [decide_eq_false_iff_not];omega
 have g2:decide (A.steps > A2.steps)=false:=by rw [decide_eq_false_iff_not];omega
 have g3:(A.steps != fu)=false:=by
  rw [k1,Int.toNat_of_nonneg bC.1];simp
 have b1:(0:Int)≤(A.told.length:Int):=by omega
 have b2:(A.told.length:Int)≤(c2:Int):=by omega
 have amk:wd.drew.heap[wb.heap.size]? = _:=Hw;have aml:wd.drew.heap[w8.heap.size]? = _:=Hx;have e7:Option.map (fun (x:Addr)=>x) a2=a2:=by cases a2<;>rfl
 have r3:dB wd (.slice a2 A.told.length c2) 2 (A.told.map fe) (fun b=>jH=some b):=by
  have o3:=o2.mod O3 (fun _ _ h=>h);rw [k3,List.flatMap_append] at o3;exact OY (T:=42) (o3.pre (by rw [← al3 A.told,List.flatMap_map];rfl) (by rw [List.length_append];omega))
 simp only [go_sem,Nat.reduceAdd,Nat.reduceEqDiff,Nat.reduceLT,Nat.reduceLeDiff,Nat.reduceMul,reduceCtorEq,↓reduceIte,f0,f2,cell_of Hx,cell_of Hw,g1,g2,g3,b1,b2,cell_of amk,cell_of aml,e7,ite_self,Nat.sub_zero,Int.toNat_natCast];refine ao (by rfl) ?_;have qF:Mod (fun _=>False) wd wd.drew:=(Mod.refl _ _).drew;refine (Yl (w:=wd.drew) (r1.mod qF (fun _ _ h=>h) (fun _ h=>h)) (r3.mod qF (fun _ _ h=>h) (fun _ h=>h)) Yp).mono ?_;rintro _ we ⟨rfl,Hy⟩;exact ⟨rfl,(O5.trans qF).trans Hy⟩
end
end
section
open Go Go.W Go.ChangeShapes Go.WideShapes Go.ChangeAt Go.RowKit Go.Deep
section
variable {H:Type} {enc:TypeId×Value→H} {w:World} {ts:List TypeId} {args:List Value} {ds:List (DataW H)}
theorem amm (h:nX enc Tryz.prog (25::ts) w args ds):∃ bt bp T args' d gE,args=eC bt bp::args'∧ds=d::gE∧dE w bt bp T (· < w.heap.size)∧lg T∧T.M9≤Rows.uptoBulk d∧nX enc Tryz.prog ts w args' gE:=by
 obtain ⟨v,args',d,gE,base,p,rfl,rfl,h',mw,hd,hw⟩:=DL h;obtain ⟨cs,rfl,_⟩:=okWide_struct Tryz.underlying25 mw;obtain ⟨fuel,hf⟩:=hd;obtain ⟨bt,bp,T,e,h1,h2,h3⟩:=aiH (y:=(d,p)) (by simpa [Value.cells] using hf) hw;have e':cs = #[bt,bp]:=Array.ext' e;subst e';exact ⟨bt,bp,T,args',d,gE,rfl,rfl,h1,h2,h3,h'⟩
theorem amn (h:nX enc Tryz.prog (28::ts) w args ds):∃ heap bj every args' d gE,args=nM heap bj every::args'∧ds=d::gE∧nX enc Tryz.prog ts w args' gE:=by
 obtain ⟨v,args',d,gE,base,p,rfl,rfl,h',mw,hd,hw⟩:=DL h;obtain ⟨cs,rfl,_⟩:=okWide_struct Tryz.underlying28 mw;obtain ⟨fuel,hf⟩:=hd;obtain ⟨heap,bj,every,e⟩:=aiJ (y:=(d,p)) (by simpa [Value.cells] using hf);have e':cs = #[I heap,.bool bj,I every]:=Array.ext' e;subst e';exact ⟨heap,bj,every,args',d,gE,rfl,rfl,h'⟩
theorem amo (h:nX enc Tryz.prog (9::ts) w args ds):∃ (s:ByteArray) (args':List Value) (d:DataW H) (gE:List (DataW H)),args = .string s::args'∧ds=d::gE∧s.size≤140737488351232∧s.size+1=Rows.uptoBulk d∧nX enc Tryz.prog ts w args' gE:=by
 obtain ⟨v,args',d,gE,base,p,rfl,rfl,h',mw,hd,hw⟩:=DL h;obtain ⟨s,rfl⟩:=okWide_string Tryz.underlying9 mw;obtain ⟨fuel,hf⟩:=hd;obtain ⟨s',e,h1,h2⟩:=M8 (y:=(d,p)) (by simpa [Value.cells] using hf) hw;cases e;exact ⟨s,args',d,gE,rfl,rfl,h1,h2,h'⟩
theorem amp (h:nX enc Tryz.prog (26::ts) w args ds):∃ v input args' d gE,args=v::args'∧ds=d::gE∧Ints w v input∧input.length+5≤17592186044416∧nX enc Tryz.prog ts w args' gE:=by
 obtain ⟨v,args',d,gE,base,p,rfl,rfl,h',mw,hd,hw⟩:=DL h;obtain ⟨a0,len,cap,rfl⟩:=okWide_slice Tryz.underlying26 mw;obtain ⟨fuel,hf⟩:=hd;obtain ⟨c,xs,e,h1,h2⟩:=ZA (x:=(d,p)) Tryz.underlying26 Tryz.underlying3 Tryz.Dr Tryz.aiC (by simpa [Value.cells] using hf) hw;cases e;exact ⟨_,xs,args',d,gE,rfl,rfl,h1,h2,h'⟩
end
theorem amq {H:Type} {enc:TypeId×Value→H} {C:Go.Checked} {os:Os} {f:FuncId} {fn:Func} {s:ChangeSpec} {tb:TypeId} {F:Stop.Interp} {L:List (String×DataW Unit)} (own:ownKnob C.prog.godebug=none) (started:os.Started) (amr:C.prog.inits.idxOf? f=none) (nT:C.prog.funcs[f]? = some fn)
   (witness:∃ (w:World) (tape:Tape) (i:Input),w.os=os∧(w.forCall tape i).Shaped C.prog∧i.vars=[]∧Input.okWide C.prog (w.forCall tape i) .any w.heap.size f i ∧
    (OpenSpec.ofChange s).preRow enc C.prog fn [] false L (w.forCall tape i).memory i.args∧({}:Assume).holds C.prog (lone (Frame.enter C.prog f i.args .normal) [] (w.forCall tape i)))
   (laid:laidOutB C.prog=true) (ams:fn.params.toList.all (fun t=>C.prog.readableRec t&&decide (t < C.prog.types.size))=true)
   (amt:fn.resultTypes = #[tb]) (hb:C.prog.underlying tb=some .bool) (O6:s.vars=[])
   (hs:∀ ds:List (DataW H),ds.length=fn.params.toList.length→s.fn H ds = { results:=[.lit (.bool true)],args:=ds})
   (walk:∀ (W:World) (args:List Value) (ds:List (DataW H)),nX enc C.prog fn.params.toList W args ds→laidMetH C.prog L W→aD C.prog f args W fun q w'=>q = .bool true∧Mod (fun _=>False) W w') :
   ReturnsInHanded {} C os f .any ((OpenSpec.ofChange s).preRow enc C.prog fn [] false L) (((OpenSpec.ofChange s).at F).post enc C.prog fn false true false false):=by
 refine returnsInHanded_of_row (s:=OpenSpec.ofChange s) own started amr nT witness ?_;intro W base args ds gs before mw hW _ Ig dy amu _ _;have hW:DataW.Whole enc C.prog fn.params.toList s.vars false W args.toList ds gs before:=hW;have O7:=hW;obtain ⟨p,q,hA,hV,rfl,_,_⟩:=hW;rw [O6] at hV;obtain ⟨rfl,rfl⟩:=trodVars_none hV;simp only [List.append_nil] at O7 dy;have Nb:(DataW.weightsEach C.prog fn.params.toList ds).all (·≤reachBytes)=true:=by
  have e:(OpenSpec.ofChange s).bare.plain.varTypes C.prog=[]:=by
   show (s.plain).varTypes C.prog=[];simp [DataSpec.varTypes,ChangeSpec.plain,O6]
  rw [e,List.append_nil] at dy;exact dy
 have key:=walk W args.toList ds ⟨⟨base,fun j t v ht hv=>mw j t v (by simpa using ht) (by simpa using hv)⟩,⟨p,hA⟩,Nb⟩ amu;have e:args.toList.toArray=args:=by simp
 unfold aD at key;rw [e] at key;refine key.mono ?_;rintro _ W' ⟨_,rfl,rfl,hm⟩;have Yq:=Zz hm;have ah:∀ x∈p,x.block < W.heap.size:=fun x U=>by simpa using O7.lt x U
 have hf:=hs ds (PQ hA);have jO:((OpenSpec.ofChange s).at F).fn H ds = { results:=[.lit (.bool true)],args:=ds}:=hf;refine ⟨_,rfl,ds,[],_,[],p,[],O7,?_,?_,?_,Yq.frame _,fun h=>by cases h⟩
 ·rw [List.append_nil,jO,amt];exact trodAll_mk1 (shut_bool hb true)
 ·rw [List.append_nil,jO];exact PR laid Yq ams ah hA
 ·have pQ:((OpenSpec.ofChange s).at F).vars=[]:=O6;rw [List.append_nil,jO,pQ];rfl
abbrev O8:Array Value:=#[.agg #[.slice none 0 0,.slice none 0 0],.string ⟨#[]⟩,.slice none 0 0,.agg #[.int .i64 0,.bool false,.int .i64 0],.int .i64 0,.int .i64 0]
theorem amv (os:Os) {H:Type} (enc:TypeId×Value→H):∃ places,DataW.whole enc Tryz.prog ((World.laidAll Tryz.prog os yT).forCall (fun _ _=>0) ⟨#[],O8,[]⟩).memory Tryz.f6.params.toList Rows.streamMoreSpec.vars false O8.toList 8=some ([.agg [.nil,.nil],.lit (.string []),.nil,.agg [.lit (.int .i64 0),.lit (.bool false),.lit (.int .i64 0)],.lit (.int .i64 0),.lit (.int .i64 0)],[],places):=
 ⟨[],by kernel_rfl⟩
theorem amw (os:Os) (started:os.Started) (H:Type) (enc:TypeId×Value→H) (F:Stop.Interp) :
   ReturnsInHanded {} Tryz.checked os 6 .any ((OpenSpec.ofChange Rows.streamMoreSpec).preRow enc Tryz.prog Tryz.f6 [] false yT) (((OpenSpec.ofChange Rows.streamMoreSpec).at F).post enc Tryz.prog Tryz.f6 false true false false):=by
 obtain ⟨places,U⟩:=amv os enc;refine amq (C:=Tryz.checked) Tryz.own started (by kernel_rfl) Tryz.func6
  (witness_row_at (enc:=enc) (C:=Tryz.checked) false (World.laidAll Tryz.prog os yT) O8 (World.laidAll_os _ _ _) (by kernel_rfl) (by kernel_rfl) (by kernel_rfl)
   (OpenSpec.preRow_of_cond 8 U (by kernel_rfl) (fun k hk=>by cases hk) (by kernel_rfl) (akX os _)))
  Tryz.laidOut (by kernel_rfl) (tb:=4) (by kernel_rfl) Tryz.underlying4 rfl ?_ ?_
 ·intro ds hd;rw [Tryz.params6] at hd
  match ds,hd with
  | [_,_,_,_,_,_],_=>rfl
 ·intro W args ds h hl;rw [Tryz.params6] at h;obtain ⟨bt,bp,T,aoD,_,_,rfl,rfl,ht,hT,_,h1⟩:=amm h;obtain ⟨entry,aoE,_,_,rfl,rfl,_,_,h2⟩:=amo h1;obtain ⟨jv,input,aoF,_,_,rfl,rfl,cK,_,h3⟩:=amp h2;obtain ⟨heap,bj,every,aoG,_,_,rfl,rfl,h4⟩:=amn h3;obtain ⟨raw,aoH,_,_,rfl,rfl,h5⟩:=XS h4;obtain ⟨more,aoI,_,_,rfl,rfl,h6⟩:=XS h5;obtain ⟨rfl,rfl⟩:=akW h6;exact al' ht hT (fun _ h=>h) cK (akY hl)
theorem amx:Rows.StreamMoreSaid:=
 OpenClaim.holds_of_cond 6 Tryz.f6 rfl rfl rfl rfl rfl rfl rfl ⟨rfl,rfl,rfl,rfl,rfl⟩ rfl rfl rfl rfl rfl (by kernel_rfl) Tryz.func6 (by kernel_rfl)
  (of_decide_eq_true (by kernel_rfl)) (by unfold Func.isWrapper;first | (rw [if_pos (by decide +kernel)];kernel_rfl) | (rw [if_neg (by decide +kernel)];exact ⟨rfl,rfl⟩))
  (fun os started H enc _ F=>by rw [OpenClaim.pre_eq_preRow];exact amw os started H enc F)
theorem amy (f:FuncId) (fn:Func) (hf:Tryz.pinned.checked.prog.funcNamed "sloth/slothlaw23.StreamMore" = some f) (nT:Tryz.pinned.checked.prog.funcs[f]? = some fn) :
   false=Tryz.pinned.checked.prog.looks []∧∀ (j:Nat) t,fn.params[j]? = some t→Tryz.pinned.checked.prog.wantsStandIn t=false:=by
 obtain rfl:f=6:=Option.some.inj ((show Tryz.prog.funcNamed "sloth/slothlaw23.StreamMore" = some 6 by kernel_rfl).symm.trans hf) |>.symm;obtain rfl:fn=Tryz.f6:=(Option.some.inj (Tryz.func6.symm.trans nT)).symm;refine ⟨by kernel_rfl,fun j t ht=>?_⟩;rw [Tryz.params6] at ht;have hm:t∈[25,9,26,28,3,3]:=by simpa using Array.mem_of_getElem? ht
 have cA:([25,9,26,28,3,3].all fun u=>!Tryz.prog.wantsStandIn u)=true:=by kernel_rfl
 exact (show Tryz.prog.wantsStandIn t=false by simpa using List.all_eq_true.1 cA t hm)
theorem streamMore_holds:Rows.StreamMoreCardSaid:=
 Claim7.holds_tied_plain_at .later [] _ _ _ _ amx (fun _ h=>by cases h) (by kernel_rfl) (fun _ h=>by cases h) streamMore_row_tie rfl ⟨rfl,rfl⟩ (by kernel_rfl) rfl amy (by kernel_rfl)
#print axioms streamMore_holds
end
end Go.Proofs.YtnjobkbblhaliaaGreatDoor